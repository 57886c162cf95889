/- The example of layer 16; sizes; BandLoud, BandDoubles. -/
import Derived.Test.YtnmhbonheaoldaaBand
import Derived.Test.YtnmhbonheaoldaaBandB
import Derived.Test.YtnmhbonheaoldaaFill
import Derived.Test.YtnmhbonheaoldaaMax3
import Derived.Deep.QuietTactic
import Derived.BigQuiet
namespace Go.Proofs.Ytnmhbonheaoldaa
open Go.RowKit

theorem step_eg1 : stepL [6, 0, 0, 0] = 0 := by decide +kernel
theorem step_eg2 : stepL [-7, 0, 0, 0] = 1 := by decide +kernel

theorem awake16_calls (w : World) : Calls Try.prog 21 #[] w fun e w' => e = .returned (.bool true) ∧ Below w.heap.size w w' := by
  have h1 := fun w => step_calls [6, 0, 0, 0] w rfl (by decide)
  have h2 := fun w => step_calls [-7, 0, 0, 0] w rfl (by decide)
  rw [step_eg1] at h1
  rw [step_eg2] at h2
  go_enter Try.func21, Try.ntmps21
  go_wp2_with fail
  refine (h1 _).mono ?_
  rintro e w1 ⟨rfl, hB⟩
  go_wp2_with fail
  refine (h2 _).mono ?_
  rintro e w2 ⟨rfl, hC⟩
  replace hB := bnext hB hC
  go_wp2_with fail
  go_ret
  exact ⟨rfl, hB⟩

theorem size16_calls (x : Int) (w : World) (h0 : -4611686018427387904 ≤ x) (h1 : x ≤ 4611686018427387904) :
    Calls Try.prog 23 #[.int .i64 x] w fun e w' => e = .returned (.int .i64 (sizeB x)) ∧ w = w' := by
  have hm : max (max x (-x)) 0 = max x (-x) := by omega
  go_enter Try.func23, Try.ntmps23
  go_wp2
  go_ret
  exact ⟨ret_i64 (by simp only [sizeB]), rfl⟩

/-- numbers brought into less than 2^50 -/
def mod50 (zs : List Int) : List Int := (List.range 4).map fun i => (zs.getD i 0).tmod 1125899906842624
theorem mod50_four (zs : List Int) : mod50 zs = [(zs.getD 0 0).tmod 1125899906842624, (zs.getD 1 0).tmod 1125899906842624, (zs.getD 2 0).tmod 1125899906842624, (zs.getD 3 0).tmod 1125899906842624] := rfl
theorem mod50_bd (n : Int) : -1125899906842623 ≤ n.tmod 1125899906842624 ∧ n.tmod 1125899906842624 ≤ 1125899906842623 := tmod_bd n (m := 1125899906842623) (by omega)

set_option maxHeartbeats 1000000 in
theorem bandLoud_walk (a0 : List Int) (l0 : a0.length = 4) (w0 : ∀ z ∈ a0, (Lit.int .i64 z).wf = true) (w : World) : Calls Try.prog 6 #[.agg (a0.map (Value.int .i64)).toArray] w (LawTrue w) := by
  have b0 := blk_new w 28 (ints a0)
  have hA := (Below.refl _ w).alloc (Nat.le_refl _) (.cells (ints a0) 28)
  have W0 := Lib.hid w0
  clear w0
  rw [show (a0.map (Value.int .i64)).toArray = ints a0 from rfl]
  go_enter Try.func6, Try.ntmps6
  go_wp2_with fail
  refine (awake16_calls _).mono ?_
  rintro e w1 ⟨rfl, hB⟩
  have k0 := blk_below b0 hB (blk_lt b0)
  have B0 := bnext hA hB
  clear b0 hA hB
  have K0 := Lib.hid k0
  clear k0
  go_wp2_with fail
  go_loopg [3] 4 (fun gg s3 wr => ∃ kk : Nat, kk ≤ 4 ∧ 4 - kk ≤ gg ∧ s3 = .int .i64 kk ∧ Aside (Below w.heap.size w wr) ∧ Aside (Blk wr w.heap.size 28 (ints (overTo (fun i => (a0.getD i 0).tmod 1125899906842624) a0 kk))))
  case atStart => exact ⟨0, Nat.zero_le _, by omega, rfl, B0, by rw [overTo_zero]; exact K0.out⟩
  case round =>
    clear K0
    obtain ⟨kk, hkk, hg, rfl, B, K⟩ := hrel
    by_cases hlt : kk < 4
    · have hltz : (kk : Int) < 4 := by omega
      have hlo := overTo_len (fun i => (a0.getD i 0).tmod 1125899906842624) a0 kk
      have c0 := blk_int K.out (i := kk) (by omega)
      rw [overTo_get (by omega), if_neg (by omega)] at c0
      have f0 := blk_free K.out kk
      have hw := i64_bounds (W0.out (a0.getD kk 0) (by rw [List.getD_eq_getElem?_getD, List.getElem?_eq_getElem (by omega)]; exact List.getElem_mem (by omega)))
      generalize hs : a0.getD kk 0 = s at *
      have HS := Lib.hid hs
      clear hs hlo
      go_wp2_with fail
      go_roundg (4 - (kk + 1))
      case measure => omega
      case rel =>
        refine ⟨kk + 1, by omega, by omega, by go_num, B.out.setCell (p := ⟨_, _, none⟩) (Nat.le_refl _) _, ?_⟩
        have h := blk_set_int K.out kk (s.tmod 1125899906842624)
        rw [overTo_succ (by rw [← HS.out]) (by omega)] at h
        exact h
    · have hltz : ¬ (kk : Int) < 4 := by omega
      have : kk = 4 := by omega
      subst this
      have k0 := K.out
      rw [overTo_all l0, show (List.range 4).map (fun i => (a0.getD i 0).tmod 1125899906842624) = mod50 a0 from rfl, mod50_four] at k0
      have q0 := mod50_bd (a0.getD 0 0)
      have q1 := mod50_bd (a0.getD 1 0)
      have q2 := mod50_bd (a0.getD 2 0)
      have q3 := mod50_bd (a0.getD 3 0)
      generalize (a0.getD 0 0).tmod 1125899906842624 = x0 at *
      generalize (a0.getD 1 0).tmod 1125899906842624 = x1 at *
      generalize (a0.getD 2 0).tmod 1125899906842624 = x2 at *
      generalize (a0.getD 3 0).tmod 1125899906842624 = x3 at *
      clear K W0 hltz hkk hg
      have hll := loud_law x0 x1 x2 x3
      have s0 := step_calls [x0, x1, x2, x3] wr rfl (by simp only [List.mem_cons, List.not_mem_nil, or_false, forall_eq_or_imp, forall_eq]; omega)
      go_wp2_with (first | (refine wpList_load_row rfl 28 _ rfl w.heap.size rfl 28 (ints [x0, x1, x2, x3]) (0, 0) _ k0 Try.underlying28 rfl (by kernel_rfl) ?_))
      refine s0.mono ?_
      rintro e w2 ⟨rfl, hC⟩
      have k1 := blk_below k0 hC (blk_lt k0)
      have hB := bnext B.out hC
      clear s0 hC k0 B
      generalize stepL [x0, x1, x2, x3] = st at *
      have c0 := blk_int k1 (i := 0) (by simp)
      have c1 := blk_int k1 (i := 1) (by simp)
      have c2 := blk_int k1 (i := 2) (by simp)
      have c3 := blk_int k1 (i := 3) (by simp)
      simp only [List.getD_cons_zero, List.getD_cons_succ] at c0 c1 c2 c3
      clear k1
      have hp := pow_le15 hll.1
      have HL := Lib.hid hll
      clear hll
      go_wp2_with fail
      go_quiet ((go_at_call 23; exact Calls.quiet_of_same ((size16_calls _ _ (by omega) (by omega)).mono fun _ _ h => ⟨h.1, h.2.symm⟩)))
      have hl : st ≤ 15 ∧ (st = 15 ∨ max (sizeB x0) (max (sizeB x1) (max (sizeB x2) (sizeB x3))) ≤ 6 * 2 ^ st) ∧ (st = 0 ∨ 3 * 2 ^ st < max (sizeB x0) (max (sizeB x1) (max (sizeB x2) (sizeB x3)))) := by
        have := HL.out
        generalize (2 : Int) ^ st = p at *
        omega
      clear HL c0 c1 c2 c3
      generalize max (sizeB x0) (max (sizeB x1) (max (sizeB x2) (sizeB x3))) = m at *
      have hw1 : wrap64 (6 * 2 ^ st) = 6 * 2 ^ st := IntWalk.wrap64_in _ ⟨by omega, by omega⟩
      have hw2 : wrap64 (3 * 2 ^ st) = 3 * 2 ^ st := IntWalk.wrap64_in _ ⟨by omega, by omega⟩
      have hE := below_draws hB nq
      have h15 : (st : Int) ≤ 15 := by omega
      obtain ⟨e1, e2, e3⟩ := hl
      have E2 := Lib.hid e2
      have E3 := Lib.hid e3
      have E4 := Lib.hid (show st ≠ 15 ∨ (2 : Int) ^ st = 32768 from by by_cases h : st = 15 <;> simp [h])
      have E5 := Lib.hid (show st ≠ 0 ∨ (2 : Int) ^ st = 1 from by by_cases h : st = 0 <;> simp [h])
      clear e2 e3
      go_wp2_with fail
      all_goals (go_ret; refine ⟨ret_true ?_, hE⟩; have e2 := E2.out; have e3 := E3.out; have e4 := E4.out; have e5 := E5.out; generalize (2 : Int) ^ st = p at *; first | rfl | (simp; omega))
set_option maxHeartbeats 1000000 in
theorem bandDoubles_walk (a0 : List Int) (l0 : a0.length = 4) (w0 : ∀ z ∈ a0, (Lit.int .i64 z).wf = true) (w : World) : Calls Try.prog 7 #[.agg (a0.map (Value.int .i64)).toArray] w (LawTrue w) := by
  have b0 := blk_new w 28 (ints a0)
  have hA := (Below.refl _ w).alloc (Nat.le_refl _) (.cells (ints a0) 28)
  have W0 := Lib.hid w0
  clear w0
  rw [show (a0.map (Value.int .i64)).toArray = ints a0 from rfl]
  go_enter Try.func7, Try.ntmps7
  go_wp2_with fail
  refine (awake16_calls _).mono ?_
  rintro e w1 ⟨rfl, hB⟩
  have k0 := blk_below b0 hB (blk_lt b0)
  have B0 := bnext hA hB
  clear b0 hA hB
  have K0 := Lib.hid k0
  clear k0
  go_wp2_with fail
  go_loopg [3] 4 (fun gg s3 wr => ∃ kk : Nat, kk ≤ 4 ∧ 4 - kk ≤ gg ∧ s3 = .int .i64 kk ∧ Aside (Below w.heap.size w wr) ∧ Aside (Blk wr w.heap.size 28 (ints (overTo (fun i => (a0.getD i 0).tmod 1125899906842624) a0 kk))))
  case atStart => exact ⟨0, Nat.zero_le _, by omega, rfl, B0, by rw [overTo_zero]; exact K0.out⟩
  case round =>
    clear K0
    obtain ⟨kk, hkk, hg, rfl, B, K⟩ := hrel
    by_cases hlt : kk < 4
    · have hltz : (kk : Int) < 4 := by omega
      have hlo := overTo_len (fun i => (a0.getD i 0).tmod 1125899906842624) a0 kk
      have c0 := blk_int K.out (i := kk) (by omega)
      rw [overTo_get (by omega), if_neg (by omega)] at c0
      have f0 := blk_free K.out kk
      have hw := i64_bounds (W0.out (a0.getD kk 0) (by rw [List.getD_eq_getElem?_getD, List.getElem?_eq_getElem (by omega)]; exact List.getElem_mem (by omega)))
      generalize hs : a0.getD kk 0 = s at *
      have HS := Lib.hid hs
      clear hs hlo
      go_wp2_with fail
      go_roundg (4 - (kk + 1))
      case measure => omega
      case rel =>
        refine ⟨kk + 1, by omega, by omega, by go_num, B.out.setCell (p := ⟨_, _, none⟩) (Nat.le_refl _) _, ?_⟩
        have h := blk_set_int K.out kk (s.tmod 1125899906842624)
        rw [overTo_succ (by rw [← HS.out]) (by omega)] at h
        exact h
    · have hltz : ¬ (kk : Int) < 4 := by omega
      have : kk = 4 := by omega
      subst this
      have k0 := K.out
      rw [overTo_all l0, show (List.range 4).map (fun i => (a0.getD i 0).tmod 1125899906842624) = mod50 a0 from rfl, mod50_four] at k0
      have q0 := mod50_bd (a0.getD 0 0)
      have q1 := mod50_bd (a0.getD 1 0)
      have q2 := mod50_bd (a0.getD 2 0)
      have q3 := mod50_bd (a0.getD 3 0)
      generalize (a0.getD 0 0).tmod 1125899906842624 = x0 at *
      generalize (a0.getD 1 0).tmod 1125899906842624 = x1 at *
      generalize (a0.getD 2 0).tmod 1125899906842624 = x2 at *
      generalize (a0.getD 3 0).tmod 1125899906842624 = x3 at *
      clear K W0 hltz hkk hg
      have hdl := doubles_law [x0, x1, x2, x3]
      simp only [List.map_cons, List.map_nil] at hdl
      have hs15 := stepL_le [x0, x1, x2, x3]
      have hd15 := stepL_le [2 * x0, 2 * x1, 2 * x2, 2 * x3]
      have s0 := step_calls [x0, x1, x2, x3] wr rfl (by simp only [List.mem_cons, List.not_mem_nil, or_false, forall_eq_or_imp, forall_eq]; omega)
      have s1 := fun W => step_calls [2 * x0, 2 * x1, 2 * x2, 2 * x3] W rfl (by simp only [List.mem_cons, List.not_mem_nil, or_false, forall_eq_or_imp, forall_eq]; omega)
      go_wp2_with (first | (refine wpList_load_row rfl 28 _ rfl w.heap.size rfl 28 (ints [x0, x1, x2, x3]) (0, 0) _ k0 Try.underlying28 rfl (by kernel_rfl) ?_))
      refine s0.mono ?_
      rintro e w2 ⟨rfl, hC⟩
      have k1 := blk_below k0 hC (blk_lt k0)
      have hB := bnext B.out hC
      clear s0 hC k0 B
      generalize stepL [x0, x1, x2, x3] = st at *
      have c0 := blk_int k1 (i := 0) (by simp)
      have c1 := blk_int k1 (i := 1) (by simp)
      have c2 := blk_int k1 (i := 2) (by simp)
      have c3 := blk_int k1 (i := 3) (by simp)
      simp only [List.getD_cons_zero, List.getD_cons_succ] at c0 c1 c2 c3
      clear k1
      have S1 := Lib.hid s1
      have HD := Lib.hid hdl
      clear s1 hdl
      go_wp2_with fail
      refine (S1.out _).mono ?_
      rintro e w3 ⟨rfl, hC⟩
      have hE := bnext hB hC
      have e2 := HD.out
      clear S1 HD hC c0 c1 c2 c3
      generalize stepL [2 * x0, 2 * x1, 2 * x2, 2 * x3] = sd at *
      have h1 : (st : Int) ≤ sd := by omega
      have h2 : (sd : Int) ≤ st + 1 := by omega
      have E2 := Lib.hid e2
      clear e2
      go_wp2_with fail
      all_goals (go_ret; refine ⟨ret_true ?_, hE⟩; have e2 := E2.out; first | rfl | (simp; omega))

end Go.Proofs.Ytnmhbonheaoldaa
