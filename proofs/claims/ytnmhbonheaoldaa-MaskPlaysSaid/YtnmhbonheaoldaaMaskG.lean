/- The walk of layer 17's statement MaskBoth. -/
import Derived.Test.YtnmhbonheaoldaaMaskF
namespace Go.Proofs.Ytnmhbonheaoldaa
open Go.RowKit
attribute [local go_sem ↓] Go.wp_at_zero Go.wp_at_succ

def mod13 (zs : List Int) : List Int := (List.range 4).map fun i => (zs.getD i 0).tmod 13
theorem mod13_len (zs : List Int) : (mod13 zs).length = 4 := by simp [mod13]
theorem mod13_get (zs : List Int) (i : Nat) : -12 ≤ (mod13 zs).getD i 0 ∧ (mod13 zs).getD i 0 ≤ 12 := by
  rcases Nat.lt_or_ge i 4 with h | h
  · have := tmod_bd (zs.getD i 0) (m := 12) (by omega)
    simpa [mod13, List.getD_eq_getElem?_getD, List.getElem?_map, List.getElem?_range h] using this
  · rw [List.getD_eq_getElem?_getD, List.getElem?_eq_none (by rw [mod13_len]; exact h)]; decide
theorem mod13_in (zs : List Int) : ∀ z ∈ mod13 zs, -9223372036854775808 ≤ z ∧ z ≤ 9223372036854775807 := by
  intro z hz
  obtain ⟨i, hi, rfl⟩ := List.mem_iff_getElem.1 hz
  have := mod13_get zs i
  rw [List.getD_eq_getElem?_getD, List.getElem?_eq_getElem hi, Option.getD_some] at this
  omega
theorem mod13_held (y z : List Int) : heldTo (mod13 y) (mod13 z) 4 = true := by
  simp only [heldTo, List.all_eq_true]
  intro i _
  have h1 := mod13_get y i
  have h2 := mod13_get z i
  rw [greatB_not, decide_eq_true_iff]
  omega
theorem farL_held {y z : List Int} (h : heldTo y z 4 = true) : farL y z = farTo y z 4 := by unfold farL; rw [h, if_pos rfl]
theorem farL_zero {y z : List Int} (hy : y.length = 4) (hz : z.length = 4) (h : heldTo y z 4 = true) : (farL y z == 0) = decide (y = z) := by
  rw [farL_held h, Bool.eq_iff_iff, beq_iff_eq, decide_eq_true_iff, farTo_zero]
  constructor
  · intro hi
    exact list_getD_ext (by rw [hy, hz]) (fun i hi' => hi i (by omega))
  · rintro rfl i _
    rfl
theorem mayL_comm (s : List Int) (b : Nat) (y z : List Int) : mayL s b y z = mayL s b z y := by unfold mayL; rw [farL_comm]
theorem mayL_self (s : List Int) {b : Nat} (hb : b < 8) {y : List Int} (hy : y.length = 4) (h : heldTo y y 4 = true) : mayL s b y y = true := by
  have h0 := farL_zero hy hy h
  rw [decide_eq_true rfl, beq_iff_eq] at h0
  have := moves_four s hb
  unfold mayL
  rw [h0]
  simp
  omega
theorem mayL_gain (s : List Int) (b : Nat) {y z : List Int} (h : heldTo y z 4 = true) : mayL s b y z = decide (farL y z * 2 ^ (s.getD b 0).toNat ≤ budL s b) := by
  have h0 := farTo_bd h
  unfold mayL movesL
  rw [farL_held h, decide_eq_true h0.1, Bool.true_and, Bool.eq_iff_iff, decide_eq_true_iff, decide_eq_true_iff]
  exact Int.le_ediv_iff_mul_le (pow_pos' _)

/-- what the walk of MaskBoth knows of its memory -/
def BothM (w : World) (g : Nat) (s y z : List Int) (W : World) : Prop :=
  Blk W g 37 (ints s) ∧ Blk W (w.heap.size + 1) 28 (ints y) ∧ Blk W (w.heap.size + 2) 28 (ints z) ∧ Below w.heap.size w W
theorem bothM_below {w W W' : World} {g : Nat} {s y z : List Int} (h : BothM w g s y z W) (hC : Below W.heap.size W W') : BothM w g s y z W' :=
  ⟨blk_below h.1 hC (blk_lt h.1), blk_below h.2.1 hC (blk_lt h.2.1), blk_below h.2.2.1 hC (blk_lt h.2.2.1), bnext h.2.2.2 hC⟩
theorem bothM_drew {w W : World} {g : Nat} {s y z : List Int} (h : BothM w g s y z W) : BothM w g s y z W.drew := ⟨blk_drew h.1, blk_drew h.2.1, blk_drew h.2.2.1, h.2.2.2.drew⟩

set_option maxHeartbeats 8000000 in
theorem maskBoth_walk (a0 : List Int) (a1 : Int) (a2 a3 : List Int) (l0 : a0.length = 8) (w0 : ∀ z ∈ a0, (Lit.int .i64 z).wf = true) (w1 : (Lit.int .u8 a1).wf = true) (l2 : a2.length = 4) (w2 : ∀ z ∈ a2, (Lit.int .i64 z).wf = true) (l3 : a3.length = 4) (w3 : ∀ z ∈ a3, (Lit.int .i64 z).wf = true) (w : World) : Calls Try.prog 13 #[.agg (a0.map (Value.int .i64)).toArray, .int .u8 a1, .agg (a2.map (Value.int .i64)).toArray, .agg (a3.map (Value.int .i64)).toArray] w (LawTrue w) := by
  have u1 : 0 ≤ a1 ∧ a1 ≤ 255 := by simp [Lit.wf, IntKind.min, IntKind.max, IntKind.signed, IntKind.bits] at w1; omega
  obtain ⟨k, hk⟩ : ∃ k : Nat, a1 % 8 = k := ⟨(a1 % 8).toNat, by omega⟩
  have hk8 : k < 8 := by omega
  have b0 := blk_alloc (blk_alloc (blk_new w 36 (ints a0)) (.cells (ints a2) 28)) (.cells (ints a3) 28)
  have b1 := blk_alloc (blk_new (w.alloc (.cells (ints a0) 36)) 28 (ints a2)) (.cells (ints a3) 28)
  have b2 := blk_new ((w.alloc (.cells (ints a0) 36)).alloc (.cells (ints a2) 28)) 28 (ints a3)
  rw [show (w.alloc (.cells (ints a0) 36)).heap.size = w.heap.size + 1 by simp] at b1
  rw [show ((w.alloc (.cells (ints a0) 36)).alloc (.cells (ints a2) 28)).heap.size = w.heap.size + 2 by simp] at b2
  have hA : Below w.heap.size w (((w.alloc (.cells (ints a0) 36)).alloc (.cells (ints a2) 28)).alloc (.cells (ints a3) 28)) := (((Below.refl _ w).alloc (Nat.le_refl _) _).alloc (by simp) _).alloc (by simp; omega) _
  have ch := fun W => held17_calls a0 W l0 (i64_all w0)
  rw [show a0.map (· % 16) = modL16 a0 from rfl] at ch
  have hr := mod16_right (zs := a0)
  have hl := mod16_len l0
  have HW2 := Lib.hid (i64_all w2)
  have HW3 := Lib.hid (i64_all w3)
  have HYL := Lib.hid (mod13_len a2)
  have HZL := Lib.hid (mod13_len a3)
  rw [show (a0.map (Value.int .i64)).toArray = ints a0 from rfl, show (a2.map (Value.int .i64)).toArray = ints a2 from rfl, show (a3.map (Value.int .i64)).toArray = ints a3 from rfl]
  clear w0 w1 w2 w3
  generalize modL16 a0 = s at *
  have KK := Lib.hid hk
  have HR := Lib.hid hr
  clear hk hr
  go_enter Try.func13, Try.ntmps13
  go_wp2_with fail
  refine (awake17_calls _).mono ?_
  rintro e w1 ⟨rfl, hB⟩
  have k0 := blk_below b0 hB (blk_lt b0)
  have k1 := blk_below b1 hB (blk_lt b1)
  have k2 := blk_below b2 hB (blk_lt b2)
  have B0 := bnext hA hB
  clear b0 b1 b2 hA hB
  go_wp2_with (first | (refine wpList_load_row rfl 36 _ rfl w.heap.size rfl 36 (ints a0) (0, 0) _ k0 Try.underlying36 rfl (by rw [ints_size, l0]; kernel_rfl) ?_))
  refine (ch _).mono ?_
  rintro e w2 ⟨rfl, hC⟩
  have m1 := blk_below k1 hC (blk_lt k1)
  have m2 := blk_below k2 hC (blk_lt k2)
  have B1 := bnext B0 hC
  clear k0 k1 k2 hC B0 ch
  have nn := blk_new w2 37 #[Value.int .i64 0, Value.int .i64 0, Value.int .i64 0, Value.int .i64 0, Value.int .i64 0, Value.int .i64 0, Value.int .i64 0, Value.int .i64 0]
  go_wp2_with (first | (refine wpList_store_blk rfl 37 _ _ rfl w2.heap.size 37 _ (ints s) rfl rfl nn (by rw [ints_size, hl]; rfl) (by rw [ints_size, hl]; kernel_rfl) (ints_one _) ?_; intro w4 n0 hg))
  have hs := B1.size
  have lt1 := blk_lt m1
  have lt2 := blk_lt m2
  have B2 := below_grown (B1.alloc hs (.cells #[Value.int .i64 0, Value.int .i64 0, Value.int .i64 0, Value.int .i64 0, Value.int .i64 0, Value.int .i64 0, Value.int .i64 0, Value.int .i64 0] 37)) hg (by simp; omega) (by omega)
  have k1 := blk_grown (blk_alloc m1 (.cells #[Value.int .i64 0, Value.int .i64 0, Value.int .i64 0, Value.int .i64 0, Value.int .i64 0, Value.int .i64 0, Value.int .i64 0, Value.int .i64 0] 37)) hg (by simp; omega)
  have k2 := blk_grown (blk_alloc m2 (.cells #[Value.int .i64 0, Value.int .i64 0, Value.int .i64 0, Value.int .i64 0, Value.int .i64 0, Value.int .i64 0, Value.int .i64 0, Value.int .i64 0] 37)) hg (by simp; omega)
  have HM := Lib.hid (show BothM w w2.heap.size s a2 a3 w4 from ⟨n0, k1, k2, B2⟩)
  clear nn hg B1 m1 m2 n0 k1 k2 B2
  generalize w2.heap.size = g at *
  go_wp2_with fail
  go_loopg [10] 4 (fun gg s10 wr => ∃ kk : Nat, kk ≤ 4 ∧ 4 - kk ≤ gg ∧ s10 = .int .i64 kk ∧ Aside (BothM w g s (overTo (fun i => (a2.getD i 0).tmod 13) a2 kk) (overTo (fun i => (a3.getD i 0).tmod 13) a3 kk) wr))
  case atStart => exact ⟨0, Nat.zero_le _, by omega, rfl, by rw [overTo_zero, overTo_zero]; exact HM.out⟩
  case round =>
    clear HM
    obtain ⟨kk, hkk, hgk, rfl, H⟩ := hrel
    by_cases hlt : kk < 4
    · have hltz : (kk : Int) < 4 := by omega
      have hly := overTo_len (fun i => (a2.getD i 0).tmod 13) a2 kk
      have hlz := overTo_len (fun i => (a3.getD i 0).tmod 13) a3 kk
      have cy := blk_int H.out.2.1 (i := kk) (by omega)
      have cz := blk_int H.out.2.2.1 (i := kk) (by omega)
      rw [overTo_get (by omega), if_neg (by omega)] at cy cz
      have fy := blk_free H.out.2.1 kk
      have fz := blk_free H.out.2.2.1 kk
      have hwy := HW2.out (a2.getD kk 0) (by rw [List.getD_eq_getElem?_getD, List.getElem?_eq_getElem (by omega)]; exact List.getElem_mem (by omega))
      have hwz := HW3.out (a3.getD kk 0) (by rw [List.getD_eq_getElem?_getD, List.getElem?_eq_getElem (by omega)]; exact List.getElem_mem (by omega))
      have HY := Lib.hid (overTo_succ (g := fun i => (a2.getD i 0).tmod 13) (zs := a2) (k := kk) (v := (a2.getD kk 0).tmod 13) rfl (by omega))
      have HZ := Lib.hid (overTo_succ (g := fun i => (a3.getD i 0).tmod 13) (zs := a3) (k := kk) (v := (a3.getD kk 0).tmod 13) rfl (by omega))
      generalize a2.getD kk 0 = y at *
      generalize a3.getD kk 0 = z at *
      clear hly hlz
      go_wp2_with fail
      go_roundg (4 - (kk + 1))
      case measure => omega
      case rel =>
        obtain ⟨h1, h2, h3, h4⟩ := H.out
        refine ⟨kk + 1, by omega, by omega, by go_num, ⟨blk_far (blk_far h1 (by omega) _) (by omega) _, ?_, ?_, (h4.setCell (p := ⟨_, _, none⟩) (by show w.heap.size ≤ w.heap.size + 1; omega) _).setCell (p := ⟨_, _, none⟩) (by show w.heap.size ≤ w.heap.size + 1 + 1; omega) _⟩⟩
        · have h := blk_far (blk_set_int h2 kk (y.tmod 13)) (b := w.heap.size + 2) (i := kk) (by omega) (.int .i64 (z.tmod 13))
          rw [HY.out] at h
          exact h
        · have h := blk_set_int (blk_far h3 (b := w.heap.size + 1) (i := kk) (by omega) (.int .i64 (y.tmod 13))) kk (z.tmod 13)
          rw [HZ.out] at h
          exact h
    · have hltz : ¬ (kk : Int) < 4 := by omega
      obtain rfl : kk = 4 := by omega
      have H2 := H.out
      rw [overTo_all l2, overTo_all l3, show (List.range 4).map (fun i => (a2.getD i 0).tmod 13) = mod13 a2 from rfl, show (List.range 4).map (fun i => (a3.getD i 0).tmod 13) = mod13 a3 from rfl] at H2
      have hld := mod13_held a2 a3
      have c1 := fun W => far_calls (mod13 a2) (mod13 a3) W (mod13_len a2) (mod13_len a3) (mod13_in a2) (mod13_in a3)
      have c2 := fun W => far_calls (mod13 a3) (mod13 a2) W (mod13_len a3) (mod13_len a2) (mod13_in a3) (mod13_in a2)
      rw [farL_comm] at c2
      have m1 := fun W => may_calls s k (mod13 a2) (mod13 a3) W hl HR.out hk8 (mod13_len a2) (mod13_len a3) (mod13_in a2) (mod13_in a3)
      have m2 := fun W => may_calls s k (mod13 a3) (mod13 a2) W hl HR.out hk8 (mod13_len a3) (mod13_len a2) (mod13_in a3) (mod13_in a2)
      rw [mayL_comm] at m2
      have m3 := fun W => may_calls s k (mod13 a2) (mod13 a2) W hl HR.out hk8 (mod13_len a2) (mod13_len a2) (mod13_in a2) (mod13_in a2)
      rw [mayL_self s hk8 (mod13_len a2) (mod13_held a2 a2)] at m3
      have hz0 := farL_zero (mod13_len a2) (mod13_len a3) hld
      have e0 := fun W => eq_fours (mod13_len a2) (mod13_len a3) W
      have hmg := mayL_gain s k hld
      have hfb := farTo_bd hld
      rw [← farL_held hld] at hfb
      have hly := mod13_len a2
      have hlz := mod13_len a3
      have gk := right_get HR.out k
      have cb := fun W => budget_calls s k W hl HR.out hk8
      generalize mod13 a2 = y at *
      generalize mod13 a3 = z at *
      obtain ⟨n, hn⟩ : ∃ n : Nat, s.getD k 0 = n := ⟨(s.getD k 0).toNat, by omega⟩
      have hn15 : n ≤ 15 := by omega
      have ck := blk_int H2.1 (i := k) (by omega)
      rw [hn] at ck
      rw [hn, Int.toNat_natCast] at hmg
      have cg := fun W => refGain_calls n W hn15
      have hp := pow_le15 hn15
      generalize (2 : Int) ^ n = p at *
      generalize farL y z = f at *
      generalize mayL s k y z = m at *
      generalize budL s k = bud at *
      generalize decide (y = z) = d at *
      have hpf : 0 ≤ f * p := Int.mul_nonneg hfb.1 (by omega)
      have hpf2 : f * p ≤ 8388608 * 32768 := Int.mul_le_mul hfb.2 hp.1 (by omega) (by omega)
      have hw : IntKind.i64.wrap (f * p) = f * p := IntWalk.i64_in _ ⟨by omega, by omega⟩
      generalize hq : f * p = q at *
      have hkz : (k : Int) < 8 := by omega
      have hu0 := Try.underlying37
      have hu4 := Try.underlying28
      have hi0 : (Try.prog.info? 37).map (·.size) = some (s.map (Value.int .i64)).length := by rw [List.length_map, hl]; kernel_rfl
      have hi4 : (Try.prog.info? 28).map (·.size) = some (y.map (Value.int .i64)).length := by rw [List.length_map, hly]; kernel_rfl
      have hi5 : (Try.prog.info? 28).map (·.size) = some (z.map (Value.int .i64)).length := by rw [List.length_map, hlz]; kernel_rfl
      clear H HW2 HW3 HR hn hld gk hkk hgk hltz
      have hk := KK.out
      have HD := Lib.hid hmg
      have HZ0 := Lib.hid hz0
      have HQ := Lib.hid hq
      have HI0 := Lib.hid hi0
      have HI4 := Lib.hid hi4
      have HI5 := Lib.hid hi5
      have HCK := Lib.hid ck
      have HH := Lib.hid H2
      have k1 := H2.2.1
      have k2 := H2.2.2.1
      clear hmg hz0 hq hi0 hi4 hi5 ck H2
      go_wp2_with (first | (refine wpList_load_row rfl 28 _ rfl (w.heap.size + 1) rfl 28 (ints y) (0, 0) _ k1 Try.underlying28 rfl (by rw [ints_size, hly]; kernel_rfl) ?_) | (refine wpList_load_row rfl 28 _ rfl (w.heap.size + 2) rfl 28 (ints z) (0, 0) _ k2 Try.underlying28 rfl (by rw [ints_size, hlz]; kernel_rfl) ?_))
      refine (c1 _).mono ?_
      rintro e w5 ⟨rfl, hC⟩
      have P := bothM_below HH.out hC
      have ck5 : w5.cell? ⟨g, k, none⟩ = some (.int .i64 n) := (hC.cell (p := ⟨g, k, none⟩) (blk_lt HH.out.1)).trans HCK.out
      clear hC HH k1 k2 c1 HCK
      have HCK := Lib.hid ck5
      have HP := Lib.hid P
      clear ck5 P
      have hd := HD.out
      have hz0 := HZ0.out
      have hq := HQ.out
      have hi0 := HI0.out
      have hi4 := HI4.out
      have hi5 := HI5.out
      have hdm : decide (q ≤ bud) = m := hd.symm
      clear hd hk
      simp only [ints] at c2 m1 m2 m3 cb e0
      go_wp2_with fail
      refine wp_region_held_drew (S := (fun W => BothM w g s y z W ∧ W.cell? ⟨g, k, none⟩ = some (.int .i64 n))) (by kernel_rfl) ⟨bothM_drew HP.out, HCK.out⟩ (fun hHeld => ?_)
      refine wpAnyH_take (i := 0) (oi := ⟨_, _, _, _, _, _⟩) (v := ?_) rfl (by kernel_rfl) (by kernel_rfl) (by kernel_rfl) (fun _ _ _ h => h) (Or.inl ⟨by rfl, ?_⟩) (by assumption) ?_
      rotate_left
      · intro W hSw
        try dsimp only at hSw
        go_simp
        try with_reducible rfl
      try simp only [Act.put, List.setIfInBounds_toArray, List.set_cons_zero, List.set_cons_succ]
      refine wpAnyH_take (i := 1) (oi := ⟨_, _, _, _, _, _⟩) (v := _) rfl (by kernel_rfl) (by kernel_rfl) (by kernel_rfl) (fun _ _ _ h => h) (yieldsIf_load_mid (by rfl) _ _ rfl _ _ rfl _ _ (fun _ h => range_whole h.1.2.2.1) hu4 rfl hi5) (by assumption) ?_
      try simp only [Act.put, List.setIfInBounds_toArray, List.set_cons_zero, List.set_cons_succ]
      refine wpAnyH_take (i := 2) (oi := ⟨_, _, _, _, _, _⟩) (v := _) rfl (by kernel_rfl) (by kernel_rfl) (by kernel_rfl) (fun _ _ _ h => h) (yieldsIf_load_mid (by rfl) _ _ rfl _ _ rfl _ _ (fun _ h => range_whole h.1.2.1) hu4 rfl hi4) (by assumption) ?_
      try simp only [Act.put, List.setIfInBounds_toArray, List.set_cons_zero, List.set_cons_succ]
      refine wpAnyH_ready (rs := [3]) (by kernel_rfl) (by simp) ?_
      refine AllReadyH.cons (o := ⟨_, _, _, _, _, _⟩) rfl (fun K hK => ?_) AllReadyH.nil
      go_simp
      refine (c2 _).mono ?_
      rintro e w' ⟨rfl, hC⟩
      go_simp
      refine hK.out _ _ ⟨bothM_below hHeld.1 hC, (hC.cell (p := ⟨g, k, none⟩) (blk_lt hHeld.1.1)).trans hHeld.2⟩ (fun hHeld => ?_)
      clear hK K
      try simp only [Act.put, List.setIfInBounds_toArray, List.set_cons_zero, List.set_cons_succ]
      refine wpAnyH_take (i := 4) (oi := ⟨_, _, _, _, _, _⟩) (v := ?_) rfl (by kernel_rfl) (by kernel_rfl) (by kernel_rfl) (fun _ _ _ h => h) (Or.inl ⟨by rfl, ?_⟩) (by assumption) ?_
      rotate_left
      · intro W hSw
        try dsimp only at hSw
        go_simp
        try with_reducible rfl
      try simp only [Act.put, List.setIfInBounds_toArray, List.set_cons_zero, List.set_cons_succ]
      refine wpAnyH_take (i := 5) (oi := ⟨_, _, _, _, _, _⟩) (v := ?_) rfl (by kernel_rfl) (by kernel_rfl) (by kernel_rfl) (fun _ _ _ h => h) (Or.inl ⟨by rfl, ?_⟩) (by assumption) ?_
      rotate_left
      · intro W hSw
        try dsimp only at hSw
        go_simp
        try with_reducible rfl
      try simp only [Act.put, List.setIfInBounds_toArray, List.set_cons_zero, List.set_cons_succ]
      refine wpAnyH_take (i := 6) (oi := ⟨_, _, _, _, _, _⟩) (v := ?_) rfl (by kernel_rfl) (by kernel_rfl) (by kernel_rfl) (fun _ _ _ h => h) (Or.inl ⟨by rfl, ?_⟩) (by assumption) ?_
      rotate_left
      · intro W hSw
        try dsimp only at hSw
        go_simp
        try with_reducible rfl
      try simp only [Act.put, List.setIfInBounds_toArray, List.set_cons_zero, List.set_cons_succ]
      refine wpAnyH_take (i := 7) (oi := ⟨_, _, _, _, _, _⟩) (v := ?_) rfl (by kernel_rfl) (by kernel_rfl) (by kernel_rfl) (fun _ _ _ h => h) (Or.inl ⟨by rfl, ?_⟩) (by assumption) ?_
      rotate_left
      · intro W hSw
        try dsimp only at hSw
        go_simp
        try with_reducible rfl
      try simp only [Act.put, List.setIfInBounds_toArray, List.set_cons_zero, List.set_cons_succ]
      refine wpAnyH_take (i := 8) (oi := ⟨_, _, _, _, _, _⟩) (v := _) rfl (by kernel_rfl) (by kernel_rfl) (by kernel_rfl) (fun _ _ _ h => h) (yieldsIf_load_mid (by rfl) _ _ rfl _ _ rfl _ _ (fun _ h => range_whole h.1.2.1) hu4 rfl hi4) (by assumption) ?_
      try simp only [Act.put, List.setIfInBounds_toArray, List.set_cons_zero, List.set_cons_succ]
      refine wpAnyH_take (i := 9) (oi := ⟨_, _, _, _, _, _⟩) (v := _) rfl (by kernel_rfl) (by kernel_rfl) (by kernel_rfl) (fun _ _ _ h => h) (yieldsIf_load_mid (by rfl) _ _ rfl _ _ rfl _ _ (fun _ h => range_whole h.1.2.2.1) hu4 rfl hi5) (by assumption) ?_
      try simp only [Act.put, List.setIfInBounds_toArray, List.set_cons_zero, List.set_cons_succ]
      refine wpAnyH_take (i := 10) (oi := ⟨_, _, _, _, _, _⟩) (v := ?_) rfl (by kernel_rfl) (by kernel_rfl) (by kernel_rfl) (fun _ _ _ h => h) (Or.inl ⟨by rfl, ?_⟩) (by assumption) ?_
      rotate_left
      · intro W hSw
        try dsimp only at hSw
        go_simp
        try with_reducible rfl
      try simp only [Act.put, List.setIfInBounds_toArray, List.set_cons_zero, List.set_cons_succ]
      refine wpAnyH_take (i := 11) (oi := ⟨_, _, _, _, _, _⟩) (v := ?_) rfl (by kernel_rfl) (by kernel_rfl) (by kernel_rfl) (fun _ _ _ h => h) (Or.inl ⟨by rfl, ?_⟩) (by assumption) ?_
      rotate_left
      · intro W hSw
        try dsimp only at hSw
        go_simp
        try with_reducible rfl
      try simp only [Act.put, List.setIfInBounds_toArray, List.set_cons_zero, List.set_cons_succ]
      refine wpAnyH_take (i := 12) (oi := ⟨_, _, _, _, _, _⟩) (v := ?_) rfl (by kernel_rfl) (by kernel_rfl) (by kernel_rfl) (fun _ _ _ h => h) (Or.inl ⟨by rfl, ?_⟩) (by assumption) ?_
      rotate_left
      · intro W hSw
        try dsimp only at hSw
        go_simp
        try with_reducible rfl
      try simp only [Act.put, List.setIfInBounds_toArray, List.set_cons_zero, List.set_cons_succ]
      refine wpAnyH_take (i := 13) (oi := ⟨_, _, _, _, _, _⟩) (v := ?_) rfl (by kernel_rfl) (by kernel_rfl) (by kernel_rfl) (fun _ _ _ h => h) (Or.inl ⟨by rfl, ?_⟩) (by assumption) ?_
      rotate_left
      · intro W hSw
        try dsimp only at hSw
        go_simp
        try with_reducible rfl
      try simp only [Act.put, List.setIfInBounds_toArray, List.set_cons_zero, List.set_cons_succ]
      refine wpAnyH_take (i := 14) (oi := ⟨_, _, _, _, _, _⟩) (v := _) rfl (by kernel_rfl) (by kernel_rfl) (by kernel_rfl) (fun _ _ _ h => h) (yieldsIf_load_mid (by rfl) _ _ rfl _ _ rfl _ _ (fun _ h => range_whole h.1.1) hu0 rfl hi0) (by assumption) ?_
      try simp only [Act.put, List.setIfInBounds_toArray, List.set_cons_zero, List.set_cons_succ]
      refine wpAnyH_take (i := 15) (oi := ⟨_, _, _, _, _, _⟩) (v := ?_) rfl (by kernel_rfl) (by kernel_rfl) (by kernel_rfl) (fun _ _ _ h => h) (Or.inl ⟨by rfl, ?_⟩) (by assumption) ?_
      rotate_left
      · intro W hSw
        try dsimp only at hSw
        go_simp
        try with_reducible rfl
      try simp only [Act.put, List.setIfInBounds_toArray, List.set_cons_zero, List.set_cons_succ]
      refine wpAnyH_take (i := 16) (oi := ⟨_, _, _, _, _, _⟩) (v := _) rfl (by kernel_rfl) (by kernel_rfl) (by kernel_rfl) (fun _ _ _ h => h) (yieldsIf_load_mid (by rfl) _ _ rfl _ _ rfl _ _ (fun _ h => range_whole h.1.2.1) hu4 rfl hi4) (by assumption) ?_
      try simp only [Act.put, List.setIfInBounds_toArray, List.set_cons_zero, List.set_cons_succ]
      refine wpAnyH_take (i := 17) (oi := ⟨_, _, _, _, _, _⟩) (v := _) rfl (by kernel_rfl) (by kernel_rfl) (by kernel_rfl) (fun _ _ _ h => h) (yieldsIf_load_mid (by rfl) _ _ rfl _ _ rfl _ _ (fun _ h => range_whole h.1.2.2.1) hu4 rfl hi5) (by assumption) ?_
      try simp only [Act.put, List.setIfInBounds_toArray, List.set_cons_zero, List.set_cons_succ]
      refine wpAnyH_take (i := 19) (oi := ⟨_, _, _, _, _, _⟩) (v := _) rfl (by kernel_rfl) (by kernel_rfl) (by kernel_rfl) (fun _ _ _ h => h) (yieldsIf_load_mid (by rfl) _ _ rfl _ _ rfl _ _ (fun _ h => range_whole h.1.1) hu0 rfl hi0) (by assumption) ?_
      try simp only [Act.put, List.setIfInBounds_toArray, List.set_cons_zero, List.set_cons_succ]
      refine wpAnyH_take (i := 20) (oi := ⟨_, _, _, _, _, _⟩) (v := ?_) rfl (by kernel_rfl) (by kernel_rfl) (by kernel_rfl) (fun _ _ _ h => h) (Or.inl ⟨by rfl, ?_⟩) (by assumption) ?_
      rotate_left
      · intro W hSw
        try dsimp only at hSw
        go_simp
        try with_reducible rfl
      try simp only [Act.put, List.setIfInBounds_toArray, List.set_cons_zero, List.set_cons_succ]
      refine wpAnyH_take (i := 21) (oi := ⟨_, _, _, _, _, _⟩) (v := _) rfl (by kernel_rfl) (by kernel_rfl) (by kernel_rfl) (fun _ _ _ h => h) (yieldsIf_load_mid (by rfl) _ _ rfl _ _ rfl _ _ (fun _ h => range_whole h.1.2.2.1) hu4 rfl hi5) (by assumption) ?_
      try simp only [Act.put, List.setIfInBounds_toArray, List.set_cons_zero, List.set_cons_succ]
      refine wpAnyH_take (i := 22) (oi := ⟨_, _, _, _, _, _⟩) (v := _) rfl (by kernel_rfl) (by kernel_rfl) (by kernel_rfl) (fun _ _ _ h => h) (yieldsIf_load_mid (by rfl) _ _ rfl _ _ rfl _ _ (fun _ h => range_whole h.1.2.1) hu4 rfl hi4) (by assumption) ?_
      try simp only [Act.put, List.setIfInBounds_toArray, List.set_cons_zero, List.set_cons_succ]
      refine wpAnyH_ready (rs := [18]) (by kernel_rfl) (by simp) ?_
      refine AllReadyH.cons (o := ⟨_, _, _, _, _, _⟩) rfl (fun K hK => ?_) AllReadyH.nil
      go_simp
      refine (m1 _).mono ?_
      rintro e w' ⟨rfl, hC⟩
      go_simp
      refine hK.out _ _ ⟨bothM_below hHeld.1 hC, (hC.cell (p := ⟨g, k, none⟩) (blk_lt hHeld.1.1)).trans hHeld.2⟩ (fun hHeld => ?_)
      clear hK K
      try simp only [Act.put, List.setIfInBounds_toArray, List.set_cons_zero, List.set_cons_succ]
      refine wpAnyH_ready (rs := [23]) (by kernel_rfl) (by simp) ?_
      refine AllReadyH.cons (o := ⟨_, _, _, _, _, _⟩) rfl (fun K hK => ?_) AllReadyH.nil
      go_simp
      refine (m2 _).mono ?_
      rintro e w' ⟨rfl, hC⟩
      go_simp
      refine hK.out _ _ ⟨bothM_below hHeld.1 hC, (hC.cell (p := ⟨g, k, none⟩) (blk_lt hHeld.1.1)).trans hHeld.2⟩ (fun hHeld => ?_)
      clear hK K
      try simp only [Act.put, List.setIfInBounds_toArray, List.set_cons_zero, List.set_cons_succ]
      refine wpAnyH_take (i := 24) (oi := ⟨_, _, _, _, _, _⟩) (v := ?_) rfl (by kernel_rfl) (by kernel_rfl) (by kernel_rfl) (fun _ _ _ h => h) (Or.inl ⟨by rfl, ?_⟩) (by assumption) ?_
      rotate_left
      · intro W hSw
        try dsimp only at hSw
        go_simp
        try with_reducible rfl
      try simp only [Act.put, List.setIfInBounds_toArray, List.set_cons_zero, List.set_cons_succ]
      refine wpAnyH_take (i := 25) (oi := ⟨_, _, _, _, _, _⟩) (v := ?_) rfl (by kernel_rfl) (by kernel_rfl) (by kernel_rfl) (fun _ _ _ h => h) (Or.inl ⟨by rfl, ?_⟩) (by assumption) ?_
      rotate_left
      · intro W hSw
        try dsimp only at hSw
        go_simp
        try with_reducible rfl
      try simp only [Act.put, List.setIfInBounds_toArray, List.set_cons_zero, List.set_cons_succ]
      refine wpAnyH_take (i := 26) (oi := ⟨_, _, _, _, _, _⟩) (v := ?_) rfl (by kernel_rfl) (by kernel_rfl) (by kernel_rfl) (fun _ _ _ h => h) (Or.inl ⟨by rfl, ?_⟩) (by assumption) ?_
      rotate_left
      · intro W hSw
        try dsimp only at hSw
        go_simp
        try with_reducible rfl
      try simp only [Act.put, List.setIfInBounds_toArray, List.set_cons_zero, List.set_cons_succ]
      refine wpAnyH_take (i := 27) (oi := ⟨_, _, _, _, _, _⟩) (v := _) rfl (by kernel_rfl) (by kernel_rfl) (by kernel_rfl) (fun _ _ _ h => h) (yieldsIf_load_mid (by rfl) _ _ rfl _ _ rfl _ _ (fun _ h => range_whole h.1.1) hu0 rfl hi0) (by assumption) ?_
      try simp only [Act.put, List.setIfInBounds_toArray, List.set_cons_zero, List.set_cons_succ]
      refine wpAnyH_take (i := 28) (oi := ⟨_, _, _, _, _, _⟩) (v := ?_) rfl (by kernel_rfl) (by kernel_rfl) (by kernel_rfl) (fun _ _ _ h => h) (Or.inl ⟨by rfl, ?_⟩) (by assumption) ?_
      rotate_left
      · intro W hSw
        try dsimp only at hSw
        go_simp
        try with_reducible rfl
      try simp only [Act.put, List.setIfInBounds_toArray, List.set_cons_zero, List.set_cons_succ]
      refine wpAnyH_take (i := 29) (oi := ⟨_, _, _, _, _, _⟩) (v := _) rfl (by kernel_rfl) (by kernel_rfl) (by kernel_rfl) (fun _ _ _ h => h) (yieldsIf_load_mid (by rfl) _ _ rfl _ _ rfl _ _ (fun _ h => range_whole h.1.2.1) hu4 rfl hi4) (by assumption) ?_
      try simp only [Act.put, List.setIfInBounds_toArray, List.set_cons_zero, List.set_cons_succ]
      refine wpAnyH_take (i := 30) (oi := ⟨_, _, _, _, _, _⟩) (v := _) rfl (by kernel_rfl) (by kernel_rfl) (by kernel_rfl) (fun _ _ _ h => h) (yieldsIf_load_mid (by rfl) _ _ rfl _ _ rfl _ _ (fun _ h => range_whole h.1.2.1) hu4 rfl hi4) (by assumption) ?_
      try simp only [Act.put, List.setIfInBounds_toArray, List.set_cons_zero, List.set_cons_succ]
      refine wpAnyH_ready (rs := [31]) (by kernel_rfl) (by simp) ?_
      refine AllReadyH.cons (o := ⟨_, _, _, _, _, _⟩) rfl (fun K hK => ?_) AllReadyH.nil
      go_simp
      refine (m3 _).mono ?_
      rintro e w' ⟨rfl, hC⟩
      go_simp
      refine hK.out _ _ ⟨bothM_below hHeld.1 hC, (hC.cell (p := ⟨g, k, none⟩) (blk_lt hHeld.1.1)).trans hHeld.2⟩ (fun hHeld => ?_)
      clear hK K
      try simp only [Act.put, List.setIfInBounds_toArray, List.set_cons_zero, List.set_cons_succ]
      refine wpAnyH_take (i := 32) (oi := ⟨_, _, _, _, _, _⟩) (v := ?_) rfl (by kernel_rfl) (by kernel_rfl) (by kernel_rfl) (fun _ _ _ h => h) (Or.inl ⟨by rfl, ?_⟩) (by assumption) ?_
      rotate_left
      · intro W hSw
        try dsimp only at hSw
        go_simp
        try with_reducible rfl
      try simp only [Act.put, List.setIfInBounds_toArray, List.set_cons_zero, List.set_cons_succ]
      refine wpAnyH_take (i := 33) (oi := ⟨_, _, _, _, _, _⟩) (v := ?_) rfl (by kernel_rfl) (by kernel_rfl) (by kernel_rfl) (fun _ _ _ h => h) (Or.inl ⟨by rfl, ?_⟩) (by assumption) ?_
      rotate_left
      · intro W hSw
        try dsimp only at hSw
        go_simp
        try with_reducible rfl
      try simp only [Act.put, List.setIfInBounds_toArray, List.set_cons_zero, List.set_cons_succ]
      refine wpAnyH_take (i := 34) (oi := ⟨_, _, _, _, _, _⟩) (v := _) rfl (by kernel_rfl) (by kernel_rfl) (by kernel_rfl) (fun _ _ _ h => h) (yieldsIf_load_mid (by rfl) _ _ rfl _ _ rfl _ _ (fun _ h => range_whole h.1.1) hu0 rfl hi0) (by assumption) ?_
      try simp only [Act.put, List.setIfInBounds_toArray, List.set_cons_zero, List.set_cons_succ]
      refine wpAnyH_take (i := 35) (oi := ⟨_, _, _, _, _, _⟩) (v := ?_) rfl (by kernel_rfl) (by kernel_rfl) (by kernel_rfl) (fun _ _ _ h => h) (Or.inl ⟨by rfl, ?_⟩) (by assumption) ?_
      rotate_left
      · intro W hSw
        try dsimp only at hSw
        go_simp
        try with_reducible rfl
      try simp only [Act.put, List.setIfInBounds_toArray, List.set_cons_zero, List.set_cons_succ]
      refine wpAnyH_take (i := 36) (oi := ⟨_, _, _, _, _, _⟩) (v := _) rfl (by kernel_rfl) (by kernel_rfl) (by kernel_rfl) (fun _ _ _ h => h) (yieldsIf_load_mid (by rfl) _ _ rfl _ _ rfl _ _ (fun _ h => range_whole h.1.2.1) hu4 rfl hi4) (by assumption) ?_
      try simp only [Act.put, List.setIfInBounds_toArray, List.set_cons_zero, List.set_cons_succ]
      refine wpAnyH_take (i := 37) (oi := ⟨_, _, _, _, _, _⟩) (v := _) rfl (by kernel_rfl) (by kernel_rfl) (by kernel_rfl) (fun _ _ _ h => h) (yieldsIf_load_mid (by rfl) _ _ rfl _ _ rfl _ _ (fun _ h => range_whole h.1.2.2.1) hu4 rfl hi5) (by assumption) ?_
      try simp only [Act.put, List.setIfInBounds_toArray, List.set_cons_zero, List.set_cons_succ]
      refine wpAnyH_take (i := 39) (oi := ⟨_, _, _, _, _, _⟩) (v := ?_) rfl (by kernel_rfl) (by kernel_rfl) (by kernel_rfl) (fun _ _ _ h => h) (Or.inl ⟨by rfl, ?_⟩) (by assumption) ?_
      rotate_left
      · intro W hSw
        try dsimp only at hSw
        go_simp
        try with_reducible rfl
      try simp only [Act.put, List.setIfInBounds_toArray, List.set_cons_zero, List.set_cons_succ]
      refine wpAnyH_take (i := 40) (oi := ⟨_, _, _, _, _, _⟩) (v := ?_) rfl (by kernel_rfl) (by kernel_rfl) (by kernel_rfl) (fun _ _ _ h => h) (Or.inl ⟨by rfl, ?_⟩) (by assumption) ?_
      rotate_left
      · intro W hSw
        try dsimp only at hSw
        go_simp
        try with_reducible rfl
      try simp only [Act.put, List.setIfInBounds_toArray, List.set_cons_zero, List.set_cons_succ]
      refine wpAnyH_take (i := 41) (oi := ⟨_, _, _, _, _, _⟩) (v := ?_) rfl (by kernel_rfl) (by kernel_rfl) (by kernel_rfl) (fun _ _ _ h => h) (Or.inl ⟨by rfl, ?_⟩) (by assumption) ?_
      rotate_left
      · intro W hSw
        try dsimp only at hSw
        go_simp
        try with_reducible rfl
      try simp only [Act.put, List.setIfInBounds_toArray, List.set_cons_zero, List.set_cons_succ]
      refine wpAnyH_take (i := 42) (oi := ⟨_, _, _, _, _, _⟩) (v := ?_) rfl (by kernel_rfl) (by kernel_rfl) (by kernel_rfl) (fun _ _ _ h => h) (Or.inl ⟨by rfl, ?_⟩) (by assumption) ?_
      rotate_left
      · intro W hSw
        try dsimp only at hSw
        go_simp
        try with_reducible rfl
      try simp only [Act.put, List.setIfInBounds_toArray, List.set_cons_zero, List.set_cons_succ]
      refine wpAnyH_take (i := 45) (oi := ⟨_, _, _, _, _, _⟩) (v := _) rfl (by kernel_rfl) (by kernel_rfl) (by kernel_rfl) (fun _ _ _ h => h) (yieldsIf_load_mid (by rfl) _ _ rfl _ _ rfl _ _ (fun _ h => range_whole h.1.1) hu0 rfl hi0) (by assumption) ?_
      try simp only [Act.put, List.setIfInBounds_toArray, List.set_cons_zero, List.set_cons_succ]
      refine wpAnyH_take (i := 46) (oi := ⟨_, _, _, _, _, _⟩) (v := ?_) rfl (by kernel_rfl) (by kernel_rfl) (by kernel_rfl) (fun _ _ _ h => h) (Or.inl ⟨by rfl, ?_⟩) (by assumption) ?_
      rotate_left
      · intro W hSw
        try dsimp only at hSw
        go_simp
        try with_reducible rfl
      try simp only [Act.put, List.setIfInBounds_toArray, List.set_cons_zero, List.set_cons_succ]
      refine wpAnyH_ready (rs := [38]) (by kernel_rfl) (by simp) ?_
      refine AllReadyH.cons (o := ⟨_, _, _, _, _, _⟩) rfl (fun K hK => ?_) AllReadyH.nil
      go_simp
      refine (m1 _).mono ?_
      rintro e w' ⟨rfl, hC⟩
      go_simp
      refine hK.out _ _ ⟨bothM_below hHeld.1 hC, (hC.cell (p := ⟨g, k, none⟩) (blk_lt hHeld.1.1)).trans hHeld.2⟩ (fun hHeld => ?_)
      clear hK K
      try simp only [Act.put, List.setIfInBounds_toArray, List.set_cons_zero, List.set_cons_succ]
      refine wpAnyH_ready (rs := [43]) (by kernel_rfl) (by simp) ?_
      refine AllReadyH.cons (o := ⟨_, _, _, _, _, _⟩) rfl (fun K hK => ?_) AllReadyH.nil
      go_simp
      refine (cg _).mono ?_
      rintro e w' ⟨rfl, rfl⟩
      go_simp
      refine hK.out _ _ hHeld (fun hHeld => ?_)
      clear hK K
      try simp only [Act.put, List.setIfInBounds_toArray, List.set_cons_zero, List.set_cons_succ]
      refine wpAnyH_take (i := 44) (oi := ⟨_, _, _, _, _, _⟩) (v := ?_) rfl (by kernel_rfl) (by kernel_rfl) (by kernel_rfl) (fun _ _ _ h => h) (Or.inl ⟨by rfl, ?_⟩) (by assumption) ?_
      rotate_left
      · intro W hSw
        try dsimp only at hSw
        go_simp
        try with_reducible rfl
      try simp only [Act.put, List.setIfInBounds_toArray, List.set_cons_zero, List.set_cons_succ]
      refine wpAnyH_ready (rs := [47]) (by kernel_rfl) (by simp) ?_
      refine AllReadyH.cons (o := ⟨_, _, _, _, _, _⟩) rfl (fun K hK => ?_) AllReadyH.nil
      go_simp
      refine (cb _).mono ?_
      rintro e w' ⟨rfl, hC⟩
      go_simp
      refine hK.out _ _ ⟨bothM_below hHeld.1 hC, (hC.cell (p := ⟨g, k, none⟩) (blk_lt hHeld.1.1)).trans hHeld.2⟩ (fun hHeld => ?_)
      clear hK K
      try simp only [Act.put, List.setIfInBounds_toArray, List.set_cons_zero, List.set_cons_succ]
      refine wpAnyH_take (i := 48) (oi := ⟨_, _, _, _, _, _⟩) (v := ?_) rfl (by kernel_rfl) (by kernel_rfl) (by kernel_rfl) (fun _ _ _ h => h) (Or.inl ⟨by rfl, ?_⟩) (by assumption) ?_
      rotate_left
      · intro W hSw
        try dsimp only at hSw
        go_simp
        try with_reducible rfl
      try simp only [Act.put, List.setIfInBounds_toArray, List.set_cons_zero, List.set_cons_succ]
      refine wpAnyH_take (i := 49) (oi := ⟨_, _, _, _, _, _⟩) (v := ?_) rfl (by kernel_rfl) (by kernel_rfl) (by kernel_rfl) (fun _ _ _ h => h) (Or.inl ⟨by rfl, ?_⟩) (by assumption) ?_
      rotate_left
      · intro W hSw
        try dsimp only at hSw
        go_simp
        try with_reducible rfl
      try simp only [Act.put, List.setIfInBounds_toArray, List.set_cons_zero, List.set_cons_succ]
      refine wpAnyH_take (i := 50) (oi := ⟨_, _, _, _, _, _⟩) (v := ?_) rfl (by kernel_rfl) (by kernel_rfl) (by kernel_rfl) (fun _ _ _ h => h) (Or.inl ⟨by rfl, ?_⟩) (by assumption) ?_
      rotate_left
      · intro W hSw
        try dsimp only at hSw
        go_simp
        try with_reducible rfl
      try simp only [Act.put, List.setIfInBounds_toArray, List.set_cons_zero, List.set_cons_succ]
      refine wpAnyH_take (i := 51) (oi := ⟨_, _, _, _, _, _⟩) (v := ?_) rfl (by kernel_rfl) (by kernel_rfl) (by kernel_rfl) (fun _ _ _ h => h) (Or.inl ⟨by rfl, ?_⟩) (by assumption) ?_
      rotate_left
      · intro W hSw
        try dsimp only at hSw
        go_simp
        try with_reducible rfl
      try simp only [Act.put, List.setIfInBounds_toArray, List.set_cons_zero, List.set_cons_succ]
      refine wpAnyH_done (by kernel_rfl) ?_ _
      have hE := hHeld.1.2.2.2
      clear hHeld
      go_wp2_with fail
      go_ret
      exact ⟨rfl, hE⟩
end Go.Proofs.Ytnmhbonheaoldaa
