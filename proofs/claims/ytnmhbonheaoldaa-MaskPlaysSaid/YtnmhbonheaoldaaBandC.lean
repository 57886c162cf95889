/- Contracts of the package band: all bands' steps, numbers brought into their range, coefficients put. -/
import Derived.Test.YtnmhbonheaoldaaBandB
import Derived.Test.YtnmhbonheaoldaaFill
import Derived.Lib.MinMax
import Derived.Laws.IdiomCopy
namespace Go.Proofs.Ytnmhbonheaoldaa
open Go.RowKit

theorem bandL_in {zs : List Int} (hi : ∀ z ∈ zs, -9223372036854775808 ≤ z ∧ z ≤ 9223372036854775807) (b : Nat) : ∀ z ∈ bandL zs b, -9223372036854775808 ≤ z ∧ z ≤ 9223372036854775807 := by
  have h : ∀ i, -9223372036854775808 ≤ zs.getD i 0 ∧ zs.getD i 0 ≤ 9223372036854775807 := fun i => by
    rw [List.getD_eq_getElem?_getD]
    rcases Nat.lt_or_ge i zs.length with hlt | hge
    · rw [List.getElem?_eq_getElem hlt]; exact hi _ (List.getElem_mem hlt)
    · rw [List.getElem?_eq_none hge]; decide
  intro z hz
  simp only [bandL, List.mem_cons, List.not_mem_nil, or_false] at hz
  rcases hz with rfl | rfl | rfl | rfl <;> exact h _

set_option maxHeartbeats 1000000 in
theorem steps_calls (zs : List Int) (w : World) (hl : zs.length = 32) (hi : ∀ z ∈ zs, -9223372036854775808 ≤ z ∧ z ≤ 9223372036854775807) :
    Calls Try.prog 29 #[.agg (ints zs)] w fun e w' => e = .returned (.agg (ints (stepsL zs))) ∧ Below w.heap.size w w' := by
  have b0 := blk_alloc (blk_alloc (blk_new w 32 (ints zs)) (.cells #[Value.int .i64 0, Value.int .i64 0, Value.int .i64 0, Value.int .i64 0, Value.int .i64 0, Value.int .i64 0, Value.int .i64 0, Value.int .i64 0] 37)) (.cells #[Value.int .i64 0, Value.int .i64 0, Value.int .i64 0, Value.int .i64 0, Value.int .i64 0, Value.int .i64 0, Value.int .i64 0, Value.int .i64 0] 37)
  have b1 := blk_alloc (blk_new (w.alloc (.cells (ints zs) 32)) 37 (ints (List.replicate 8 0))) (.cells #[Value.int .i64 0, Value.int .i64 0, Value.int .i64 0, Value.int .i64 0, Value.int .i64 0, Value.int .i64 0, Value.int .i64 0, Value.int .i64 0] 37)
  have b2 := blk_new ((w.alloc (.cells (ints zs) 32)).alloc (.cells #[Value.int .i64 0, Value.int .i64 0, Value.int .i64 0, Value.int .i64 0, Value.int .i64 0, Value.int .i64 0, Value.int .i64 0, Value.int .i64 0] 37)) 37 (ints (List.replicate 8 0))
  rw [show (w.alloc (.cells (ints zs) 32)).heap.size = w.heap.size + 1 by simp] at b1
  rw [show ((w.alloc (.cells (ints zs) 32)).alloc (.cells #[Value.int .i64 0, Value.int .i64 0, Value.int .i64 0, Value.int .i64 0, Value.int .i64 0, Value.int .i64 0, Value.int .i64 0, Value.int .i64 0] 37)).heap.size = w.heap.size + 2 by simp] at b2
  have hA : Below w.heap.size w (((w.alloc (.cells (ints zs) 32)).alloc (.cells #[Value.int .i64 0, Value.int .i64 0, Value.int .i64 0, Value.int .i64 0, Value.int .i64 0, Value.int .i64 0, Value.int .i64 0, Value.int .i64 0] 37)).alloc (.cells #[Value.int .i64 0, Value.int .i64 0, Value.int .i64 0, Value.int .i64 0, Value.int .i64 0, Value.int .i64 0, Value.int .i64 0, Value.int .i64 0] 37)) := (((Below.refl _ w).alloc (Nat.le_refl _) _).alloc (by simp) _).alloc (by simp; omega) _
  have B0 := Lib.hid b0
  have B1 := Lib.hid b1
  have B2 := Lib.hid b2
  have HI := Lib.hid hi
  clear b0 b1 b2 hi
  go_enter Try.func29, Try.ntmps29
  go_wp2_with fail
  go_loopg [5] 8 (fun gg s5 wr => ∃ kk : Nat, kk ≤ 8 ∧ 8 - kk ≤ gg ∧ s5 = .int .i64 kk ∧ Aside (Below w.heap.size w wr) ∧ Aside (Blk wr w.heap.size 32 (ints zs)) ∧ Aside (Blk wr (w.heap.size + 1) 37 (ints (List.replicate 8 0))) ∧ Aside (Blk wr (w.heap.size + 2) 37 (ints (overTo (fun b => (stepL (bandL zs b) : Int)) (List.replicate 8 0) kk))))
  case atStart => exact ⟨0, Nat.zero_le _, by omega, rfl, hA, B0.out, B1.out, by rw [overTo_zero]; exact B2.out⟩
  case round =>
    obtain ⟨kk, hkk, hg, rfl, B, K0, K1, K2⟩ := hrel
    by_cases hlt : kk < 8
    · have hltz : (kk : Int) < 8 := by omega
      have k0 := K0.out
      go_wp2_with (first | (refine wpList_load_row rfl 32 _ rfl w.heap.size rfl 32 (ints zs) (0, 0) _ k0 Try.underlying32 rfl (by rw [ints_size, hl]; kernel_rfl) ?_))
      refine (of_calls zs kk _ hl hlt).mono ?_
      rintro e w1 ⟨rfl, hC⟩
      have B1 := bnext B.out hC
      have k0' := blk_below k0 hC (blk_lt k0)
      have k1' := blk_below K1.out hC (blk_lt K1.out)
      have k2' := blk_below K2.out hC (blk_lt K2.out)
      clear k0 hC B K0 K1 K2
      have E0 := Lib.hid k0'
      have E1 := Lib.hid k1'
      have E2 := Lib.hid k2'
      have BB := Lib.hid B1
      clear k0' k1' k2' B1
      go_wp2_with fail
      refine (step_calls (bandL zs kk) _ (bandL_len _ _) (bandL_in HI.out kk)).mono ?_
      rintro e w2 ⟨rfl, hC⟩
      have B2 := bnext BB.out hC
      have k0 := blk_below E0.out hC (blk_lt E0.out)
      have k1 := blk_below E1.out hC (blk_lt E1.out)
      have k2 := blk_below E2.out hC (blk_lt E2.out)
      clear hC E0 E1 E2 BB
      have hlo := overTo_len (fun b => (stepL (bandL zs b) : Int)) (List.replicate 8 0) kk
      have c2 := blk_int k2 (i := kk) (by rw [hlo]; simpa using hlt)
      have f2 := blk_free k2 kk
      generalize hs : (stepL (bandL zs kk) : Int) = s at *
      have HS := Lib.hid hs
      have F0 := Lib.hid k0
      have F1 := Lib.hid k1
      have F2 := Lib.hid k2
      clear hs k0 k1 k2
      go_wp2_with fail
      go_roundg (8 - (kk + 1))
      case measure => omega
      case rel =>
        refine ⟨kk + 1, by omega, by omega, by go_num, B2.setCell (p := ⟨_, _, none⟩) (by show w.heap.size ≤ w.heap.size + 1 + 1; omega) _, blk_far F0.out (by omega) _, blk_far F1.out (by omega) _, ?_⟩
        have h := blk_set_int F2.out kk s
        rw [overTo_succ (by rw [← HS.out]) (by simpa using hlt)] at h
        exact h
    · have hltz : ¬ (kk : Int) < 8 := by omega
      have : kk = 8 := by omega
      subst this
      have k1 := K1.out
      have k2 := K2.out
      rw [overTo_all (by simp), show (List.range 8).map (fun b => (stepL (bandL zs b) : Int)) = stepsL zs from rfl] at k2
      have hls : (stepsL zs).length = 8 := by simp [stepsL]
      have hsz := B.out.size
      clear K0 K1 K2
      go_wp2_with (first | (refine wpList_load_row rfl 37 _ rfl (w.heap.size + 2) rfl 37 (ints (stepsL zs)) (0, 0) _ k2 Try.underlying37 rfl (by rw [ints_size, hls]; kernel_rfl) ?_) | (refine wpList_store_blk rfl 37 _ _ rfl (w.heap.size + 1) 37 _ (ints (stepsL zs)) rfl rfl k1 (by rw [ints_size, ints_size, hls]; simp) (by rw [ints_size, hls]; kernel_rfl) (ints_one _) ?_; intro w2 n0 hg))
      exact bodyPost_ret (results_cell_row rfl _ _ (w.heap.size + 1) 37 (ints (stepsL zs)) (0, 0) _ rfl n0 Try.underlying37 rfl (by rw [ints_size, hls]; kernel_rfl)) rfl ⟨rfl, below_grown B.out hg hsz (by omega)⟩

/-- an array's number, the array being at hand -/
theorem run_index_ints {P : Program} {t e : TypeId} {n : Nat} {inf : TypeInfo} (ht : P.underlying t = some (.array n e)) (he : P.underlying e = some (.int .i64)) (hi : P.info? e = some inf) (h1 : inf.size = 1) (zs : List Int) (hl : zs.length = n) (i : Nat) (hlt : i < n) (w : World) :
    (Instr.index t (.agg (ints zs)) (.int .i64 i)).run P w = .ok (.int .i64 (zs.getD i 0)) w := by
  have hx : (ints zs)[i]? = some (.int .i64 (zs.getD i 0)) := by rw [ints_get, List.getElem?_eq_getElem (by omega)]; simp [List.getD, List.getElem?_eq_getElem (by omega : i < zs.length)]
  have hp : P.plainKey e = true := by simp [Program.plainKey, he]
  have hlz : (0 : Int) ≤ (i : Int) ∧ (i : Int) < (n : Int) := by omega
  have hr := run_part_plain w hp hx
  have hlz1 := hlz.1
  have hlz2 := hlz.2
  simp [Instr.index, asIntOf, run_underlying ht, hlt, sizeOf, typeInfo, hi, h1, hr, -List.getD_eq_getElem?_getD]

set_option maxHeartbeats 1000000 in
theorem clamp_calls (zs : List Int) (w : World) (hl : zs.length = 32) :
    Calls Try.prog 30 #[.agg (ints zs)] w fun e w' => e = .returned (.agg (ints (zs.map clampZ))) ∧ Below w.heap.size w w' := by
  have b0 := blk_alloc (blk_new w 32 (ints zs)) (.cells #[Value.int .i64 0, Value.int .i64 0, Value.int .i64 0, Value.int .i64 0, Value.int .i64 0, Value.int .i64 0, Value.int .i64 0, Value.int .i64 0, Value.int .i64 0, Value.int .i64 0, Value.int .i64 0, Value.int .i64 0, Value.int .i64 0, Value.int .i64 0, Value.int .i64 0, Value.int .i64 0, Value.int .i64 0, Value.int .i64 0, Value.int .i64 0, Value.int .i64 0, Value.int .i64 0, Value.int .i64 0, Value.int .i64 0, Value.int .i64 0, Value.int .i64 0, Value.int .i64 0, Value.int .i64 0, Value.int .i64 0, Value.int .i64 0, Value.int .i64 0, Value.int .i64 0, Value.int .i64 0] 32)
  have b1 := blk_new (w.alloc (.cells (ints zs) 32)) 32 (ints (List.replicate 32 0))
  rw [show (w.alloc (.cells (ints zs) 32)).heap.size = w.heap.size + 1 by simp] at b1
  have hA : Below w.heap.size w ((w.alloc (.cells (ints zs) 32)).alloc (.cells #[Value.int .i64 0, Value.int .i64 0, Value.int .i64 0, Value.int .i64 0, Value.int .i64 0, Value.int .i64 0, Value.int .i64 0, Value.int .i64 0, Value.int .i64 0, Value.int .i64 0, Value.int .i64 0, Value.int .i64 0, Value.int .i64 0, Value.int .i64 0, Value.int .i64 0, Value.int .i64 0, Value.int .i64 0, Value.int .i64 0, Value.int .i64 0, Value.int .i64 0, Value.int .i64 0, Value.int .i64 0, Value.int .i64 0, Value.int .i64 0, Value.int .i64 0, Value.int .i64 0, Value.int .i64 0, Value.int .i64 0, Value.int .i64 0, Value.int .i64 0, Value.int .i64 0, Value.int .i64 0] 32)) := ((Below.refl _ w).alloc (Nat.le_refl _) _).alloc (by simp) _
  obtain ⟨inf, hinf⟩ := info_of_underlying (P := Try.prog) (t := 3) Try.underlying3
  have hsz1 : inf.size = 1 := by have h : (Try.prog.info? 3).map (·.size) = some 1 := by kernel_rfl
                                 rw [hinf] at h; simpa using h
  have hx := fun i hlt w => run_index_ints (P := Try.prog) (t := 32) Try.underlying32 Try.underlying3 hinf hsz1 zs hl i hlt w
  have HX := Lib.hid hx
  have B0 := Lib.hid b0
  have B1 := Lib.hid b1
  clear b1 hx hinf hsz1
  go_enter Try.func30, Try.ntmps30
  go_wp2_with (first | (refine wpList_load_row rfl 32 _ rfl w.heap.size rfl 32 (ints zs) (0, 0) _ b0 Try.underlying32 rfl (by rw [ints_size, hl]; kernel_rfl) ?_))
  clear b0
  go_loopg [6] 32 (fun gg s6 wr => ∃ kk : Nat, kk ≤ 32 ∧ 32 - kk ≤ gg ∧ s6 = .int .i64 kk ∧ Aside (Below w.heap.size w wr) ∧ Aside (Blk wr w.heap.size 32 (ints (overTo (fun i => clampZ (zs.getD i 0)) zs kk))) ∧ Aside (Blk wr (w.heap.size + 1) 32 (ints (List.replicate 32 0))))
  case atStart => exact ⟨0, Nat.zero_le _, by omega, rfl, hA, by rw [overTo_zero]; exact B0.out, B1.out⟩
  case round =>
    obtain ⟨kk, hkk, hg, rfl, B, K0, K1⟩ := hrel
    by_cases hlt : kk < 32
    · have hltz : (kk : Int) < 32 := by omega
      have hlo := overTo_len (fun i => clampZ (zs.getD i 0)) zs kk
      have c0 := blk_int K0.out (i := kk) (by omega)
      have f0 := blk_free K0.out kk
      have hxx := HX.out kk hlt
      generalize hs : zs.getD kk 0 = s at *
      have HS := Lib.hid hs
      clear hs
      go_wp2_with fail
      go_roundg (32 - (kk + 1))
      case measure => omega
      case rel =>
        refine ⟨kk + 1, by omega, by omega, by go_num, B.out.setCell (p := ⟨_, _, none⟩) (Nat.le_refl _) _, ?_, blk_far K1.out (by omega) _⟩
        have h := blk_set_int K0.out kk (clampZ s)
        rw [overTo_succ (by rw [← HS.out]) (by omega)] at h
        exact h
    · have hltz : ¬ (kk : Int) < 32 := by omega
      have : kk = 32 := by omega
      subst this
      have k0 := K0.out
      have k1 := K1.out
      rw [overTo_all hl, range_map_get hl] at k0
      have hls : (zs.map clampZ).length = 32 := by rw [List.length_map, hl]
      have hsz := B.out.size
      clear K0 K1
      go_wp2_with (first | (refine wpList_load_row rfl 32 _ rfl w.heap.size rfl 32 (ints (zs.map clampZ)) (0, 0) _ k0 Try.underlying32 rfl (by rw [ints_size, hls]; kernel_rfl) ?_) | (refine wpList_store_blk rfl 32 _ _ rfl (w.heap.size + 1) 32 _ (ints (zs.map clampZ)) rfl rfl k1 (by rw [ints_size, ints_size, hls]; simp) (by rw [ints_size, hls]; kernel_rfl) (ints_one _) ?_; intro w2 n0 hg))
      exact bodyPost_ret (results_cell_row rfl _ _ (w.heap.size + 1) 32 (ints (zs.map clampZ)) (0, 0) _ rfl n0 Try.underlying32 rfl (by rw [ints_size, hls]; kernel_rfl)) rfl ⟨rfl, below_grown B.out hg hsz (by omega)⟩
end Go.Proofs.Ytnmhbonheaoldaa
