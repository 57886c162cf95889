/- Contracts of the reference of layer 16. -/
import Derived.Test.YtnmhbonheaoldaaBandF
namespace Go.Proofs.Ytnmhbonheaoldaa
open Go.RowKit

theorem fitsB_take {m : Int} {zs : List Int} {i : Nat} (h : i < zs.length) : fitsB m (zs.take (i + 1)) = (fitsB m (zs.take i) && !(decide (zs.getD i 0 < -m) || decide (m < zs.getD i 0))) := by
  rw [List.take_succ_eq_append_getElem h]
  simp only [fitsB, List.any_append, List.any_cons, List.any_nil, Bool.or_false, Bool.not_or, List.getD_eq_getElem?_getD, List.getElem?_eq_getElem h, Option.getD_some]

theorem refClamp_calls (x : Int) (w : World) : Calls Try.prog 33 #[.int .i64 x] w fun e w' => e = .returned (.int .i64 (clampZ x)) ∧ w = w' := by
  by_cases h : 1048576 < x
  · go_enter Try.func33, Try.ntmps33
    go_wp2
    go_ret
    exact ⟨ret_i64 (by unfold clampZ; omega), rfl⟩
  · by_cases h2 : x < -1048576
    · go_enter Try.func33, Try.ntmps33
      go_wp2
      go_ret
      exact ⟨ret_i64 (by unfold clampZ; omega), rfl⟩
    · go_enter Try.func33, Try.ntmps33
      go_wp2
      go_ret
      exact ⟨ret_i64 (by unfold clampZ; omega), rfl⟩

set_option maxHeartbeats 1000000 in
theorem refBand_calls (zs : List Int) (b : Nat) (w : World) (hl : zs.length = 32) (hb : b < 8) :
    Calls Try.prog 31 #[.agg (ints zs), .int .i64 b] w fun e w' => e = .returned (.agg (ints (bandL zs b))) ∧ Below w.heap.size w w' := by
  have b0 := blk_alloc (blk_new w 31 (ints zs)) (.cells #[Value.int .i64 0, Value.int .i64 0, Value.int .i64 0, Value.int .i64 0] 28)
  have b1 := blk_new (w.alloc (.cells (ints zs) 31)) 28 #[Value.int .i64 0, Value.int .i64 0, Value.int .i64 0, Value.int .i64 0]
  have hA : Below w.heap.size w ((w.alloc (.cells (ints zs) 31)).alloc (.cells #[Value.int .i64 0, Value.int .i64 0, Value.int .i64 0, Value.int .i64 0] 28)) := ((Below.refl _ w).alloc (Nat.le_refl _) _).alloc (by simp) _
  rw [show (w.alloc (.cells (ints zs) 31)).heap.size = w.heap.size + 1 by simp] at b1
  have hbb : b = 0 ∨ b = 1 ∨ b = 2 ∨ b = 3 ∨ b = 4 ∨ b = 5 ∨ b = 6 ∨ b = 7 := by omega
  clear hb
  rcases hbb with rfl | rfl | rfl | rfl | rfl | rfl | rfl | rfl
  · have c0 := blk_int b0 (i := 0) (by omega)
    have c1 := blk_int b0 (i := 1) (by omega)
    have c2 := blk_int b0 (i := 2) (by omega)
    have c3 := blk_int b0 (i := 3) (by omega)
    generalize hx0 : zs.getD 0 0 = x0 at *
    generalize hx1 : zs.getD 1 0 = x1 at *
    generalize hx2 : zs.getD 2 0 = x2 at *
    generalize hx3 : zs.getD 3 0 = x3 at *
    have hbl : bandL zs 0 = [x0, x1, x2, x3] := by rw [← hx0, ← hx1, ← hx2, ← hx3]; rfl
    rw [hbl]
    clear hx0 hx1 hx2 hx3 hbl b1
    have b2 := blk_drew (blk_new (w.alloc (.cells (ints zs) 31)) 28 (ints [x0, x1, x2, x3]))
    rw [show (w.alloc (.cells (ints zs) 31)).heap.size = w.heap.size + 1 by simp] at b2
    have hE : Below w.heap.size w ((w.alloc (.cells (ints zs) 31)).alloc (.cells (ints [x0, x1, x2, x3]) 28)).drew := (((Below.refl _ w).alloc (Nat.le_refl _) _).alloc (by simp) _).drew
    go_enter Try.func31, Try.ntmps31
    go_wp2_with fail
    go_region
    go_wp2_with fail
    exact bodyPost_ret (results_cell_row rfl _ _ (w.heap.size + 1) 28 (ints [x0, x1, x2, x3]) (0, 0) _ rfl b2 Try.underlying28 rfl (by kernel_rfl)) rfl ⟨rfl, hE⟩
  · have c0 := blk_int b0 (i := 4) (by omega)
    have c1 := blk_int b0 (i := 5) (by omega)
    have c2 := blk_int b0 (i := 6) (by omega)
    have c3 := blk_int b0 (i := 7) (by omega)
    generalize hx0 : zs.getD 4 0 = x0 at *
    generalize hx1 : zs.getD 5 0 = x1 at *
    generalize hx2 : zs.getD 6 0 = x2 at *
    generalize hx3 : zs.getD 7 0 = x3 at *
    have hbl : bandL zs 1 = [x0, x1, x2, x3] := by rw [← hx0, ← hx1, ← hx2, ← hx3]; rfl
    rw [hbl]
    clear hx0 hx1 hx2 hx3 hbl b1
    have b2 := blk_drew (blk_new (w.alloc (.cells (ints zs) 31)) 28 (ints [x0, x1, x2, x3]))
    rw [show (w.alloc (.cells (ints zs) 31)).heap.size = w.heap.size + 1 by simp] at b2
    have hE : Below w.heap.size w ((w.alloc (.cells (ints zs) 31)).alloc (.cells (ints [x0, x1, x2, x3]) 28)).drew := (((Below.refl _ w).alloc (Nat.le_refl _) _).alloc (by simp) _).drew
    go_enter Try.func31, Try.ntmps31
    go_wp2_with fail
    go_region
    go_wp2_with fail
    exact bodyPost_ret (results_cell_row rfl _ _ (w.heap.size + 1) 28 (ints [x0, x1, x2, x3]) (0, 0) _ rfl b2 Try.underlying28 rfl (by kernel_rfl)) rfl ⟨rfl, hE⟩
  · have c0 := blk_int b0 (i := 8) (by omega)
    have c1 := blk_int b0 (i := 9) (by omega)
    have c2 := blk_int b0 (i := 10) (by omega)
    have c3 := blk_int b0 (i := 11) (by omega)
    generalize hx0 : zs.getD 8 0 = x0 at *
    generalize hx1 : zs.getD 9 0 = x1 at *
    generalize hx2 : zs.getD 10 0 = x2 at *
    generalize hx3 : zs.getD 11 0 = x3 at *
    have hbl : bandL zs 2 = [x0, x1, x2, x3] := by rw [← hx0, ← hx1, ← hx2, ← hx3]; rfl
    rw [hbl]
    clear hx0 hx1 hx2 hx3 hbl b1
    have b2 := blk_drew (blk_new (w.alloc (.cells (ints zs) 31)) 28 (ints [x0, x1, x2, x3]))
    rw [show (w.alloc (.cells (ints zs) 31)).heap.size = w.heap.size + 1 by simp] at b2
    have hE : Below w.heap.size w ((w.alloc (.cells (ints zs) 31)).alloc (.cells (ints [x0, x1, x2, x3]) 28)).drew := (((Below.refl _ w).alloc (Nat.le_refl _) _).alloc (by simp) _).drew
    go_enter Try.func31, Try.ntmps31
    go_wp2_with fail
    go_region
    go_wp2_with fail
    exact bodyPost_ret (results_cell_row rfl _ _ (w.heap.size + 1) 28 (ints [x0, x1, x2, x3]) (0, 0) _ rfl b2 Try.underlying28 rfl (by kernel_rfl)) rfl ⟨rfl, hE⟩
  · have c0 := blk_int b0 (i := 12) (by omega)
    have c1 := blk_int b0 (i := 13) (by omega)
    have c2 := blk_int b0 (i := 14) (by omega)
    have c3 := blk_int b0 (i := 15) (by omega)
    generalize hx0 : zs.getD 12 0 = x0 at *
    generalize hx1 : zs.getD 13 0 = x1 at *
    generalize hx2 : zs.getD 14 0 = x2 at *
    generalize hx3 : zs.getD 15 0 = x3 at *
    have hbl : bandL zs 3 = [x0, x1, x2, x3] := by rw [← hx0, ← hx1, ← hx2, ← hx3]; rfl
    rw [hbl]
    clear hx0 hx1 hx2 hx3 hbl b1
    have b2 := blk_drew (blk_new (w.alloc (.cells (ints zs) 31)) 28 (ints [x0, x1, x2, x3]))
    rw [show (w.alloc (.cells (ints zs) 31)).heap.size = w.heap.size + 1 by simp] at b2
    have hE : Below w.heap.size w ((w.alloc (.cells (ints zs) 31)).alloc (.cells (ints [x0, x1, x2, x3]) 28)).drew := (((Below.refl _ w).alloc (Nat.le_refl _) _).alloc (by simp) _).drew
    go_enter Try.func31, Try.ntmps31
    go_wp2_with fail
    go_region
    go_wp2_with fail
    exact bodyPost_ret (results_cell_row rfl _ _ (w.heap.size + 1) 28 (ints [x0, x1, x2, x3]) (0, 0) _ rfl b2 Try.underlying28 rfl (by kernel_rfl)) rfl ⟨rfl, hE⟩
  · have c0 := blk_int b0 (i := 16) (by omega)
    have c1 := blk_int b0 (i := 17) (by omega)
    have c2 := blk_int b0 (i := 18) (by omega)
    have c3 := blk_int b0 (i := 19) (by omega)
    generalize hx0 : zs.getD 16 0 = x0 at *
    generalize hx1 : zs.getD 17 0 = x1 at *
    generalize hx2 : zs.getD 18 0 = x2 at *
    generalize hx3 : zs.getD 19 0 = x3 at *
    have hbl : bandL zs 4 = [x0, x1, x2, x3] := by rw [← hx0, ← hx1, ← hx2, ← hx3]; rfl
    rw [hbl]
    clear hx0 hx1 hx2 hx3 hbl b1
    have b2 := blk_drew (blk_new (w.alloc (.cells (ints zs) 31)) 28 (ints [x0, x1, x2, x3]))
    rw [show (w.alloc (.cells (ints zs) 31)).heap.size = w.heap.size + 1 by simp] at b2
    have hE : Below w.heap.size w ((w.alloc (.cells (ints zs) 31)).alloc (.cells (ints [x0, x1, x2, x3]) 28)).drew := (((Below.refl _ w).alloc (Nat.le_refl _) _).alloc (by simp) _).drew
    go_enter Try.func31, Try.ntmps31
    go_wp2_with fail
    go_region
    go_wp2_with fail
    exact bodyPost_ret (results_cell_row rfl _ _ (w.heap.size + 1) 28 (ints [x0, x1, x2, x3]) (0, 0) _ rfl b2 Try.underlying28 rfl (by kernel_rfl)) rfl ⟨rfl, hE⟩
  · have c0 := blk_int b0 (i := 20) (by omega)
    have c1 := blk_int b0 (i := 21) (by omega)
    have c2 := blk_int b0 (i := 22) (by omega)
    have c3 := blk_int b0 (i := 23) (by omega)
    generalize hx0 : zs.getD 20 0 = x0 at *
    generalize hx1 : zs.getD 21 0 = x1 at *
    generalize hx2 : zs.getD 22 0 = x2 at *
    generalize hx3 : zs.getD 23 0 = x3 at *
    have hbl : bandL zs 5 = [x0, x1, x2, x3] := by rw [← hx0, ← hx1, ← hx2, ← hx3]; rfl
    rw [hbl]
    clear hx0 hx1 hx2 hx3 hbl b1
    have b2 := blk_drew (blk_new (w.alloc (.cells (ints zs) 31)) 28 (ints [x0, x1, x2, x3]))
    rw [show (w.alloc (.cells (ints zs) 31)).heap.size = w.heap.size + 1 by simp] at b2
    have hE : Below w.heap.size w ((w.alloc (.cells (ints zs) 31)).alloc (.cells (ints [x0, x1, x2, x3]) 28)).drew := (((Below.refl _ w).alloc (Nat.le_refl _) _).alloc (by simp) _).drew
    go_enter Try.func31, Try.ntmps31
    go_wp2_with fail
    go_region
    go_wp2_with fail
    exact bodyPost_ret (results_cell_row rfl _ _ (w.heap.size + 1) 28 (ints [x0, x1, x2, x3]) (0, 0) _ rfl b2 Try.underlying28 rfl (by kernel_rfl)) rfl ⟨rfl, hE⟩
  · have c0 := blk_int b0 (i := 24) (by omega)
    have c1 := blk_int b0 (i := 25) (by omega)
    have c2 := blk_int b0 (i := 26) (by omega)
    have c3 := blk_int b0 (i := 27) (by omega)
    generalize hx0 : zs.getD 24 0 = x0 at *
    generalize hx1 : zs.getD 25 0 = x1 at *
    generalize hx2 : zs.getD 26 0 = x2 at *
    generalize hx3 : zs.getD 27 0 = x3 at *
    have hbl : bandL zs 6 = [x0, x1, x2, x3] := by rw [← hx0, ← hx1, ← hx2, ← hx3]; rfl
    rw [hbl]
    clear hx0 hx1 hx2 hx3 hbl b1
    have b2 := blk_drew (blk_new (w.alloc (.cells (ints zs) 31)) 28 (ints [x0, x1, x2, x3]))
    rw [show (w.alloc (.cells (ints zs) 31)).heap.size = w.heap.size + 1 by simp] at b2
    have hE : Below w.heap.size w ((w.alloc (.cells (ints zs) 31)).alloc (.cells (ints [x0, x1, x2, x3]) 28)).drew := (((Below.refl _ w).alloc (Nat.le_refl _) _).alloc (by simp) _).drew
    go_enter Try.func31, Try.ntmps31
    go_wp2_with fail
    go_region
    go_wp2_with fail
    exact bodyPost_ret (results_cell_row rfl _ _ (w.heap.size + 1) 28 (ints [x0, x1, x2, x3]) (0, 0) _ rfl b2 Try.underlying28 rfl (by kernel_rfl)) rfl ⟨rfl, hE⟩
  · have c0 := blk_int b0 (i := 28) (by omega)
    have c1 := blk_int b0 (i := 29) (by omega)
    have c2 := blk_int b0 (i := 30) (by omega)
    have c3 := blk_int b0 (i := 31) (by omega)
    generalize hx0 : zs.getD 28 0 = x0 at *
    generalize hx1 : zs.getD 29 0 = x1 at *
    generalize hx2 : zs.getD 30 0 = x2 at *
    generalize hx3 : zs.getD 31 0 = x3 at *
    have hbl : bandL zs 7 = [x0, x1, x2, x3] := by rw [← hx0, ← hx1, ← hx2, ← hx3]; rfl
    rw [hbl]
    clear hx0 hx1 hx2 hx3 hbl b1
    have b2 := blk_drew (blk_new (w.alloc (.cells (ints zs) 31)) 28 (ints [x0, x1, x2, x3]))
    rw [show (w.alloc (.cells (ints zs) 31)).heap.size = w.heap.size + 1 by simp] at b2
    have hE : Below w.heap.size w ((w.alloc (.cells (ints zs) 31)).alloc (.cells (ints [x0, x1, x2, x3]) 28)).drew := (((Below.refl _ w).alloc (Nat.le_refl _) _).alloc (by simp) _).drew
    go_enter Try.func31, Try.ntmps31
    go_wp2_with fail
    go_region
    go_wp2_with fail
    exact bodyPost_ret (results_cell_row rfl _ _ (w.heap.size + 1) 28 (ints [x0, x1, x2, x3]) (0, 0) _ rfl b2 Try.underlying28 rfl (by kernel_rfl)) rfl ⟨rfl, hE⟩

set_option maxHeartbeats 2000000 in
theorem refStep_calls (zs : List Int) (w : World) (hl : zs.length = 4) :
    Calls Try.prog 32 #[.agg (ints zs)] w fun e w' => e = .returned (.int .i64 (stepL zs)) ∧ Below w.heap.size w w' := by
  have b0 := blk_new w 28 (ints zs)
  have hA := (Below.refl _ w).alloc (Nat.le_refl _) (.cells (ints zs) 28)
  have B0 := Lib.hid b0
  have HA := Lib.hid hA
  clear b0 hA
  go_enter Try.func32, Try.ntmps32
  go_wp2_with fail
  go_loopg [3, 4] 15 (fun gg s3 s4 wr => ∃ kk : Nat, kk ≤ 15 ∧ 15 - kk ≤ gg ∧ s4 = .int .i64 kk ∧ s3 = .int .i64 (2 ^ kk) ∧ Aside (wr = w.alloc (.cells (ints zs) 28)) ∧ Aside (∀ j, j < kk → fitsB (6 * 2 ^ j) zs = false))
  case atStart => exact ⟨0, Nat.zero_le _, by omega, rfl, rfl, rfl, fun j hj => absurd hj (Nat.not_lt_zero _)⟩
  case round =>
    obtain ⟨kk, hkk, hgk, rfl, rfl, hW, A⟩ := hrel
    obtain rfl := hW.out
    clear hW
    by_cases hlt : kk < 15
    · have hltz : (kk : Int) < 15 := by omega
      have hp := pow_le15 (s := kk) (by omega)
      have HF := Lib.hid (show (2 : Int) ^ (kk + 1) = 2 * 2 ^ kk by rw [Int.pow_succ]; omega)
      generalize hpp : (2 : Int) ^ kk = p at *
      have PP := Lib.hid hpp
      clear hpp
      go_wp2_with fail
      go_loopg [5, 6] 4 (fun gg s5 s6 wr => ∃ ii : Nat, ∃ bb : Bool, ii ≤ 4 ∧ 4 - ii ≤ gg ∧ s6 = .int .i64 ii ∧ s5 = .bool bb ∧ Aside (wr = w.alloc (.cells (ints zs) 28)) ∧ Aside (fitsB (6 * p) (zs.take ii) = bb))
      case atStart => exact ⟨0, true, Nat.zero_le _, by omega, rfl, rfl, rfl, rfl⟩
      case round =>
        obtain ⟨ii, bb, hii, hgi, rfl, rfl, hW, A2⟩ := hrel
        obtain rfl := hW.out
        clear hW
        by_cases hli : ii < 4
        · have hliz : (ii : Int) < 4 := by omega
          have hsu := Lib.hid (fitsB_take (m := 6 * p) (zs := zs) (i := ii) (by omega))
          have c0 := blk_int B0.out (i := ii) (by omega)
          generalize hs : zs.getD ii 0 = s at *
          clear hs
          by_cases h1 : 6 * p < s
          · go_wp2_with fail
            go_roundg (4 - (ii + 1))
            case measure => omega
            case rel =>
              have hres : fitsB (6 * p) (zs.take (ii + 1)) = false := by rw [hsu.out]; simp [h1]
              exact ⟨ii + 1, false, by omega, by omega, by go_num, rfl, rfl, hres⟩
          · by_cases h2 : s < -6 * p
            · go_wp2_with fail
              go_roundg (4 - (ii + 1))
              case measure => omega
              case rel =>
                have h3 : s < -(6 * p) := by omega
                have hres : fitsB (6 * p) (zs.take (ii + 1)) = false := by rw [hsu.out]; simp [h3]
                exact ⟨ii + 1, false, by omega, by omega, by go_num, rfl, rfl, hres⟩
            · go_wp2_with fail
              go_roundg (4 - (ii + 1))
              case measure => omega
              case rel =>
                have h3 : ¬ s < -(6 * p) := by omega
                have hres : fitsB (6 * p) (zs.take (ii + 1)) = bb := by rw [hsu.out, A2.out, decide_eq_false h3, decide_eq_false (show ¬ 6 * p < s by omega)]; simp
                exact ⟨ii + 1, bb, by omega, by omega, by go_num, rfl, rfl, hres⟩
        · have hliz : ¬ (ii : Int) < 4 := by omega
          obtain rfl : ii = 4 := by omega
          have ht : zs.take 4 = zs := List.take_of_length_le (by omega)
          have A3 := Lib.hid (show fitsB (6 * p) zs = bb by have := A2.out; rw [ht] at this; exact this)
          clear ht A2
          cases bb
          · go_wp2_with fail
            go_roundg (15 - (kk + 1))
            case measure => omega
            case rel =>
              refine ⟨kk + 1, by omega, by omega, by go_num, by rw [HF.out], rfl, (show Aside _ from fun j hj => ?_)⟩
              by_cases e : j = kk
              · subst e; rw [PP.out]; exact A3.out
              · exact A.out j (by omega)
          · go_wp2_with fail
            go_ret
            exact ⟨ret_i64 (by rw [stepL_of ⟨by omega, A.out, fun _ => by rw [PP.out]; exact A3.out⟩]), HA.out⟩
    · have hltz : ¬ (kk : Int) < 15 := by omega
      obtain rfl : kk = 15 := by omega
      go_wp2_with fail
      go_ret
      exact ⟨ret_i64 (by rw [stepL_of ⟨Nat.le_refl _, A.out, fun hc => absurd hc (by omega)⟩]; rfl), HA.out⟩
end Go.Proofs.Ytnmhbonheaoldaa
