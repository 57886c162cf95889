/- The contract of trig.Table. -/
import Derived.Test.YtlfiaaoegeodnaaTrigC
import Derived.Test.YtlfiaaoegeodnaaBlk
namespace Go.Proofs.Ytlfiaaoegeodnaa
open Go.RowKit

def TabTo (n : Nat) (zs : List Int) : Prop := zs.length = 256 ∧ ∀ i : Nat, i < n → zs.getD (2 * i) 0 = (bel i 7).1 ∧ zs.getD (2 * i + 1) 0 = (bel i 7).2
def TableOk (w : World) (e : Ending) (w' : World) : Prop := ∃ zs, TabTo 128 zs ∧ e = .returned (.agg (ints zs)) ∧ Below w.heap.size w w'

theorem tab_next {n : Nat} {zs : List Int} (h : TabTo n zs) (hn : n < 128) : TabTo (n + 1) ((zs.set (n * 2) (bel n 7).1).set (n * 2 + 1) (bel n 7).2) := by
  obtain ⟨hl, hi⟩ := h
  refine ⟨by simpa using hl, fun i hlt => ?_⟩
  simp only [List.getD_eq_getElem?_getD, List.getElem?_set, List.length_set, hl] at *
  by_cases e : i = n
  · subst e
    rw [if_neg (by omega), if_pos (by omega), if_pos (by omega), if_pos (by omega), if_pos (by omega)]
    exact ⟨rfl, rfl⟩
  · rw [if_neg (by omega), if_neg (by omega), if_neg (by omega), if_neg (by omega)]
    exact hi i (by omega)

set_option maxHeartbeats 4000000 in
set_option maxRecDepth 100000 in
theorem table_calls (w : World) : Calls Try.prog 34 #[] w (TableOk w) := by
  go_enter Try.func34, Try.ntmps34
  go_wp2_with fail
  refine (halves_calls _).mono ?_
  rintro e w1 ⟨rfl, hB⟩
  unfold halfCells
  go_wp2_with fail
  have hz : Try.zeroCells33 = ints (List.replicate 256 0) := by kernel_rfl
  have hB0 : Below w.heap.size w w1 := (((Below.refl _ w).alloc (Nat.le_refl _) _).alloc (by simp) _).trans (hB.mono (by simp; omega))
  have hs1 : w.heap.size + 2 ≤ w1.heap.size := by have := hB.size; simp at this; omega
  have b0 : Blk w1 w.heap.size 33 (ints (List.replicate 256 0)) := blk_below (B := w.heap.size + 2) (by rw [← hz]; exact blk_alloc (blk_new _ _ _) _) (hB.mono (by simp)) (by omega)
  have b1 : Blk w1 (w.heap.size + 1) 33 (ints (List.replicate 256 0)) := blk_below (B := w.heap.size + 2) (by rw [← hz]; exact (by simpa using blk_new (w.alloc (.cells Try.zeroCells33 33)) 33 Try.zeroCells33)) (hB.mono (by simp)) (by omega)
  have c0 := blk_alloc b0 (.cells halfCells 70)
  have c1 := blk_alloc b1 (.cells halfCells 70)
  have c2 := blk_new w1 70 halfCells
  have hB1 := hB0.alloc hB0.size (.cells halfCells 70)
  have HS := Lib.hid hs1
  have C0 := Lib.hid c0
  have C1 := Lib.hid c1
  have C2 := Lib.hid c2
  have HB := Lib.hid hB1
  clear hB hz hB0 hs1 b0 b1 c0 c1 c2 hB1
  generalize hg : w1.heap.size = g at *
  go_loopw [5] (fun a wr => ∃ (n : Nat) (zs : List Int), n ≤ 128 ∧ a = .int .i64 n ∧ TabTo n zs ∧ Blk wr w.heap.size 33 (ints (List.replicate 256 0)) ∧ Blk wr (w.heap.size + 1) 33 (ints zs) ∧ Blk wr g 70 halfCells ∧ Below w.heap.size w wr) (fun a _ => 128 - (intOf a).toNat)
  case atStart => exact ⟨0, _, by omega, rfl, ⟨by simp, fun i hi => by omega⟩, C0.out, C1.out, hg ▸ C2.out, HB.out⟩
  case round =>
    obtain ⟨n, zs, hn, rfl, ht, k0, k1, k2, kB⟩ := hrel
    clear C0 C1 C2 HB hg
    by_cases hlt : n < 128
    · go_wp2_with (first | (refine wpList_load_row rfl 70 _ rfl g rfl 70 halfCells (0, 0) _ k2 Try.underlying70 rfl (by kernel_rfl) ?_))
      refine (below_calls _ _ (by omega) (by omega)).mono ?_
      rintro e w2 ⟨rfl, hB⟩
      have m0 := blk_below k0 hB (blk_lt k0)
      have m1 := blk_below k1 hB (blk_lt k1)
      have m2 := blk_below k2 hB (blk_lt k2)
      have mB := bnext kB hB
      have hl := ht.1
      have f0 := blk_int m1 (i := n * 2) (by omega)
      have f1 := blk_int m1 (i := n * 2 + 1) (by omega)
      have z0 := blk_free m1 (n * 2)
      have z1 := blk_free m1 (n * 2 + 1)
      have HL := Lib.hid hl
      have hs := HS.out
      clear hl hB k0 k1 k2 kB HS
      go_wp2_with fail
      refine ⟨⟨n + 1, (zs.set (n * 2) (bel n 7).1).set (n * 2 + 1) (bel n 7).2, by omega, by simp, tab_next ht hlt, ?_, ?_, ?_, ?_⟩, ?_⟩
      · exact blk_far (blk_far m0 (by omega) _) (by omega) _
      · exact blk_set_int (blk_set_int m1 _ _) _ _
      · exact blk_far (blk_far m2 (by omega) _) (by omega) _
      · exact (mB.setCell (p := ⟨w.heap.size + 1, _, none⟩) (by simp) _).setCell (p := ⟨w.heap.size + 1, _, none⟩) (by simp) _
      · simp only [intOf]; omega
    · obtain rfl : n = 128 := by omega
      clear HS hlt hn
      go_wp2_with (first | (refine wpList_load_row rfl 33 _ rfl (w.heap.size + 1) rfl 33 (ints zs) (0, 0) _ k1 Try.underlying33 rfl (by rw [ints_size, ht.1]; kernel_rfl) ?_) | (refine wpList_store_blk rfl 33 _ _ rfl w.heap.size 33 _ (ints zs) rfl rfl k0 (by rw [ints_size, ints_size, ht.1]; simp) (by rw [ints_size, ht.1]; kernel_rfl) (ints_one _) ?_; intro w2 n0 hg))
      exact bodyPost_ret (results_cell_row rfl _ _ w.heap.size 33 (ints zs) (0, 0) _ rfl n0 Try.underlying33 rfl (by rw [ints_size, ht.1]; kernel_rfl)) rfl ⟨zs, ht, rfl, below_grown kB hg kB.size (Nat.le_refl _)⟩
end Go.Proofs.Ytlfiaaoegeodnaa
