/- Contracts of the wheel's methods: two points crossed, and back. -/
import Derived.Test.YtlfiaaoegeodnaaWheel
namespace Go.Proofs.Ytlfiaaoegeodnaa
open Go.RowKit
attribute [local go_sem ↓] Go.wp_at_zero Go.wp_at_succ

set_option maxHeartbeats 8000000 in
theorem wcross_calls (g i j : Nat) (zs : List Int) (w : World) (hb : Blk w g 75 (ints zs)) (hl : zs.length = 32) (hi : i < 16) (hj : j < 16) (hij : i ≠ j) (hz : AllIn 549755813888 zs) :
    Calls Try.prog 85 #[.pointer (some ⟨g, 0, none⟩), .int .i64 i, .int .i64 j] w (BlkTo 75 w g (wCross i j zs)) := by
  have i0 : (0 : Int) ≤ (i : Int) := by omega
  have i1 : (i : Int) < 16 := by omega
  have j0 : (0 : Int) ≤ (j : Int) := by omega
  have j1 : (j : Int) < 16 := by omega
  have hz2 := wCross1_in (p := i * 2) (q := j * 2) (c := 549755813888) hz (by omega)
  have hl2 : (wCross1 (i * 2) (j * 2) zs).length = 32 := by simp [wCross1, hl]
  unfold wCross
  have HL2 := Lib.hid hl2
  have HZ2 := Lib.hid hz2
  clear hz2 hl2
  have hg := blk_lt hb
  have c0 := blk_int hb (i := i * 2) (by omega)
  have c1 := blk_int hb (i := j * 2) (by omega)
  have b0 := allIn_get hz (i * 2)
  have b1 := allIn_get hz (j * 2)
  generalize hx : zs.getD (i * 2) 0 = x at *
  generalize hy : zs.getD (j * 2) 0 = y at *
  have X := Lib.hid hx
  have Y := Lib.hid hy
  have HZ := Lib.hid hz
  clear hx hy hz
  go_enter Try.func85, Try.ntmps85
  go_wp2
  refine wp_loop_rounds 3 ?_
  rw [rounds_succ]
  go_wp2
  go_region_held3 (fun w' => w'.cell? ⟨g, i * 2, none⟩ = some (.int .i64 x) ∧ w'.cell? ⟨g, j * 2, none⟩ = some (.int .i64 y)) (go_keep)
    (first | (go_at_call 37; refine (turnL_calls x y 64 _ (by omega) (by omega) (by omega) (by omega) (by omega) (by omega)).mono ?_; rintro e w' ⟨rfl, hB⟩; have hB2 : Below w.heap.size w w' := ⟨hB.os, hB.tape, hB.output, hB.size, hB.block⟩; have hb2 : Blk w' g 75 (ints zs) := (hB.block g hg).trans hb; have d0 := (blk_cell hb2 (i * 2)).trans ((blk_cell hb (i * 2)).symm.trans c0); have d1 := (blk_cell hb2 (j * 2)).trans ((blk_cell hb (j * 2)).symm.trans c1)))
  have f0 := blk_free hb2 (i * 2)
  have f1 := blk_free hb2 (j * 2)
  go_wp2
  go_region
  go_wp2
  refine rounds_any (fun W => Blk W g 75 (ints (wCross1 (i * 2) (j * 2) zs)) ∧ w.grownBy W (some g)) ⟨?_, ?_⟩ ?_
  · have h1 := blk_set_int (blk_set_int hb2 (i * 2) (turnL x y 64).2) (j * 2) (turnL x y 64).1
    rw [← X.out, ← Y.out] at h1
    rw [← X.out, ← Y.out]
    exact h1
  · exact grown_drew (grown_set (grown_set (grown_below hB2) _) _)
  clear c0 c1 d0 d1 f0 f1 hb hb2 hB hB2 X Y
  rintro W ⟨hb, hW⟩
  have hz := HZ2.out
  have hl := HL2.out
  clear HZ2 HL2
  rw [rounds_succ]
  generalize wCross1 (i * 2) (j * 2) zs = zs1 at *
  simp only [Int.reduceAdd, Int.reduceDiv] at hz
  have hg := blk_lt hb
  have c0 := blk_int hb (i := i * 2 + 1) (by omega)
  have c1 := blk_int hb (i := j * 2 + 1) (by omega)
  have b0 := allIn_get hz (i * 2 + 1)
  have b1 := allIn_get hz (j * 2 + 1)
  generalize hx : zs1.getD (i * 2 + 1) 0 = x at *
  generalize hy : zs1.getD (j * 2 + 1) 0 = y at *
  have X := Lib.hid hx
  have Y := Lib.hid hy
  have HZ := Lib.hid hz
  clear hx hy hz
  go_wp2
  go_region_held3 (fun w' => w'.cell? ⟨g, i * 2 + 1, none⟩ = some (.int .i64 x) ∧ w'.cell? ⟨g, j * 2 + 1, none⟩ = some (.int .i64 y)) (go_keep)
    (first | (go_at_call 37; refine (turnL_calls x y 64 _ (by omega) (by omega) (by omega) (by omega) (by omega) (by omega)).mono ?_; rintro e w' ⟨rfl, hB⟩; have hB2 : Below W.heap.size W w' := ⟨hB.os, hB.tape, hB.output, hB.size, hB.block⟩; have hb2 : Blk w' g 75 (ints zs1) := (hB.block g hg).trans hb; have d0 := (blk_cell hb2 (i * 2 + 1)).trans ((blk_cell hb (i * 2 + 1)).symm.trans c0); have d1 := (blk_cell hb2 (j * 2 + 1)).trans ((blk_cell hb (j * 2 + 1)).symm.trans c1)))
  have f0 := blk_free hb2 (i * 2 + 1)
  have f1 := blk_free hb2 (j * 2 + 1)
  go_wp2
  go_region
  go_wp2
  rw [rounds_succ]
  go_wp2
  go_end0
  refine ⟨rfl, ?_, ?_⟩
  · have h1 := blk_set_int (blk_set_int hb2 (i * 2 + 1) (turnL x y 64).2) (j * 2 + 1) (turnL x y 64).1
    rw [← X.out, ← Y.out] at h1
    rw [← X.out, ← Y.out]
    exact h1
  · exact grown_trans hW (grown_drew (grown_set (grown_set (grown_below hB2) _) _))

end Go.Proofs.Ytlfiaaoegeodnaa
