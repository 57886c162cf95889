/- The walk of layer 17's statement MaskPlays. -/
import Derived.Test.YtnmhbonheaoldaaMaskH
namespace Go.Proofs.Ytnmhbonheaoldaa
open Go.RowKit
attribute [local go_sem ↓] Go.wp_at_zero Go.wp_at_succ

/-- what the walk of MaskPlays knows of its memory -/
def PlaysM (w : World) (s y z : List Int) (W : World) : Prop :=
  Blk W w.heap.size 36 (ints s) ∧ Blk W (w.heap.size + 1) 28 (ints y) ∧ Blk W (w.heap.size + 2) 28 (ints z) ∧ Below w.heap.size w W
theorem playsM_below {w W W' : World} {s y z : List Int} (h : PlaysM w s y z W) (hC : Below W.heap.size W W') : PlaysM w s y z W' :=
  ⟨blk_below h.1 hC (blk_lt h.1), blk_below h.2.1 hC (blk_lt h.2.1), blk_below h.2.2.1 hC (blk_lt h.2.2.1), bnext h.2.2.2 hC⟩
theorem playsM_drew {w W : World} {s y z : List Int} (h : PlaysM w s y z W) : PlaysM w s y z W.drew := ⟨blk_drew h.1, blk_drew h.2.1, blk_drew h.2.2.1, h.2.2.2.drew⟩
theorem farL_great {y z : List Int} (h : heldTo y z 4 = false) : farL y z = -1 := by unfold farL; rw [h, if_neg (by decide)]
theorem mayL_great {s : List Int} {b : Nat} {y z : List Int} (h : heldTo y z 4 = false) : mayL s b y z = false := by unfold mayL; rw [farL_great h]; rfl

set_option maxRecDepth 100000 in
set_option maxHeartbeats 4000000 in
theorem mplays_away_a (a0 : List Int) (a1 : Int) (a2 a3 : List Int) (l0 : a0.length = 8) (i0 : ∀ z ∈ a0, -9223372036854775808 ≤ z ∧ z ≤ 9223372036854775807) (l2 : a2.length = 4) (i2 : ∀ z ∈ a2, -9223372036854775808 ≤ z ∧ z ≤ 9223372036854775807) (l3 : a3.length = 4) (i3 : ∀ z ∈ a3, -9223372036854775808 ≤ z ∧ z ≤ 9223372036854775807) (hg : okTo a2 4 = false) (hr : (rightB a0 && decide (0 ≤ a1) && decide (a1 < 8)) = false) (w : World) : Calls Try.prog 14 #[.agg (ints a0), .int .i64 a1, .agg (ints a2), .agg (ints a3)] w (LawTrue w) := by
  have b0 := blk_alloc (blk_alloc (blk_new w 36 (ints a0)) (.cells (ints a2) 28)) (.cells (ints a3) 28)
  have b1 := blk_alloc (blk_new (w.alloc (.cells (ints a0) 36)) 28 (ints a2)) (.cells (ints a3) 28)
  have b2 := blk_new ((w.alloc (.cells (ints a0) 36)).alloc (.cells (ints a2) 28)) 28 (ints a3)
  rw [show (w.alloc (.cells (ints a0) 36)).heap.size = w.heap.size + 1 by simp] at b1
  rw [show ((w.alloc (.cells (ints a0) 36)).alloc (.cells (ints a2) 28)).heap.size = w.heap.size + 2 by simp] at b2
  have hA : Below w.heap.size w (((w.alloc (.cells (ints a0) 36)).alloc (.cells (ints a2) 28)).alloc (.cells (ints a3) 28)) := (((Below.refl _ w).alloc (Nat.le_refl _) _).alloc (by simp) _).alloc (by simp; omega) _
  have P0 := Lib.hid (show PlaysM w a0 a2 a3 (((w.alloc (.cells (ints a0) 36)).alloc (.cells (ints a2) 28)).alloc (.cells (ints a3) 28)) from ⟨b0, b1, b2, hA⟩)
  clear b0 b1 b2 hA
  have cf := fun W => far_calls a2 a3 W l2 l3 i2 i3
  have gy := fun W => refGreat_calls a2 W l2
  have gz := fun W => refGreat_calls a3 W l3
  have hh : heldTo a2 a3 4 = false := by rw [heldTo_ok, hg]; rfl
  rw [hg] at gy
  rw [farL_great hh] at cf
  have crr := fun W => refRight_calls a0 W l0
  have cb := fun W => budget_away a0 a1 W l0 i0 hr
  have cm := fun W => moves_away a0 a1 W l0 i0 hr
  have cy := fun W => may_away a0 a1 a2 a3 W l0 i0 hr l2 l3 i2 i3
  have hrr : rightB a0 = false ∨ (rightB a0 = true ∧ (a1 < 0 ∨ 7 < a1)) := by
    cases hq : rightB a0 with
    | false => exact Or.inl rfl
    | true => rw [hq] at hr; simp at hr; exact Or.inr ⟨rfl, by omega⟩
  clear hr hg i0 i2 i3 hh
  go_enter Try.func14, Try.ntmps14
  go_wp2_with fail
  refine (awake17_calls _).mono ?_
  rintro e w1 ⟨rfl, hC⟩
  have P1 := Lib.hid (playsM_below P0.out hC)
  clear hC P0
  go_wp2_with (first | (refine wpList_load_row rfl 28 _ rfl (w.heap.size + 1) rfl 28 (ints a2) (0, 0) _ P1.out.2.1 Try.underlying28 rfl (by rw [ints_size, l2]; kernel_rfl) ?_) | (refine wpList_load_row rfl 28 _ rfl (w.heap.size + 2) rfl 28 (ints a3) (0, 0) _ P1.out.2.2.1 Try.underlying28 rfl (by rw [ints_size, l3]; kernel_rfl) ?_))
  refine (cf _).mono ?_
  rintro e w2 ⟨rfl, hC⟩
  have P2 := Lib.hid (playsM_below P1.out hC)
  clear hC P1
  go_wp2_with (first | (refine wpList_load_row rfl 28 _ rfl (w.heap.size + 1) rfl 28 (ints a2) (0, 0) _ P2.out.2.1 Try.underlying28 rfl (by rw [ints_size, l2]; kernel_rfl) ?_))
  refine (gy _).mono ?_
  rintro e w3 ⟨rfl, hC⟩
  have P3 := Lib.hid (playsM_below P2.out hC)
  clear hC P2
  rcases hrr with hq | ⟨hq, hq2 | hq2⟩
  all_goals
    rw [hq] at crr
    clear hq
    go_wp2_with (first | (refine wpList_load_row rfl 36 _ rfl w.heap.size rfl 36 (ints a0) (0, 0) _ P3.out.1 Try.underlying36 rfl (by rw [ints_size, l0]; kernel_rfl) ?_))
    refine (crr _).mono ?_
    rintro e w4 ⟨rfl, hC⟩
    have P4 := Lib.hid (playsM_below P3.out hC)
    clear hC P3
    go_wp2_with (first | (refine wpList_load_row rfl 36 _ rfl w.heap.size rfl 36 (ints a0) (0, 0) _ P4.out.1 Try.underlying36 rfl (by rw [ints_size, l0]; kernel_rfl) ?_))
    refine (cb _).mono ?_
    rintro e w5 ⟨rfl, hC⟩
    have P5 := Lib.hid (playsM_below P4.out hC)
    clear hC P4
    go_wp2_with (first | (refine wpList_load_wanted (by rfl) 36 _ rfl w.heap.size rfl 36 a0 _ P5.out.1 Try.underlying36 rfl (by rw [l0]; kernel_rfl) ?_))
    refine (cm _).mono ?_
    rintro e w6 ⟨rfl, hC⟩
    have P6 := Lib.hid (playsM_below P5.out hC)
    clear hC P5
    go_wp2_with (first | (refine wpList_load_wanted (by rfl) 36 _ rfl w.heap.size rfl 36 a0 _ P6.out.1 Try.underlying36 rfl (by rw [l0]; kernel_rfl) ?_) | (refine wpList_load_wanted (by rfl) 28 _ rfl (w.heap.size + 1) rfl 28 a2 _ P6.out.2.1 Try.underlying28 rfl (by rw [l2]; kernel_rfl) ?_) | (refine wpList_load_wanted (by rfl) 28 _ rfl (w.heap.size + 2) rfl 28 a3 _ P6.out.2.2.1 Try.underlying28 rfl (by rw [l3]; kernel_rfl) ?_))
    refine (cy _).mono ?_
    rintro e w7 ⟨rfl, hC⟩
    have P7 := Lib.hid (playsM_below P6.out hC)
    clear hC P6
    go_wp2_with fail
    go_ret
    exact ⟨rfl, P7.out.2.2.2⟩

set_option maxRecDepth 100000 in
set_option maxHeartbeats 4000000 in
theorem mplays_away_b (a0 : List Int) (a1 : Int) (a2 a3 : List Int) (l0 : a0.length = 8) (i0 : ∀ z ∈ a0, -9223372036854775808 ≤ z ∧ z ≤ 9223372036854775807) (l2 : a2.length = 4) (i2 : ∀ z ∈ a2, -9223372036854775808 ≤ z ∧ z ≤ 9223372036854775807) (l3 : a3.length = 4) (i3 : ∀ z ∈ a3, -9223372036854775808 ≤ z ∧ z ≤ 9223372036854775807) (hg : okTo a2 4 = true) (hg2 : okTo a3 4 = false) (hr : (rightB a0 && decide (0 ≤ a1) && decide (a1 < 8)) = false) (w : World) : Calls Try.prog 14 #[.agg (ints a0), .int .i64 a1, .agg (ints a2), .agg (ints a3)] w (LawTrue w) := by
  have b0 := blk_alloc (blk_alloc (blk_new w 36 (ints a0)) (.cells (ints a2) 28)) (.cells (ints a3) 28)
  have b1 := blk_alloc (blk_new (w.alloc (.cells (ints a0) 36)) 28 (ints a2)) (.cells (ints a3) 28)
  have b2 := blk_new ((w.alloc (.cells (ints a0) 36)).alloc (.cells (ints a2) 28)) 28 (ints a3)
  rw [show (w.alloc (.cells (ints a0) 36)).heap.size = w.heap.size + 1 by simp] at b1
  rw [show ((w.alloc (.cells (ints a0) 36)).alloc (.cells (ints a2) 28)).heap.size = w.heap.size + 2 by simp] at b2
  have hA : Below w.heap.size w (((w.alloc (.cells (ints a0) 36)).alloc (.cells (ints a2) 28)).alloc (.cells (ints a3) 28)) := (((Below.refl _ w).alloc (Nat.le_refl _) _).alloc (by simp) _).alloc (by simp; omega) _
  have P0 := Lib.hid (show PlaysM w a0 a2 a3 (((w.alloc (.cells (ints a0) 36)).alloc (.cells (ints a2) 28)).alloc (.cells (ints a3) 28)) from ⟨b0, b1, b2, hA⟩)
  clear b0 b1 b2 hA
  have cf := fun W => far_calls a2 a3 W l2 l3 i2 i3
  have gy := fun W => refGreat_calls a2 W l2
  have gz := fun W => refGreat_calls a3 W l3
  have hh : heldTo a2 a3 4 = false := by rw [heldTo_ok, hg, hg2]; rfl
  rw [hg] at gy
  rw [hg2] at gz
  rw [farL_great hh] at cf
  have crr := fun W => refRight_calls a0 W l0
  have cb := fun W => budget_away a0 a1 W l0 i0 hr
  have cm := fun W => moves_away a0 a1 W l0 i0 hr
  have cy := fun W => may_away a0 a1 a2 a3 W l0 i0 hr l2 l3 i2 i3
  have hrr : rightB a0 = false ∨ (rightB a0 = true ∧ (a1 < 0 ∨ 7 < a1)) := by
    cases hq : rightB a0 with
    | false => exact Or.inl rfl
    | true => rw [hq] at hr; simp at hr; exact Or.inr ⟨rfl, by omega⟩
  clear hr hg i0 i2 i3 hh hg2
  go_enter Try.func14, Try.ntmps14
  go_wp2_with fail
  refine (awake17_calls _).mono ?_
  rintro e w1 ⟨rfl, hC⟩
  have P1 := Lib.hid (playsM_below P0.out hC)
  clear hC P0
  go_wp2_with (first | (refine wpList_load_row rfl 28 _ rfl (w.heap.size + 1) rfl 28 (ints a2) (0, 0) _ P1.out.2.1 Try.underlying28 rfl (by rw [ints_size, l2]; kernel_rfl) ?_) | (refine wpList_load_row rfl 28 _ rfl (w.heap.size + 2) rfl 28 (ints a3) (0, 0) _ P1.out.2.2.1 Try.underlying28 rfl (by rw [ints_size, l3]; kernel_rfl) ?_))
  refine (cf _).mono ?_
  rintro e w2 ⟨rfl, hC⟩
  have P2 := Lib.hid (playsM_below P1.out hC)
  clear hC P1
  go_wp2_with (first | (refine wpList_load_row rfl 28 _ rfl (w.heap.size + 1) rfl 28 (ints a2) (0, 0) _ P2.out.2.1 Try.underlying28 rfl (by rw [ints_size, l2]; kernel_rfl) ?_))
  refine (gy _).mono ?_
  rintro e w3 ⟨rfl, hC⟩
  have P3 := Lib.hid (playsM_below P2.out hC)
  clear hC P2
  go_wp2_with (first | (refine wpList_load_wanted (by rfl) 28 _ rfl (w.heap.size + 2) rfl 28 a3 _ P3.out.2.2.1 Try.underlying28 rfl (by rw [l3]; kernel_rfl) ?_))
  refine (gz _).mono ?_
  rintro e w4 ⟨rfl, hC⟩
  have P4 := Lib.hid (playsM_below P3.out hC)
  clear hC P3
  rcases hrr with hq | ⟨hq, hq2 | hq2⟩
  all_goals
    rw [hq] at crr
    clear hq
    go_wp2_with (first | (refine wpList_load_row rfl 36 _ rfl w.heap.size rfl 36 (ints a0) (0, 0) _ P4.out.1 Try.underlying36 rfl (by rw [ints_size, l0]; kernel_rfl) ?_))
    refine (crr _).mono ?_
    rintro e w5 ⟨rfl, hC⟩
    have P5 := Lib.hid (playsM_below P4.out hC)
    clear hC P4
    go_wp2_with (first | (refine wpList_load_row rfl 36 _ rfl w.heap.size rfl 36 (ints a0) (0, 0) _ P5.out.1 Try.underlying36 rfl (by rw [ints_size, l0]; kernel_rfl) ?_))
    refine (cb _).mono ?_
    rintro e w6 ⟨rfl, hC⟩
    have P6 := Lib.hid (playsM_below P5.out hC)
    clear hC P5
    go_wp2_with (first | (refine wpList_load_wanted (by rfl) 36 _ rfl w.heap.size rfl 36 a0 _ P6.out.1 Try.underlying36 rfl (by rw [l0]; kernel_rfl) ?_))
    refine (cm _).mono ?_
    rintro e w7 ⟨rfl, hC⟩
    have P7 := Lib.hid (playsM_below P6.out hC)
    clear hC P6
    go_wp2_with (first | (refine wpList_load_wanted (by rfl) 36 _ rfl w.heap.size rfl 36 a0 _ P7.out.1 Try.underlying36 rfl (by rw [l0]; kernel_rfl) ?_) | (refine wpList_load_wanted (by rfl) 28 _ rfl (w.heap.size + 1) rfl 28 a2 _ P7.out.2.1 Try.underlying28 rfl (by rw [l2]; kernel_rfl) ?_) | (refine wpList_load_wanted (by rfl) 28 _ rfl (w.heap.size + 2) rfl 28 a3 _ P7.out.2.2.1 Try.underlying28 rfl (by rw [l3]; kernel_rfl) ?_))
    refine (cy _).mono ?_
    rintro e w8 ⟨rfl, hC⟩
    have P8 := Lib.hid (playsM_below P7.out hC)
    clear hC P7
    go_wp2_with fail
    go_ret
    exact ⟨rfl, P8.out.2.2.2⟩

set_option maxRecDepth 100000 in
set_option maxHeartbeats 4000000 in
theorem mplays_away_c (a0 : List Int) (a1 : Int) (a2 a3 : List Int) (l0 : a0.length = 8) (i0 : ∀ z ∈ a0, -9223372036854775808 ≤ z ∧ z ≤ 9223372036854775807) (l2 : a2.length = 4) (i2 : ∀ z ∈ a2, -9223372036854775808 ≤ z ∧ z ≤ 9223372036854775807) (l3 : a3.length = 4) (i3 : ∀ z ∈ a3, -9223372036854775808 ≤ z ∧ z ≤ 9223372036854775807) (hg : okTo a2 4 = true) (hg2 : okTo a3 4 = true) (hr : (rightB a0 && decide (0 ≤ a1) && decide (a1 < 8)) = false) (w : World) : Calls Try.prog 14 #[.agg (ints a0), .int .i64 a1, .agg (ints a2), .agg (ints a3)] w (LawTrue w) := by
  have b0 := blk_alloc (blk_alloc (blk_new w 36 (ints a0)) (.cells (ints a2) 28)) (.cells (ints a3) 28)
  have b1 := blk_alloc (blk_new (w.alloc (.cells (ints a0) 36)) 28 (ints a2)) (.cells (ints a3) 28)
  have b2 := blk_new ((w.alloc (.cells (ints a0) 36)).alloc (.cells (ints a2) 28)) 28 (ints a3)
  rw [show (w.alloc (.cells (ints a0) 36)).heap.size = w.heap.size + 1 by simp] at b1
  rw [show ((w.alloc (.cells (ints a0) 36)).alloc (.cells (ints a2) 28)).heap.size = w.heap.size + 2 by simp] at b2
  have hA : Below w.heap.size w (((w.alloc (.cells (ints a0) 36)).alloc (.cells (ints a2) 28)).alloc (.cells (ints a3) 28)) := (((Below.refl _ w).alloc (Nat.le_refl _) _).alloc (by simp) _).alloc (by simp; omega) _
  have P0 := Lib.hid (show PlaysM w a0 a2 a3 (((w.alloc (.cells (ints a0) 36)).alloc (.cells (ints a2) 28)).alloc (.cells (ints a3) 28)) from ⟨b0, b1, b2, hA⟩)
  clear b0 b1 b2 hA
  have cf := fun W => far_calls a2 a3 W l2 l3 i2 i3
  have gy := fun W => refGreat_calls a2 W l2
  have gz := fun W => refGreat_calls a3 W l3
  have hh : heldTo a2 a3 4 = true := by rw [heldTo_ok, hg, hg2]; rfl
  rw [hg] at gy
  rw [hg2] at gz
  have rf := fun W => refFar_calls a2 a3 W l2 l3 hh
  rw [← farL_held hh] at rf
  have hfb := farTo_bd hh
  rw [← farL_held hh] at hfb
  have crr := fun W => refRight_calls a0 W l0
  have cb := fun W => budget_away a0 a1 W l0 i0 hr
  have cm := fun W => moves_away a0 a1 W l0 i0 hr
  have cy := fun W => may_away a0 a1 a2 a3 W l0 i0 hr l2 l3 i2 i3
  have hrr : rightB a0 = false ∨ (rightB a0 = true ∧ (a1 < 0 ∨ 7 < a1)) := by
    cases hq : rightB a0 with
    | false => exact Or.inl rfl
    | true => rw [hq] at hr; simp at hr; exact Or.inr ⟨rfl, by omega⟩
  clear hr hg i0 i2 i3 hh hg2
  generalize farL a2 a3 = f at *
  go_enter Try.func14, Try.ntmps14
  go_wp2_with fail
  refine (awake17_calls _).mono ?_
  rintro e w1 ⟨rfl, hC⟩
  have P1 := Lib.hid (playsM_below P0.out hC)
  clear hC P0
  go_wp2_with (first | (refine wpList_load_row rfl 28 _ rfl (w.heap.size + 1) rfl 28 (ints a2) (0, 0) _ P1.out.2.1 Try.underlying28 rfl (by rw [ints_size, l2]; kernel_rfl) ?_) | (refine wpList_load_row rfl 28 _ rfl (w.heap.size + 2) rfl 28 (ints a3) (0, 0) _ P1.out.2.2.1 Try.underlying28 rfl (by rw [ints_size, l3]; kernel_rfl) ?_))
  refine (cf _).mono ?_
  rintro e w2 ⟨rfl, hC⟩
  have P2 := Lib.hid (playsM_below P1.out hC)
  clear hC P1
  go_wp2_with (first | (refine wpList_load_row rfl 28 _ rfl (w.heap.size + 1) rfl 28 (ints a2) (0, 0) _ P2.out.2.1 Try.underlying28 rfl (by rw [ints_size, l2]; kernel_rfl) ?_))
  refine (gy _).mono ?_
  rintro e w3 ⟨rfl, hC⟩
  have P3 := Lib.hid (playsM_below P2.out hC)
  clear hC P2
  go_wp2_with (first | (refine wpList_load_wanted (by rfl) 28 _ rfl (w.heap.size + 2) rfl 28 a3 _ P3.out.2.2.1 Try.underlying28 rfl (by rw [l3]; kernel_rfl) ?_))
  refine (gz _).mono ?_
  rintro e w4 ⟨rfl, hC⟩
  have P4 := Lib.hid (playsM_below P3.out hC)
  clear hC P3
  go_wp2_with (first | (refine wpList_load_wanted (by rfl) 28 _ rfl (w.heap.size + 1) rfl 28 a2 _ P4.out.2.1 Try.underlying28 rfl (by rw [l2]; kernel_rfl) ?_) | (refine wpList_load_wanted (by rfl) 28 _ rfl (w.heap.size + 2) rfl 28 a3 _ P4.out.2.2.1 Try.underlying28 rfl (by rw [l3]; kernel_rfl) ?_))
  refine (rf _).mono ?_
  rintro e w5 ⟨rfl, hC⟩
  have P5 := Lib.hid (playsM_below P4.out hC)
  clear hC P4
  rcases hrr with hq | ⟨hq, hq2 | hq2⟩
  all_goals
    rw [hq] at crr
    clear hq
    go_wp2_with (first | (refine wpList_load_row rfl 36 _ rfl w.heap.size rfl 36 (ints a0) (0, 0) _ P5.out.1 Try.underlying36 rfl (by rw [ints_size, l0]; kernel_rfl) ?_))
    refine (crr _).mono ?_
    rintro e w6 ⟨rfl, hC⟩
    have P6 := Lib.hid (playsM_below P5.out hC)
    clear hC P5
    go_wp2_with (first | (refine wpList_load_row rfl 36 _ rfl w.heap.size rfl 36 (ints a0) (0, 0) _ P6.out.1 Try.underlying36 rfl (by rw [ints_size, l0]; kernel_rfl) ?_))
    refine (cb _).mono ?_
    rintro e w7 ⟨rfl, hC⟩
    have P7 := Lib.hid (playsM_below P6.out hC)
    clear hC P6
    go_wp2_with (first | (refine wpList_load_wanted (by rfl) 36 _ rfl w.heap.size rfl 36 a0 _ P7.out.1 Try.underlying36 rfl (by rw [l0]; kernel_rfl) ?_))
    refine (cm _).mono ?_
    rintro e w8 ⟨rfl, hC⟩
    have P8 := Lib.hid (playsM_below P7.out hC)
    clear hC P7
    go_wp2_with (first | (refine wpList_load_wanted (by rfl) 36 _ rfl w.heap.size rfl 36 a0 _ P8.out.1 Try.underlying36 rfl (by rw [l0]; kernel_rfl) ?_) | (refine wpList_load_wanted (by rfl) 28 _ rfl (w.heap.size + 1) rfl 28 a2 _ P8.out.2.1 Try.underlying28 rfl (by rw [l2]; kernel_rfl) ?_) | (refine wpList_load_wanted (by rfl) 28 _ rfl (w.heap.size + 2) rfl 28 a3 _ P8.out.2.2.1 Try.underlying28 rfl (by rw [l3]; kernel_rfl) ?_))
    refine (cy _).mono ?_
    rintro e w9 ⟨rfl, hC⟩
    have P9 := Lib.hid (playsM_below P8.out hC)
    clear hC P8
    go_wp2_with fail
    go_ret
    exact ⟨rfl, P9.out.2.2.2⟩

set_option maxRecDepth 100000 in
set_option maxHeartbeats 8000000 in
theorem mplays_in_a (a0 : List Int) (b : Nat) (a2 a3 : List Int) (l0 : a0.length = 8) (l2 : a2.length = 4) (i2 : ∀ z ∈ a2, -9223372036854775808 ≤ z ∧ z ≤ 9223372036854775807) (l3 : a3.length = 4) (i3 : ∀ z ∈ a3, -9223372036854775808 ≤ z ∧ z ≤ 9223372036854775807) (hg : okTo a2 4 = false) (hr : rightB a0 = true) (hb : b < 8) (w : World) : Calls Try.prog 14 #[.agg (ints a0), .int .i64 b, .agg (ints a2), .agg (ints a3)] w (LawTrue w) := by
  have b0 := blk_alloc (blk_alloc (blk_new w 36 (ints a0)) (.cells (ints a2) 28)) (.cells (ints a3) 28)
  have b1 := blk_alloc (blk_new (w.alloc (.cells (ints a0) 36)) 28 (ints a2)) (.cells (ints a3) 28)
  have b2 := blk_new ((w.alloc (.cells (ints a0) 36)).alloc (.cells (ints a2) 28)) 28 (ints a3)
  rw [show (w.alloc (.cells (ints a0) 36)).heap.size = w.heap.size + 1 by simp] at b1
  rw [show ((w.alloc (.cells (ints a0) 36)).alloc (.cells (ints a2) 28)).heap.size = w.heap.size + 2 by simp] at b2
  have hA : Below w.heap.size w (((w.alloc (.cells (ints a0) 36)).alloc (.cells (ints a2) 28)).alloc (.cells (ints a3) 28)) := (((Below.refl _ w).alloc (Nat.le_refl _) _).alloc (by simp) _).alloc (by simp; omega) _
  have P0 := Lib.hid (show PlaysM w a0 a2 a3 (((w.alloc (.cells (ints a0) 36)).alloc (.cells (ints a2) 28)).alloc (.cells (ints a3) 28)) from ⟨b0, b1, b2, hA⟩)
  clear b0 b1 b2 hA
  have cf := fun W => far_calls a2 a3 W l2 l3 i2 i3
  have gy := fun W => refGreat_calls a2 W l2
  have gz := fun W => refGreat_calls a3 W l3
  have hh : heldTo a2 a3 4 = false := by rw [heldTo_ok, hg]; rfl
  rw [hg] at gy
  rw [farL_great hh] at cf
  have crr := fun W => refRight_calls a0 W l0
  rw [hr] at crr
  have cb := fun W => budget_calls a0 b W l0 hr hb
  have cm := fun W => moves_calls a0 b W l0 hr hb
  have cy := fun W => may_calls a0 b a2 a3 W l0 hr hb l2 l3 i2 i3
  have crb := fun W => refBudget_calls a0 b W l0 hr hb
  have cal := fun W => all_calls a0 W l0 hr
  have hmv : movesL a0 b = budL a0 b / 2 ^ (a0.getD b 0).toNat := rfl
  have hlb := budsL_len a0
  have hgb := budsL_get a0 hb
  have hbn := budTo_nonneg a0 b 8
  rw [show budTo a0 b 8 = budL a0 b from rfl] at hbn
  have hbl := budL_le (right_le hr) b
  have gk := right_get hr b
  rw [mayL_great hh] at cy
  have hbz : (b : Int) < 8 := by omega
  have hbz7 : (b : Int) ≤ 7 := by omega
  have hb0 : 0 ≤ (b : Int) := by omega
  obtain ⟨n, hn⟩ : ∃ n : Nat, a0.getD b 0 = n := ⟨(a0.getD b 0).toNat, by omega⟩
  have hn15 : n ≤ 15 := by omega
  have HN := Lib.hid hn
  rw [hn, Int.toNat_natCast] at hmv
  have cg := fun W => refGain_calls n W hn15
  have hp := pow_le15 hn15
  clear hn gk hr hg i2 i3 hh
  generalize (2 : Int) ^ n = p at *
  generalize budL a0 b = bud at *
  generalize movesL a0 b = mv at *
  generalize budsL a0 = bs at *
  have htd : bud.tdiv p = mv := by rw [Int.tdiv_eq_ediv_of_nonneg hbn, hmv]
  have hmv0 : 0 ≤ mv := by rw [hmv]; exact Int.ediv_nonneg hbn (by omega)
  have hmv1 : mv ≤ 131072 := by rw [hmv]; exact Int.le_trans (Int.ediv_le_self _ hbn) hbl
  have hwm : IntKind.i64.wrap mv = mv := IntWalk.i64_in _ ⟨by omega, by omega⟩
  have hp0 : (p == 0) = false := by simp; omega
  have hpne : p ≠ 0 := by omega
  have HTD := Lib.hid htd
  have HWM := Lib.hid hwm
  have HGB := Lib.hid hgb
  clear htd hwm hmv hgb
  go_enter Try.func14, Try.ntmps14
  go_wp2_with fail
  refine (awake17_calls _).mono ?_
  rintro e w1 ⟨rfl, hC⟩
  have P1 := Lib.hid (playsM_below P0.out hC)
  clear hC P0
  go_wp2_with (first | (refine wpList_load_row rfl 28 _ rfl (w.heap.size + 1) rfl 28 (ints a2) (0, 0) _ P1.out.2.1 Try.underlying28 rfl (by rw [ints_size, l2]; kernel_rfl) ?_) | (refine wpList_load_row rfl 28 _ rfl (w.heap.size + 2) rfl 28 (ints a3) (0, 0) _ P1.out.2.2.1 Try.underlying28 rfl (by rw [ints_size, l3]; kernel_rfl) ?_))
  refine (cf _).mono ?_
  rintro e w2 ⟨rfl, hC⟩
  have P2 := Lib.hid (playsM_below P1.out hC)
  clear hC P1
  go_wp2_with (first | (refine wpList_load_row rfl 28 _ rfl (w.heap.size + 1) rfl 28 (ints a2) (0, 0) _ P2.out.2.1 Try.underlying28 rfl (by rw [ints_size, l2]; kernel_rfl) ?_))
  refine (gy _).mono ?_
  rintro e w3 ⟨rfl, hC⟩
  have P3 := Lib.hid (playsM_below P2.out hC)
  clear hC P2
  go_wp2_with (first | (refine wpList_load_row rfl 36 _ rfl w.heap.size rfl 36 (ints a0) (0, 0) _ P3.out.1 Try.underlying36 rfl (by rw [ints_size, l0]; kernel_rfl) ?_))
  refine (crr _).mono ?_
  rintro e w4 ⟨rfl, hC⟩
  have P4 := Lib.hid (playsM_below P3.out hC)
  clear hC P3
  go_wp2_with (first | (refine wpList_load_row rfl 36 _ rfl w.heap.size rfl 36 (ints a0) (0, 0) _ P4.out.1 Try.underlying36 rfl (by rw [ints_size, l0]; kernel_rfl) ?_))
  refine (crb _).mono ?_
  rintro e w5 ⟨rfl, hC⟩
  have P5 := Lib.hid (playsM_below P4.out hC)
  clear hC P4
  have c0 := blk_int P5.out.1 (i := b) (by omega)
  rw [HN.out] at c0
  go_wp2_with fail
  refine (cg _).mono ?_
  rintro e w' ⟨rfl, rfl⟩
  clear c0
  go_wp2_with (first | (refine wpList_load_row rfl 36 _ rfl w.heap.size rfl 36 (ints a0) (0, 0) _ P5.out.1 Try.underlying36 rfl (by rw [ints_size, l0]; kernel_rfl) ?_))
  refine (cal _).mono ?_
  rintro e w6 ⟨rfl, hC⟩
  have P6 := Lib.hid (playsM_below P5.out hC)
  clear hC P5
  have nn := blk_new w6 37 #[Value.int .i64 0, Value.int .i64 0, Value.int .i64 0, Value.int .i64 0, Value.int .i64 0, Value.int .i64 0, Value.int .i64 0, Value.int .i64 0]
  go_wp2_with (first | (refine wpList_store_blk rfl 37 _ _ rfl w6.heap.size 37 _ (ints bs) rfl rfl nn (by rw [ints_size, hlb]; rfl) (by rw [ints_size, hlb]; kernel_rfl) (ints_one _) ?_; intro wz nz hgz))
  have PZ : PlaysM w a0 a2 a3 wz := by
    obtain ⟨p1, p2, p3, p4⟩ := P6.out
    have q1 := blk_lt p1
    have q2 := blk_lt p2
    have q3 := blk_lt p3
    have hs := p4.size
    exact ⟨blk_grown (blk_alloc p1 (.cells #[Value.int .i64 0, Value.int .i64 0, Value.int .i64 0, Value.int .i64 0, Value.int .i64 0, Value.int .i64 0, Value.int .i64 0, Value.int .i64 0] 37)) hgz (by simp; omega), blk_grown (blk_alloc p2 (.cells #[Value.int .i64 0, Value.int .i64 0, Value.int .i64 0, Value.int .i64 0, Value.int .i64 0, Value.int .i64 0, Value.int .i64 0, Value.int .i64 0] 37)) hgz (by simp; omega), blk_grown (blk_alloc p3 (.cells #[Value.int .i64 0, Value.int .i64 0, Value.int .i64 0, Value.int .i64 0, Value.int .i64 0, Value.int .i64 0, Value.int .i64 0, Value.int .i64 0] 37)) hgz (by simp; omega), below_grown (p4.alloc hs (.cells #[Value.int .i64 0, Value.int .i64 0, Value.int .i64 0, Value.int .i64 0, Value.int .i64 0, Value.int .i64 0, Value.int .i64 0, Value.int .i64 0] 37)) hgz (by simp; omega) (by omega)⟩
  have cz : wz.cell? ⟨w6.heap.size, b, none⟩ = some (.int .i64 bud) := by rw [← HGB.out]; exact blk_int nz (by omega)
  have hltz := blk_lt nz
  clear nn hgz nz P6
  generalize w6.heap.size = g at *
  have hu0 := Try.underlying36
  have hu4 := Try.underlying28
  have hi0 : (Try.prog.info? 36).map (·.size) = some (a0.map (Value.int .i64)).length := by rw [List.length_map, l0]; kernel_rfl
  have hi4 : (Try.prog.info? 28).map (·.size) = some (a2.map (Value.int .i64)).length := by rw [List.length_map, l2]; kernel_rfl
  have hi5 : (Try.prog.info? 28).map (·.size) = some (a3.map (Value.int .i64)).length := by rw [List.length_map, l3]; kernel_rfl
  have htd := HTD.out
  have hwm := HWM.out
  have HZ := Lib.hid (show PlaysM w a0 a2 a3 wz ∧ wz.cell? ⟨g, b, none⟩ = some (.int .i64 bud) ∧ g < wz.heap.size from ⟨PZ, cz, hltz⟩)
  clear PZ cz hltz
  simp only [ints] at cb cm cy
  go_wp2_with fail
  refine wp_region_held_drew (S := (fun W => PlaysM w a0 a2 a3 W ∧ W.cell? ⟨g, b, none⟩ = some (.int .i64 bud) ∧ g < W.heap.size)) (by kernel_rfl) ⟨playsM_drew HZ.out.1, HZ.out.2.1, HZ.out.2.2⟩ (fun hHeld => ?_)
  refine wpAnyH_take (i := 0) (oi := ⟨_, _, _, _, _, _⟩) (v := _) rfl (by kernel_rfl) (by kernel_rfl) (by kernel_rfl) (fun _ _ _ h => h) (yieldsIf_load_mid (by rfl) _ _ rfl _ _ rfl _ _ (fun _ h => range_whole h.1.1) hu0 rfl hi0) (by assumption) ?_
  try simp only [Act.put, List.setIfInBounds_toArray, List.set_cons_zero, List.set_cons_succ]
  refine wpAnyH_take (i := 1) (oi := ⟨_, _, _, _, _, _⟩) (v := ?_) rfl (by kernel_rfl) (by kernel_rfl) (by kernel_rfl) (fun _ _ _ h => h) (Or.inl ⟨by rfl, ?_⟩) (by assumption) ?_
  rotate_left
  · intro W hSw
    try dsimp only at hSw
    go_simp
    try with_reducible rfl
  try simp only [Act.put, List.setIfInBounds_toArray, List.set_cons_zero, List.set_cons_succ]
  refine wpAnyH_take (i := 3) (oi := ⟨_, _, _, _, _, _⟩) (v := ?_) rfl (by kernel_rfl) (by kernel_rfl) (by kernel_rfl) (fun _ _ _ h => h) (Or.inl ⟨by rfl, ?_⟩) (by assumption) ?_
  rotate_left
  · intro W hSw
    try dsimp only at hSw
    go_simp
    try with_reducible rfl
  try simp only [Act.put, List.setIfInBounds_toArray, List.set_cons_zero, List.set_cons_succ]
  refine wpAnyH_ready (rs := [2]) (by kernel_rfl) (by simp) ?_
  refine AllReadyH.cons (o := ⟨_, _, _, _, _, _⟩) rfl (fun K hK => ?_) AllReadyH.nil
  go_simp
  refine (cb _).mono ?_
  rintro e w' ⟨rfl, hC⟩
  go_simp
  refine hK.out _ _ ⟨playsM_below hHeld.1 hC, (hC.cell (p := ⟨g, b, none⟩) hHeld.2.2).trans hHeld.2.1, Nat.lt_of_lt_of_le hHeld.2.2 hC.size⟩ (fun hHeld => ?_)
  clear hK K
  try simp only [Act.put, List.setIfInBounds_toArray, List.set_cons_zero, List.set_cons_succ]
  refine wpAnyH_take (i := 4) (oi := ⟨_, _, _, _, _, _⟩) (v := ?_) rfl (by kernel_rfl) (by kernel_rfl) (by kernel_rfl) (fun _ _ _ h => h) (Or.inl ⟨by rfl, ?_⟩) (by assumption) ?_
  rotate_left
  · intro W hSw
    try dsimp only at hSw
    go_simp
    try with_reducible rfl
  try simp only [Act.put, List.setIfInBounds_toArray, List.set_cons_zero, List.set_cons_succ]
  refine wpAnyH_take (i := 5) (oi := ⟨_, _, _, _, _, _⟩) (v := ?_) rfl (by kernel_rfl) (by kernel_rfl) (by kernel_rfl) (fun _ _ _ h => h) (Or.inl ⟨by rfl, ?_⟩) (by assumption) ?_
  rotate_left
  · intro W hSw
    try dsimp only at hSw
    go_simp
    try with_reducible rfl
  try simp only [Act.put, List.setIfInBounds_toArray, List.set_cons_zero, List.set_cons_succ]
  refine wpAnyH_take (i := 6) (oi := ⟨_, _, _, _, _, _⟩) (v := ?_) rfl (by kernel_rfl) (by kernel_rfl) (by kernel_rfl) (fun _ _ _ h => h) (Or.inl ⟨by rfl, ?_⟩) (by assumption) ?_
  rotate_left
  · intro W hSw
    try dsimp only at hSw
    go_simp
    try with_reducible rfl
  try simp only [Act.put, List.setIfInBounds_toArray, List.set_cons_zero, List.set_cons_succ]
  refine wpAnyH_take (i := 7) (oi := ⟨_, _, _, _, _, _⟩) (v := ?_) rfl (by kernel_rfl) (by kernel_rfl) (by kernel_rfl) (fun _ _ _ h => h) (Or.inl ⟨by rfl, ?_⟩) (by assumption) ?_
  rotate_left
  · intro W hSw
    try dsimp only at hSw
    go_simp
    try with_reducible rfl
  try simp only [Act.put, List.setIfInBounds_toArray, List.set_cons_zero, List.set_cons_succ]
  refine wpAnyH_take (i := 8) (oi := ⟨_, _, _, _, _, _⟩) (v := ?_) rfl (by kernel_rfl) (by kernel_rfl) (by kernel_rfl) (fun _ _ _ h => h) (Or.inl ⟨by rfl, ?_⟩) (by assumption) ?_
  rotate_left
  · intro W hSw
    try dsimp only at hSw
    go_simp
    try with_reducible rfl
  try simp only [Act.put, List.setIfInBounds_toArray, List.set_cons_zero, List.set_cons_succ]
  refine wpAnyH_take (i := 9) (oi := ⟨_, _, _, _, _, _⟩) (v := ?_) rfl (by kernel_rfl) (by kernel_rfl) (by kernel_rfl) (fun _ _ _ h => h) (Or.inl ⟨by rfl, ?_⟩) (by assumption) ?_
  rotate_left
  · intro W hSw
    try dsimp only at hSw
    go_simp
    try with_reducible rfl
  try simp only [Act.put, List.setIfInBounds_toArray, List.set_cons_zero, List.set_cons_succ]
  refine wpAnyH_take (i := 10) (oi := ⟨_, _, _, _, _, _⟩) (v := ?_) rfl (by kernel_rfl) (by kernel_rfl) (by kernel_rfl) (fun _ _ _ h => h) (Or.inl ⟨by rfl, ?_⟩) (by assumption) ?_
  rotate_left
  · intro W hSw
    try dsimp only at hSw
    go_simp
    try with_reducible rfl
  try simp only [Act.put, List.setIfInBounds_toArray, List.set_cons_zero, List.set_cons_succ]
  refine wpAnyH_take (i := 11) (oi := ⟨_, _, _, _, _, _⟩) (v := ?_) rfl (by kernel_rfl) (by kernel_rfl) (by kernel_rfl) (fun _ _ _ h => h) (Or.inl ⟨by rfl, ?_⟩) (by assumption) ?_
  rotate_left
  · intro W hSw
    try dsimp only at hSw
    go_simp
    try with_reducible rfl
  try simp only [Act.put, List.setIfInBounds_toArray, List.set_cons_zero, List.set_cons_succ]
  refine wpAnyH_take (i := 12) (oi := ⟨_, _, _, _, _, _⟩) (v := ?_) rfl (by kernel_rfl) (by kernel_rfl) (by kernel_rfl) (fun _ _ _ h => h) (Or.inl ⟨by rfl, ?_⟩) (by assumption) ?_
  rotate_left
  · intro W hSw
    try dsimp only at hSw
    go_simp
    try with_reducible rfl
  try simp only [Act.put, List.setIfInBounds_toArray, List.set_cons_zero, List.set_cons_succ]
  refine wpAnyH_take (i := 13) (oi := ⟨_, _, _, _, _, _⟩) (v := _) rfl (by kernel_rfl) (by kernel_rfl) (by kernel_rfl) (fun _ _ _ h => h) (yieldsIf_load_mid (by rfl) _ _ rfl _ _ rfl _ _ (fun _ h => range_whole h.1.1) hu0 rfl hi0) (by assumption) ?_
  try simp only [Act.put, List.setIfInBounds_toArray, List.set_cons_zero, List.set_cons_succ]
  refine wpAnyH_take (i := 14) (oi := ⟨_, _, _, _, _, _⟩) (v := ?_) rfl (by kernel_rfl) (by kernel_rfl) (by kernel_rfl) (fun _ _ _ h => h) (Or.inl ⟨by rfl, ?_⟩) (by assumption) ?_
  rotate_left
  · intro W hSw
    try dsimp only at hSw
    go_simp
    try with_reducible rfl
  try simp only [Act.put, List.setIfInBounds_toArray, List.set_cons_zero, List.set_cons_succ]
  refine wpAnyH_take (i := 16) (oi := ⟨_, _, _, _, _, _⟩) (v := ?_) rfl (by kernel_rfl) (by kernel_rfl) (by kernel_rfl) (fun _ _ _ h => h) (Or.inl ⟨by rfl, ?_⟩) (by assumption) ?_
  rotate_left
  · intro W hSw
    try dsimp only at hSw
    go_simp
    try with_reducible rfl
  try simp only [Act.put, List.setIfInBounds_toArray, List.set_cons_zero, List.set_cons_succ]
  refine wpAnyH_take (i := 17) (oi := ⟨_, _, _, _, _, _⟩) (v := ?_) rfl (by kernel_rfl) (by kernel_rfl) (by kernel_rfl) (fun _ _ _ h => h) (Or.inl ⟨by rfl, ?_⟩) (by assumption) ?_
  rotate_left
  · intro W hSw
    try dsimp only at hSw
    go_simp
    try with_reducible rfl
  try simp only [Act.put, List.setIfInBounds_toArray, List.set_cons_zero, List.set_cons_succ]
  refine wpAnyH_take (i := 18) (oi := ⟨_, _, _, _, _, _⟩) (v := ?_) rfl (by kernel_rfl) (by kernel_rfl) (by kernel_rfl) (fun _ _ _ h => h) (Or.inl ⟨by rfl, ?_⟩) (by assumption) ?_
  rotate_left
  · intro W hSw
    try dsimp only at hSw
    go_simp
    try with_reducible rfl
  try simp only [Act.put, List.setIfInBounds_toArray, List.set_cons_zero, List.set_cons_succ]
  refine wpAnyH_ready (rs := [15]) (by kernel_rfl) (by simp) ?_
  refine AllReadyH.cons (o := ⟨_, _, _, _, _, _⟩) rfl (fun K hK => ?_) AllReadyH.nil
  go_simp
  refine (cm _).mono ?_
  rintro e w' ⟨rfl, hC⟩
  go_simp
  refine hK.out _ _ ⟨playsM_below hHeld.1 hC, (hC.cell (p := ⟨g, b, none⟩) hHeld.2.2).trans hHeld.2.1, Nat.lt_of_lt_of_le hHeld.2.2 hC.size⟩ (fun hHeld => ?_)
  clear hK K
  try simp only [Act.put, List.setIfInBounds_toArray, List.set_cons_zero, List.set_cons_succ]
  refine wpAnyH_take (i := 19) (oi := ⟨_, _, _, _, _, _⟩) (v := ?_) rfl (by kernel_rfl) (by kernel_rfl) (by kernel_rfl) (fun _ _ _ h => h) (Or.inl ⟨by rfl, ?_⟩) (by assumption) ?_
  rotate_left
  · intro W hSw
    try dsimp only at hSw
    go_simp
    try with_reducible rfl
  try simp only [Act.put, List.setIfInBounds_toArray, List.set_cons_zero, List.set_cons_succ]
  refine wpAnyH_take (i := 20) (oi := ⟨_, _, _, _, _, _⟩) (v := ?_) rfl (by kernel_rfl) (by kernel_rfl) (by kernel_rfl) (fun _ _ _ h => h) (Or.inl ⟨by rfl, ?_⟩) (by assumption) ?_
  rotate_left
  · intro W hSw
    try dsimp only at hSw
    go_simp
    try with_reducible rfl
  try simp only [Act.put, List.setIfInBounds_toArray, List.set_cons_zero, List.set_cons_succ]
  refine wpAnyH_take (i := 21) (oi := ⟨_, _, _, _, _, _⟩) (v := ?_) rfl (by kernel_rfl) (by kernel_rfl) (by kernel_rfl) (fun _ _ _ h => h) (Or.inl ⟨by rfl, ?_⟩) (by assumption) ?_
  rotate_left
  · intro W hSw
    try dsimp only at hSw
    go_simp
    try with_reducible rfl
  try simp only [Act.put, List.setIfInBounds_toArray, List.set_cons_zero, List.set_cons_succ]
  refine wpAnyH_take (i := 22) (oi := ⟨_, _, _, _, _, _⟩) (v := _) rfl (by kernel_rfl) (by kernel_rfl) (by kernel_rfl) (fun _ _ _ h => h) (yieldsIf_load_mid (by rfl) _ _ rfl _ _ rfl _ _ (fun _ h => range_whole h.1.1) hu0 rfl hi0) (by assumption) ?_
  try simp only [Act.put, List.setIfInBounds_toArray, List.set_cons_zero, List.set_cons_succ]
  refine wpAnyH_take (i := 23) (oi := ⟨_, _, _, _, _, _⟩) (v := ?_) rfl (by kernel_rfl) (by kernel_rfl) (by kernel_rfl) (fun _ _ _ h => h) (Or.inl ⟨by rfl, ?_⟩) (by assumption) ?_
  rotate_left
  · intro W hSw
    try dsimp only at hSw
    go_simp
    try with_reducible rfl
  try simp only [Act.put, List.setIfInBounds_toArray, List.set_cons_zero, List.set_cons_succ]
  refine wpAnyH_take (i := 24) (oi := ⟨_, _, _, _, _, _⟩) (v := _) rfl (by kernel_rfl) (by kernel_rfl) (by kernel_rfl) (fun _ _ _ h => h) (yieldsIf_load_mid (by rfl) _ _ rfl _ _ rfl _ _ (fun _ h => range_whole h.1.2.1) hu4 rfl hi4) (by assumption) ?_
  try simp only [Act.put, List.setIfInBounds_toArray, List.set_cons_zero, List.set_cons_succ]
  refine wpAnyH_take (i := 25) (oi := ⟨_, _, _, _, _, _⟩) (v := _) rfl (by kernel_rfl) (by kernel_rfl) (by kernel_rfl) (fun _ _ _ h => h) (yieldsIf_load_mid (by rfl) _ _ rfl _ _ rfl _ _ (fun _ h => range_whole h.1.2.2.1) hu4 rfl hi5) (by assumption) ?_
  try simp only [Act.put, List.setIfInBounds_toArray, List.set_cons_zero, List.set_cons_succ]
  refine wpAnyH_take (i := 27) (oi := ⟨_, _, _, _, _, _⟩) (v := ?_) rfl (by kernel_rfl) (by kernel_rfl) (by kernel_rfl) (fun _ _ _ h => h) (Or.inl ⟨by rfl, ?_⟩) (by assumption) ?_
  rotate_left
  · intro W hSw
    try dsimp only at hSw
    go_simp
    try with_reducible rfl
  try simp only [Act.put, List.setIfInBounds_toArray, List.set_cons_zero, List.set_cons_succ]
  refine wpAnyH_take (i := 28) (oi := ⟨_, _, _, _, _, _⟩) (v := ?_) rfl (by kernel_rfl) (by kernel_rfl) (by kernel_rfl) (fun _ _ _ h => h) (Or.inl ⟨by rfl, ?_⟩) (by assumption) ?_
  rotate_left
  · intro W hSw
    try dsimp only at hSw
    go_simp
    try with_reducible rfl
  try simp only [Act.put, List.setIfInBounds_toArray, List.set_cons_zero, List.set_cons_succ]
  refine wpAnyH_ready (rs := [26]) (by kernel_rfl) (by simp) ?_
  refine AllReadyH.cons (o := ⟨_, _, _, _, _, _⟩) rfl (fun K hK => ?_) AllReadyH.nil
  go_simp
  refine (cy _).mono ?_
  rintro e w' ⟨rfl, hC⟩
  go_simp
  refine hK.out _ _ ⟨playsM_below hHeld.1 hC, (hC.cell (p := ⟨g, b, none⟩) hHeld.2.2).trans hHeld.2.1, Nat.lt_of_lt_of_le hHeld.2.2 hC.size⟩ (fun hHeld => ?_)
  clear hK K
  try simp only [Act.put, List.setIfInBounds_toArray, List.set_cons_zero, List.set_cons_succ]
  refine wpAnyH_take (i := 29) (oi := ⟨_, _, _, _, _, _⟩) (v := ?_) rfl (by kernel_rfl) (by kernel_rfl) (by kernel_rfl) (fun _ _ _ h => h) (Or.inl ⟨by rfl, ?_⟩) (by assumption) ?_
  rotate_left
  · intro W hSw
    try dsimp only at hSw
    go_simp
    try with_reducible rfl
  try simp only [Act.put, List.setIfInBounds_toArray, List.set_cons_zero, List.set_cons_succ]
  refine wpAnyH_take (i := 30) (oi := ⟨_, _, _, _, _, _⟩) (v := undef) rfl (by kernel_rfl) (by kernel_rfl) (by kernel_rfl) (fun _ _ _ h => h) (Or.inr ⟨by rfl, rfl⟩) (by assumption) ?_
  try simp only [Act.put, List.setIfInBounds_toArray, List.set_cons_zero, List.set_cons_succ]
  refine wpAnyH_take (i := 31) (oi := ⟨_, _, _, _, _, _⟩) (v := undef) rfl (by kernel_rfl) (by kernel_rfl) (by kernel_rfl) (fun _ _ _ h => h) (Or.inr ⟨by rfl, rfl⟩) (by assumption) ?_
  try simp only [Act.put, List.setIfInBounds_toArray, List.set_cons_zero, List.set_cons_succ]
  refine wpAnyH_take (i := 32) (oi := ⟨_, _, _, _, _, _⟩) (v := undef) rfl (by kernel_rfl) (by kernel_rfl) (by kernel_rfl) (fun _ _ _ h => h) (Or.inr ⟨by rfl, rfl⟩) (by assumption) ?_
  try simp only [Act.put, List.setIfInBounds_toArray, List.set_cons_zero, List.set_cons_succ]
  refine wpAnyH_take (i := 33) (oi := ⟨_, _, _, _, _, _⟩) (v := undef) rfl (by kernel_rfl) (by kernel_rfl) (by kernel_rfl) (fun _ _ _ h => h) (Or.inr ⟨by rfl, rfl⟩) (by assumption) ?_
  try simp only [Act.put, List.setIfInBounds_toArray, List.set_cons_zero, List.set_cons_succ]
  refine wpAnyH_take (i := 34) (oi := ⟨_, _, _, _, _, _⟩) (v := undef) rfl (by kernel_rfl) (by kernel_rfl) (by kernel_rfl) (fun _ _ _ h => h) (Or.inr ⟨by rfl, rfl⟩) (by assumption) ?_
  try simp only [Act.put, List.setIfInBounds_toArray, List.set_cons_zero, List.set_cons_succ]
  refine wpAnyH_take (i := 35) (oi := ⟨_, _, _, _, _, _⟩) (v := undef) rfl (by kernel_rfl) (by kernel_rfl) (by kernel_rfl) (fun _ _ _ h => h) (Or.inr ⟨by rfl, rfl⟩) (by assumption) ?_
  try simp only [Act.put, List.setIfInBounds_toArray, List.set_cons_zero, List.set_cons_succ]
  refine wpAnyH_take (i := 36) (oi := ⟨_, _, _, _, _, _⟩) (v := undef) rfl (by kernel_rfl) (by kernel_rfl) (by kernel_rfl) (fun _ _ _ h => h) (Or.inr ⟨by rfl, rfl⟩) (by assumption) ?_
  try simp only [Act.put, List.setIfInBounds_toArray, List.set_cons_zero, List.set_cons_succ]
  refine wpAnyH_take (i := 37) (oi := ⟨_, _, _, _, _, _⟩) (v := ?_) rfl (by kernel_rfl) (by kernel_rfl) (by kernel_rfl) (fun _ _ _ h => h) (Or.inl ⟨by rfl, ?_⟩) (by assumption) ?_
  rotate_left
  · intro W hSw
    try dsimp only at hSw
    go_simp
    try with_reducible rfl
  try simp only [Act.put, List.setIfInBounds_toArray, List.set_cons_zero, List.set_cons_succ]
  refine wpAnyH_take (i := 38) (oi := ⟨_, _, _, _, _, _⟩) (v := ?_) rfl (by kernel_rfl) (by kernel_rfl) (by kernel_rfl) (fun _ _ _ h => h) (Or.inl ⟨by rfl, ?_⟩) (by assumption) ?_
  rotate_left
  · intro W hSw
    try dsimp only at hSw
    go_simp
    try with_reducible rfl
  try simp only [Act.put, List.setIfInBounds_toArray, List.set_cons_zero, List.set_cons_succ]
  refine wpAnyH_take (i := 39) (oi := ⟨_, _, _, _, _, _⟩) (v := ?_) rfl (by kernel_rfl) (by kernel_rfl) (by kernel_rfl) (fun _ _ _ h => h) (Or.inl ⟨by rfl, ?_⟩) (by assumption) ?_
  rotate_left
  · intro W hSw
    try dsimp only at hSw
    go_simp
    try with_reducible rfl
  try simp only [Act.put, List.setIfInBounds_toArray, List.set_cons_zero, List.set_cons_succ]
  refine wpAnyH_take (i := 40) (oi := ⟨_, _, _, _, _, _⟩) (v := ?_) rfl (by kernel_rfl) (by kernel_rfl) (by kernel_rfl) (fun _ _ _ h => h) (Or.inl ⟨by rfl, ?_⟩) (by assumption) ?_
  rotate_left
  · intro W hSw
    try dsimp only at hSw
    go_simp
    try with_reducible rfl
  try simp only [Act.put, List.setIfInBounds_toArray, List.set_cons_zero, List.set_cons_succ]
  refine wpAnyH_done (by kernel_rfl) ?_ _
  have hE := hHeld.1.2.2.2
  clear hHeld
  go_wp2_with fail
  go_ret
  exact ⟨rfl, hE⟩

set_option maxRecDepth 100000 in
set_option maxHeartbeats 8000000 in
theorem mplays_in_b (a0 : List Int) (b : Nat) (a2 a3 : List Int) (l0 : a0.length = 8) (l2 : a2.length = 4) (i2 : ∀ z ∈ a2, -9223372036854775808 ≤ z ∧ z ≤ 9223372036854775807) (l3 : a3.length = 4) (i3 : ∀ z ∈ a3, -9223372036854775808 ≤ z ∧ z ≤ 9223372036854775807) (hg : okTo a2 4 = true) (hg2 : okTo a3 4 = false) (hr : rightB a0 = true) (hb : b < 8) (w : World) : Calls Try.prog 14 #[.agg (ints a0), .int .i64 b, .agg (ints a2), .agg (ints a3)] w (LawTrue w) := by
  have b0 := blk_alloc (blk_alloc (blk_new w 36 (ints a0)) (.cells (ints a2) 28)) (.cells (ints a3) 28)
  have b1 := blk_alloc (blk_new (w.alloc (.cells (ints a0) 36)) 28 (ints a2)) (.cells (ints a3) 28)
  have b2 := blk_new ((w.alloc (.cells (ints a0) 36)).alloc (.cells (ints a2) 28)) 28 (ints a3)
  rw [show (w.alloc (.cells (ints a0) 36)).heap.size = w.heap.size + 1 by simp] at b1
  rw [show ((w.alloc (.cells (ints a0) 36)).alloc (.cells (ints a2) 28)).heap.size = w.heap.size + 2 by simp] at b2
  have hA : Below w.heap.size w (((w.alloc (.cells (ints a0) 36)).alloc (.cells (ints a2) 28)).alloc (.cells (ints a3) 28)) := (((Below.refl _ w).alloc (Nat.le_refl _) _).alloc (by simp) _).alloc (by simp; omega) _
  have P0 := Lib.hid (show PlaysM w a0 a2 a3 (((w.alloc (.cells (ints a0) 36)).alloc (.cells (ints a2) 28)).alloc (.cells (ints a3) 28)) from ⟨b0, b1, b2, hA⟩)
  clear b0 b1 b2 hA
  have cf := fun W => far_calls a2 a3 W l2 l3 i2 i3
  have gy := fun W => refGreat_calls a2 W l2
  have gz := fun W => refGreat_calls a3 W l3
  have hh : heldTo a2 a3 4 = false := by rw [heldTo_ok, hg, hg2]; rfl
  rw [hg] at gy
  rw [hg2] at gz
  rw [farL_great hh] at cf
  have crr := fun W => refRight_calls a0 W l0
  rw [hr] at crr
  have cb := fun W => budget_calls a0 b W l0 hr hb
  have cm := fun W => moves_calls a0 b W l0 hr hb
  have cy := fun W => may_calls a0 b a2 a3 W l0 hr hb l2 l3 i2 i3
  have crb := fun W => refBudget_calls a0 b W l0 hr hb
  have cal := fun W => all_calls a0 W l0 hr
  have hmv : movesL a0 b = budL a0 b / 2 ^ (a0.getD b 0).toNat := rfl
  have hlb := budsL_len a0
  have hgb := budsL_get a0 hb
  have hbn := budTo_nonneg a0 b 8
  rw [show budTo a0 b 8 = budL a0 b from rfl] at hbn
  have hbl := budL_le (right_le hr) b
  have gk := right_get hr b
  rw [mayL_great hh] at cy
  have hbz : (b : Int) < 8 := by omega
  have hbz7 : (b : Int) ≤ 7 := by omega
  have hb0 : 0 ≤ (b : Int) := by omega
  obtain ⟨n, hn⟩ : ∃ n : Nat, a0.getD b 0 = n := ⟨(a0.getD b 0).toNat, by omega⟩
  have hn15 : n ≤ 15 := by omega
  have HN := Lib.hid hn
  rw [hn, Int.toNat_natCast] at hmv
  have cg := fun W => refGain_calls n W hn15
  have hp := pow_le15 hn15
  clear hn gk hr hg i2 i3 hh hg2
  generalize (2 : Int) ^ n = p at *
  generalize budL a0 b = bud at *
  generalize movesL a0 b = mv at *
  generalize budsL a0 = bs at *
  have htd : bud.tdiv p = mv := by rw [Int.tdiv_eq_ediv_of_nonneg hbn, hmv]
  have hmv0 : 0 ≤ mv := by rw [hmv]; exact Int.ediv_nonneg hbn (by omega)
  have hmv1 : mv ≤ 131072 := by rw [hmv]; exact Int.le_trans (Int.ediv_le_self _ hbn) hbl
  have hwm : IntKind.i64.wrap mv = mv := IntWalk.i64_in _ ⟨by omega, by omega⟩
  have hp0 : (p == 0) = false := by simp; omega
  have hpne : p ≠ 0 := by omega
  have HTD := Lib.hid htd
  have HWM := Lib.hid hwm
  have HGB := Lib.hid hgb
  clear htd hwm hmv hgb
  go_enter Try.func14, Try.ntmps14
  go_wp2_with fail
  refine (awake17_calls _).mono ?_
  rintro e w1 ⟨rfl, hC⟩
  have P1 := Lib.hid (playsM_below P0.out hC)
  clear hC P0
  go_wp2_with (first | (refine wpList_load_row rfl 28 _ rfl (w.heap.size + 1) rfl 28 (ints a2) (0, 0) _ P1.out.2.1 Try.underlying28 rfl (by rw [ints_size, l2]; kernel_rfl) ?_) | (refine wpList_load_row rfl 28 _ rfl (w.heap.size + 2) rfl 28 (ints a3) (0, 0) _ P1.out.2.2.1 Try.underlying28 rfl (by rw [ints_size, l3]; kernel_rfl) ?_))
  refine (cf _).mono ?_
  rintro e w2 ⟨rfl, hC⟩
  have P2 := Lib.hid (playsM_below P1.out hC)
  clear hC P1
  go_wp2_with (first | (refine wpList_load_row rfl 28 _ rfl (w.heap.size + 1) rfl 28 (ints a2) (0, 0) _ P2.out.2.1 Try.underlying28 rfl (by rw [ints_size, l2]; kernel_rfl) ?_))
  refine (gy _).mono ?_
  rintro e w3 ⟨rfl, hC⟩
  have P3 := Lib.hid (playsM_below P2.out hC)
  clear hC P2
  go_wp2_with (first | (refine wpList_load_wanted (by rfl) 28 _ rfl (w.heap.size + 2) rfl 28 a3 _ P3.out.2.2.1 Try.underlying28 rfl (by rw [l3]; kernel_rfl) ?_))
  refine (gz _).mono ?_
  rintro e w4 ⟨rfl, hC⟩
  have P4 := Lib.hid (playsM_below P3.out hC)
  clear hC P3
  go_wp2_with (first | (refine wpList_load_row rfl 36 _ rfl w.heap.size rfl 36 (ints a0) (0, 0) _ P4.out.1 Try.underlying36 rfl (by rw [ints_size, l0]; kernel_rfl) ?_))
  refine (crr _).mono ?_
  rintro e w5 ⟨rfl, hC⟩
  have P5 := Lib.hid (playsM_below P4.out hC)
  clear hC P4
  go_wp2_with (first | (refine wpList_load_row rfl 36 _ rfl w.heap.size rfl 36 (ints a0) (0, 0) _ P5.out.1 Try.underlying36 rfl (by rw [ints_size, l0]; kernel_rfl) ?_))
  refine (crb _).mono ?_
  rintro e w6 ⟨rfl, hC⟩
  have P6 := Lib.hid (playsM_below P5.out hC)
  clear hC P5
  have c0 := blk_int P6.out.1 (i := b) (by omega)
  rw [HN.out] at c0
  go_wp2_with fail
  refine (cg _).mono ?_
  rintro e w' ⟨rfl, rfl⟩
  clear c0
  go_wp2_with (first | (refine wpList_load_row rfl 36 _ rfl w.heap.size rfl 36 (ints a0) (0, 0) _ P6.out.1 Try.underlying36 rfl (by rw [ints_size, l0]; kernel_rfl) ?_))
  refine (cal _).mono ?_
  rintro e w7 ⟨rfl, hC⟩
  have P7 := Lib.hid (playsM_below P6.out hC)
  clear hC P6
  have nn := blk_new w7 37 #[Value.int .i64 0, Value.int .i64 0, Value.int .i64 0, Value.int .i64 0, Value.int .i64 0, Value.int .i64 0, Value.int .i64 0, Value.int .i64 0]
  go_wp2_with (first | (refine wpList_store_blk rfl 37 _ _ rfl w7.heap.size 37 _ (ints bs) rfl rfl nn (by rw [ints_size, hlb]; rfl) (by rw [ints_size, hlb]; kernel_rfl) (ints_one _) ?_; intro wz nz hgz))
  have PZ : PlaysM w a0 a2 a3 wz := by
    obtain ⟨p1, p2, p3, p4⟩ := P7.out
    have q1 := blk_lt p1
    have q2 := blk_lt p2
    have q3 := blk_lt p3
    have hs := p4.size
    exact ⟨blk_grown (blk_alloc p1 (.cells #[Value.int .i64 0, Value.int .i64 0, Value.int .i64 0, Value.int .i64 0, Value.int .i64 0, Value.int .i64 0, Value.int .i64 0, Value.int .i64 0] 37)) hgz (by simp; omega), blk_grown (blk_alloc p2 (.cells #[Value.int .i64 0, Value.int .i64 0, Value.int .i64 0, Value.int .i64 0, Value.int .i64 0, Value.int .i64 0, Value.int .i64 0, Value.int .i64 0] 37)) hgz (by simp; omega), blk_grown (blk_alloc p3 (.cells #[Value.int .i64 0, Value.int .i64 0, Value.int .i64 0, Value.int .i64 0, Value.int .i64 0, Value.int .i64 0, Value.int .i64 0, Value.int .i64 0] 37)) hgz (by simp; omega), below_grown (p4.alloc hs (.cells #[Value.int .i64 0, Value.int .i64 0, Value.int .i64 0, Value.int .i64 0, Value.int .i64 0, Value.int .i64 0, Value.int .i64 0, Value.int .i64 0] 37)) hgz (by simp; omega) (by omega)⟩
  have cz : wz.cell? ⟨w7.heap.size, b, none⟩ = some (.int .i64 bud) := by rw [← HGB.out]; exact blk_int nz (by omega)
  have hltz := blk_lt nz
  clear nn hgz nz P7
  generalize w7.heap.size = g at *
  have hu0 := Try.underlying36
  have hu4 := Try.underlying28
  have hi0 : (Try.prog.info? 36).map (·.size) = some (a0.map (Value.int .i64)).length := by rw [List.length_map, l0]; kernel_rfl
  have hi4 : (Try.prog.info? 28).map (·.size) = some (a2.map (Value.int .i64)).length := by rw [List.length_map, l2]; kernel_rfl
  have hi5 : (Try.prog.info? 28).map (·.size) = some (a3.map (Value.int .i64)).length := by rw [List.length_map, l3]; kernel_rfl
  have htd := HTD.out
  have hwm := HWM.out
  have HZ := Lib.hid (show PlaysM w a0 a2 a3 wz ∧ wz.cell? ⟨g, b, none⟩ = some (.int .i64 bud) ∧ g < wz.heap.size from ⟨PZ, cz, hltz⟩)
  clear PZ cz hltz
  simp only [ints] at cb cm cy
  go_wp2_with fail
  refine wp_region_held_drew (S := (fun W => PlaysM w a0 a2 a3 W ∧ W.cell? ⟨g, b, none⟩ = some (.int .i64 bud) ∧ g < W.heap.size)) (by kernel_rfl) ⟨playsM_drew HZ.out.1, HZ.out.2.1, HZ.out.2.2⟩ (fun hHeld => ?_)
  refine wpAnyH_take (i := 0) (oi := ⟨_, _, _, _, _, _⟩) (v := _) rfl (by kernel_rfl) (by kernel_rfl) (by kernel_rfl) (fun _ _ _ h => h) (yieldsIf_load_mid (by rfl) _ _ rfl _ _ rfl _ _ (fun _ h => range_whole h.1.1) hu0 rfl hi0) (by assumption) ?_
  try simp only [Act.put, List.setIfInBounds_toArray, List.set_cons_zero, List.set_cons_succ]
  refine wpAnyH_take (i := 1) (oi := ⟨_, _, _, _, _, _⟩) (v := ?_) rfl (by kernel_rfl) (by kernel_rfl) (by kernel_rfl) (fun _ _ _ h => h) (Or.inl ⟨by rfl, ?_⟩) (by assumption) ?_
  rotate_left
  · intro W hSw
    try dsimp only at hSw
    go_simp
    try with_reducible rfl
  try simp only [Act.put, List.setIfInBounds_toArray, List.set_cons_zero, List.set_cons_succ]
  refine wpAnyH_take (i := 3) (oi := ⟨_, _, _, _, _, _⟩) (v := ?_) rfl (by kernel_rfl) (by kernel_rfl) (by kernel_rfl) (fun _ _ _ h => h) (Or.inl ⟨by rfl, ?_⟩) (by assumption) ?_
  rotate_left
  · intro W hSw
    try dsimp only at hSw
    go_simp
    try with_reducible rfl
  try simp only [Act.put, List.setIfInBounds_toArray, List.set_cons_zero, List.set_cons_succ]
  refine wpAnyH_ready (rs := [2]) (by kernel_rfl) (by simp) ?_
  refine AllReadyH.cons (o := ⟨_, _, _, _, _, _⟩) rfl (fun K hK => ?_) AllReadyH.nil
  go_simp
  refine (cb _).mono ?_
  rintro e w' ⟨rfl, hC⟩
  go_simp
  refine hK.out _ _ ⟨playsM_below hHeld.1 hC, (hC.cell (p := ⟨g, b, none⟩) hHeld.2.2).trans hHeld.2.1, Nat.lt_of_lt_of_le hHeld.2.2 hC.size⟩ (fun hHeld => ?_)
  clear hK K
  try simp only [Act.put, List.setIfInBounds_toArray, List.set_cons_zero, List.set_cons_succ]
  refine wpAnyH_take (i := 4) (oi := ⟨_, _, _, _, _, _⟩) (v := ?_) rfl (by kernel_rfl) (by kernel_rfl) (by kernel_rfl) (fun _ _ _ h => h) (Or.inl ⟨by rfl, ?_⟩) (by assumption) ?_
  rotate_left
  · intro W hSw
    try dsimp only at hSw
    go_simp
    try with_reducible rfl
  try simp only [Act.put, List.setIfInBounds_toArray, List.set_cons_zero, List.set_cons_succ]
  refine wpAnyH_take (i := 5) (oi := ⟨_, _, _, _, _, _⟩) (v := ?_) rfl (by kernel_rfl) (by kernel_rfl) (by kernel_rfl) (fun _ _ _ h => h) (Or.inl ⟨by rfl, ?_⟩) (by assumption) ?_
  rotate_left
  · intro W hSw
    try dsimp only at hSw
    go_simp
    try with_reducible rfl
  try simp only [Act.put, List.setIfInBounds_toArray, List.set_cons_zero, List.set_cons_succ]
  refine wpAnyH_take (i := 6) (oi := ⟨_, _, _, _, _, _⟩) (v := ?_) rfl (by kernel_rfl) (by kernel_rfl) (by kernel_rfl) (fun _ _ _ h => h) (Or.inl ⟨by rfl, ?_⟩) (by assumption) ?_
  rotate_left
  · intro W hSw
    try dsimp only at hSw
    go_simp
    try with_reducible rfl
  try simp only [Act.put, List.setIfInBounds_toArray, List.set_cons_zero, List.set_cons_succ]
  refine wpAnyH_take (i := 7) (oi := ⟨_, _, _, _, _, _⟩) (v := ?_) rfl (by kernel_rfl) (by kernel_rfl) (by kernel_rfl) (fun _ _ _ h => h) (Or.inl ⟨by rfl, ?_⟩) (by assumption) ?_
  rotate_left
  · intro W hSw
    try dsimp only at hSw
    go_simp
    try with_reducible rfl
  try simp only [Act.put, List.setIfInBounds_toArray, List.set_cons_zero, List.set_cons_succ]
  refine wpAnyH_take (i := 8) (oi := ⟨_, _, _, _, _, _⟩) (v := ?_) rfl (by kernel_rfl) (by kernel_rfl) (by kernel_rfl) (fun _ _ _ h => h) (Or.inl ⟨by rfl, ?_⟩) (by assumption) ?_
  rotate_left
  · intro W hSw
    try dsimp only at hSw
    go_simp
    try with_reducible rfl
  try simp only [Act.put, List.setIfInBounds_toArray, List.set_cons_zero, List.set_cons_succ]
  refine wpAnyH_take (i := 9) (oi := ⟨_, _, _, _, _, _⟩) (v := ?_) rfl (by kernel_rfl) (by kernel_rfl) (by kernel_rfl) (fun _ _ _ h => h) (Or.inl ⟨by rfl, ?_⟩) (by assumption) ?_
  rotate_left
  · intro W hSw
    try dsimp only at hSw
    go_simp
    try with_reducible rfl
  try simp only [Act.put, List.setIfInBounds_toArray, List.set_cons_zero, List.set_cons_succ]
  refine wpAnyH_take (i := 10) (oi := ⟨_, _, _, _, _, _⟩) (v := ?_) rfl (by kernel_rfl) (by kernel_rfl) (by kernel_rfl) (fun _ _ _ h => h) (Or.inl ⟨by rfl, ?_⟩) (by assumption) ?_
  rotate_left
  · intro W hSw
    try dsimp only at hSw
    go_simp
    try with_reducible rfl
  try simp only [Act.put, List.setIfInBounds_toArray, List.set_cons_zero, List.set_cons_succ]
  refine wpAnyH_take (i := 11) (oi := ⟨_, _, _, _, _, _⟩) (v := ?_) rfl (by kernel_rfl) (by kernel_rfl) (by kernel_rfl) (fun _ _ _ h => h) (Or.inl ⟨by rfl, ?_⟩) (by assumption) ?_
  rotate_left
  · intro W hSw
    try dsimp only at hSw
    go_simp
    try with_reducible rfl
  try simp only [Act.put, List.setIfInBounds_toArray, List.set_cons_zero, List.set_cons_succ]
  refine wpAnyH_take (i := 12) (oi := ⟨_, _, _, _, _, _⟩) (v := ?_) rfl (by kernel_rfl) (by kernel_rfl) (by kernel_rfl) (fun _ _ _ h => h) (Or.inl ⟨by rfl, ?_⟩) (by assumption) ?_
  rotate_left
  · intro W hSw
    try dsimp only at hSw
    go_simp
    try with_reducible rfl
  try simp only [Act.put, List.setIfInBounds_toArray, List.set_cons_zero, List.set_cons_succ]
  refine wpAnyH_take (i := 13) (oi := ⟨_, _, _, _, _, _⟩) (v := _) rfl (by kernel_rfl) (by kernel_rfl) (by kernel_rfl) (fun _ _ _ h => h) (yieldsIf_load_mid (by rfl) _ _ rfl _ _ rfl _ _ (fun _ h => range_whole h.1.1) hu0 rfl hi0) (by assumption) ?_
  try simp only [Act.put, List.setIfInBounds_toArray, List.set_cons_zero, List.set_cons_succ]
  refine wpAnyH_take (i := 14) (oi := ⟨_, _, _, _, _, _⟩) (v := ?_) rfl (by kernel_rfl) (by kernel_rfl) (by kernel_rfl) (fun _ _ _ h => h) (Or.inl ⟨by rfl, ?_⟩) (by assumption) ?_
  rotate_left
  · intro W hSw
    try dsimp only at hSw
    go_simp
    try with_reducible rfl
  try simp only [Act.put, List.setIfInBounds_toArray, List.set_cons_zero, List.set_cons_succ]
  refine wpAnyH_take (i := 16) (oi := ⟨_, _, _, _, _, _⟩) (v := ?_) rfl (by kernel_rfl) (by kernel_rfl) (by kernel_rfl) (fun _ _ _ h => h) (Or.inl ⟨by rfl, ?_⟩) (by assumption) ?_
  rotate_left
  · intro W hSw
    try dsimp only at hSw
    go_simp
    try with_reducible rfl
  try simp only [Act.put, List.setIfInBounds_toArray, List.set_cons_zero, List.set_cons_succ]
  refine wpAnyH_take (i := 17) (oi := ⟨_, _, _, _, _, _⟩) (v := ?_) rfl (by kernel_rfl) (by kernel_rfl) (by kernel_rfl) (fun _ _ _ h => h) (Or.inl ⟨by rfl, ?_⟩) (by assumption) ?_
  rotate_left
  · intro W hSw
    try dsimp only at hSw
    go_simp
    try with_reducible rfl
  try simp only [Act.put, List.setIfInBounds_toArray, List.set_cons_zero, List.set_cons_succ]
  refine wpAnyH_take (i := 18) (oi := ⟨_, _, _, _, _, _⟩) (v := ?_) rfl (by kernel_rfl) (by kernel_rfl) (by kernel_rfl) (fun _ _ _ h => h) (Or.inl ⟨by rfl, ?_⟩) (by assumption) ?_
  rotate_left
  · intro W hSw
    try dsimp only at hSw
    go_simp
    try with_reducible rfl
  try simp only [Act.put, List.setIfInBounds_toArray, List.set_cons_zero, List.set_cons_succ]
  refine wpAnyH_ready (rs := [15]) (by kernel_rfl) (by simp) ?_
  refine AllReadyH.cons (o := ⟨_, _, _, _, _, _⟩) rfl (fun K hK => ?_) AllReadyH.nil
  go_simp
  refine (cm _).mono ?_
  rintro e w' ⟨rfl, hC⟩
  go_simp
  refine hK.out _ _ ⟨playsM_below hHeld.1 hC, (hC.cell (p := ⟨g, b, none⟩) hHeld.2.2).trans hHeld.2.1, Nat.lt_of_lt_of_le hHeld.2.2 hC.size⟩ (fun hHeld => ?_)
  clear hK K
  try simp only [Act.put, List.setIfInBounds_toArray, List.set_cons_zero, List.set_cons_succ]
  refine wpAnyH_take (i := 19) (oi := ⟨_, _, _, _, _, _⟩) (v := ?_) rfl (by kernel_rfl) (by kernel_rfl) (by kernel_rfl) (fun _ _ _ h => h) (Or.inl ⟨by rfl, ?_⟩) (by assumption) ?_
  rotate_left
  · intro W hSw
    try dsimp only at hSw
    go_simp
    try with_reducible rfl
  try simp only [Act.put, List.setIfInBounds_toArray, List.set_cons_zero, List.set_cons_succ]
  refine wpAnyH_take (i := 20) (oi := ⟨_, _, _, _, _, _⟩) (v := ?_) rfl (by kernel_rfl) (by kernel_rfl) (by kernel_rfl) (fun _ _ _ h => h) (Or.inl ⟨by rfl, ?_⟩) (by assumption) ?_
  rotate_left
  · intro W hSw
    try dsimp only at hSw
    go_simp
    try with_reducible rfl
  try simp only [Act.put, List.setIfInBounds_toArray, List.set_cons_zero, List.set_cons_succ]
  refine wpAnyH_take (i := 21) (oi := ⟨_, _, _, _, _, _⟩) (v := ?_) rfl (by kernel_rfl) (by kernel_rfl) (by kernel_rfl) (fun _ _ _ h => h) (Or.inl ⟨by rfl, ?_⟩) (by assumption) ?_
  rotate_left
  · intro W hSw
    try dsimp only at hSw
    go_simp
    try with_reducible rfl
  try simp only [Act.put, List.setIfInBounds_toArray, List.set_cons_zero, List.set_cons_succ]
  refine wpAnyH_take (i := 22) (oi := ⟨_, _, _, _, _, _⟩) (v := _) rfl (by kernel_rfl) (by kernel_rfl) (by kernel_rfl) (fun _ _ _ h => h) (yieldsIf_load_mid (by rfl) _ _ rfl _ _ rfl _ _ (fun _ h => range_whole h.1.1) hu0 rfl hi0) (by assumption) ?_
  try simp only [Act.put, List.setIfInBounds_toArray, List.set_cons_zero, List.set_cons_succ]
  refine wpAnyH_take (i := 23) (oi := ⟨_, _, _, _, _, _⟩) (v := ?_) rfl (by kernel_rfl) (by kernel_rfl) (by kernel_rfl) (fun _ _ _ h => h) (Or.inl ⟨by rfl, ?_⟩) (by assumption) ?_
  rotate_left
  · intro W hSw
    try dsimp only at hSw
    go_simp
    try with_reducible rfl
  try simp only [Act.put, List.setIfInBounds_toArray, List.set_cons_zero, List.set_cons_succ]
  refine wpAnyH_take (i := 24) (oi := ⟨_, _, _, _, _, _⟩) (v := _) rfl (by kernel_rfl) (by kernel_rfl) (by kernel_rfl) (fun _ _ _ h => h) (yieldsIf_load_mid (by rfl) _ _ rfl _ _ rfl _ _ (fun _ h => range_whole h.1.2.1) hu4 rfl hi4) (by assumption) ?_
  try simp only [Act.put, List.setIfInBounds_toArray, List.set_cons_zero, List.set_cons_succ]
  refine wpAnyH_take (i := 25) (oi := ⟨_, _, _, _, _, _⟩) (v := _) rfl (by kernel_rfl) (by kernel_rfl) (by kernel_rfl) (fun _ _ _ h => h) (yieldsIf_load_mid (by rfl) _ _ rfl _ _ rfl _ _ (fun _ h => range_whole h.1.2.2.1) hu4 rfl hi5) (by assumption) ?_
  try simp only [Act.put, List.setIfInBounds_toArray, List.set_cons_zero, List.set_cons_succ]
  refine wpAnyH_take (i := 27) (oi := ⟨_, _, _, _, _, _⟩) (v := ?_) rfl (by kernel_rfl) (by kernel_rfl) (by kernel_rfl) (fun _ _ _ h => h) (Or.inl ⟨by rfl, ?_⟩) (by assumption) ?_
  rotate_left
  · intro W hSw
    try dsimp only at hSw
    go_simp
    try with_reducible rfl
  try simp only [Act.put, List.setIfInBounds_toArray, List.set_cons_zero, List.set_cons_succ]
  refine wpAnyH_take (i := 28) (oi := ⟨_, _, _, _, _, _⟩) (v := ?_) rfl (by kernel_rfl) (by kernel_rfl) (by kernel_rfl) (fun _ _ _ h => h) (Or.inl ⟨by rfl, ?_⟩) (by assumption) ?_
  rotate_left
  · intro W hSw
    try dsimp only at hSw
    go_simp
    try with_reducible rfl
  try simp only [Act.put, List.setIfInBounds_toArray, List.set_cons_zero, List.set_cons_succ]
  refine wpAnyH_ready (rs := [26]) (by kernel_rfl) (by simp) ?_
  refine AllReadyH.cons (o := ⟨_, _, _, _, _, _⟩) rfl (fun K hK => ?_) AllReadyH.nil
  go_simp
  refine (cy _).mono ?_
  rintro e w' ⟨rfl, hC⟩
  go_simp
  refine hK.out _ _ ⟨playsM_below hHeld.1 hC, (hC.cell (p := ⟨g, b, none⟩) hHeld.2.2).trans hHeld.2.1, Nat.lt_of_lt_of_le hHeld.2.2 hC.size⟩ (fun hHeld => ?_)
  clear hK K
  try simp only [Act.put, List.setIfInBounds_toArray, List.set_cons_zero, List.set_cons_succ]
  refine wpAnyH_take (i := 29) (oi := ⟨_, _, _, _, _, _⟩) (v := ?_) rfl (by kernel_rfl) (by kernel_rfl) (by kernel_rfl) (fun _ _ _ h => h) (Or.inl ⟨by rfl, ?_⟩) (by assumption) ?_
  rotate_left
  · intro W hSw
    try dsimp only at hSw
    go_simp
    try with_reducible rfl
  try simp only [Act.put, List.setIfInBounds_toArray, List.set_cons_zero, List.set_cons_succ]
  refine wpAnyH_take (i := 30) (oi := ⟨_, _, _, _, _, _⟩) (v := undef) rfl (by kernel_rfl) (by kernel_rfl) (by kernel_rfl) (fun _ _ _ h => h) (Or.inr ⟨by rfl, rfl⟩) (by assumption) ?_
  try simp only [Act.put, List.setIfInBounds_toArray, List.set_cons_zero, List.set_cons_succ]
  refine wpAnyH_take (i := 31) (oi := ⟨_, _, _, _, _, _⟩) (v := undef) rfl (by kernel_rfl) (by kernel_rfl) (by kernel_rfl) (fun _ _ _ h => h) (Or.inr ⟨by rfl, rfl⟩) (by assumption) ?_
  try simp only [Act.put, List.setIfInBounds_toArray, List.set_cons_zero, List.set_cons_succ]
  refine wpAnyH_take (i := 32) (oi := ⟨_, _, _, _, _, _⟩) (v := undef) rfl (by kernel_rfl) (by kernel_rfl) (by kernel_rfl) (fun _ _ _ h => h) (Or.inr ⟨by rfl, rfl⟩) (by assumption) ?_
  try simp only [Act.put, List.setIfInBounds_toArray, List.set_cons_zero, List.set_cons_succ]
  refine wpAnyH_take (i := 33) (oi := ⟨_, _, _, _, _, _⟩) (v := undef) rfl (by kernel_rfl) (by kernel_rfl) (by kernel_rfl) (fun _ _ _ h => h) (Or.inr ⟨by rfl, rfl⟩) (by assumption) ?_
  try simp only [Act.put, List.setIfInBounds_toArray, List.set_cons_zero, List.set_cons_succ]
  refine wpAnyH_take (i := 34) (oi := ⟨_, _, _, _, _, _⟩) (v := undef) rfl (by kernel_rfl) (by kernel_rfl) (by kernel_rfl) (fun _ _ _ h => h) (Or.inr ⟨by rfl, rfl⟩) (by assumption) ?_
  try simp only [Act.put, List.setIfInBounds_toArray, List.set_cons_zero, List.set_cons_succ]
  refine wpAnyH_take (i := 35) (oi := ⟨_, _, _, _, _, _⟩) (v := undef) rfl (by kernel_rfl) (by kernel_rfl) (by kernel_rfl) (fun _ _ _ h => h) (Or.inr ⟨by rfl, rfl⟩) (by assumption) ?_
  try simp only [Act.put, List.setIfInBounds_toArray, List.set_cons_zero, List.set_cons_succ]
  refine wpAnyH_take (i := 36) (oi := ⟨_, _, _, _, _, _⟩) (v := undef) rfl (by kernel_rfl) (by kernel_rfl) (by kernel_rfl) (fun _ _ _ h => h) (Or.inr ⟨by rfl, rfl⟩) (by assumption) ?_
  try simp only [Act.put, List.setIfInBounds_toArray, List.set_cons_zero, List.set_cons_succ]
  refine wpAnyH_take (i := 37) (oi := ⟨_, _, _, _, _, _⟩) (v := ?_) rfl (by kernel_rfl) (by kernel_rfl) (by kernel_rfl) (fun _ _ _ h => h) (Or.inl ⟨by rfl, ?_⟩) (by assumption) ?_
  rotate_left
  · intro W hSw
    try dsimp only at hSw
    go_simp
    try with_reducible rfl
  try simp only [Act.put, List.setIfInBounds_toArray, List.set_cons_zero, List.set_cons_succ]
  refine wpAnyH_take (i := 38) (oi := ⟨_, _, _, _, _, _⟩) (v := ?_) rfl (by kernel_rfl) (by kernel_rfl) (by kernel_rfl) (fun _ _ _ h => h) (Or.inl ⟨by rfl, ?_⟩) (by assumption) ?_
  rotate_left
  · intro W hSw
    try dsimp only at hSw
    go_simp
    try with_reducible rfl
  try simp only [Act.put, List.setIfInBounds_toArray, List.set_cons_zero, List.set_cons_succ]
  refine wpAnyH_take (i := 39) (oi := ⟨_, _, _, _, _, _⟩) (v := ?_) rfl (by kernel_rfl) (by kernel_rfl) (by kernel_rfl) (fun _ _ _ h => h) (Or.inl ⟨by rfl, ?_⟩) (by assumption) ?_
  rotate_left
  · intro W hSw
    try dsimp only at hSw
    go_simp
    try with_reducible rfl
  try simp only [Act.put, List.setIfInBounds_toArray, List.set_cons_zero, List.set_cons_succ]
  refine wpAnyH_take (i := 40) (oi := ⟨_, _, _, _, _, _⟩) (v := ?_) rfl (by kernel_rfl) (by kernel_rfl) (by kernel_rfl) (fun _ _ _ h => h) (Or.inl ⟨by rfl, ?_⟩) (by assumption) ?_
  rotate_left
  · intro W hSw
    try dsimp only at hSw
    go_simp
    try with_reducible rfl
  try simp only [Act.put, List.setIfInBounds_toArray, List.set_cons_zero, List.set_cons_succ]
  refine wpAnyH_done (by kernel_rfl) ?_ _
  have hE := hHeld.1.2.2.2
  clear hHeld
  go_wp2_with fail
  go_ret
  exact ⟨rfl, hE⟩

set_option maxRecDepth 100000 in
set_option maxHeartbeats 8000000 in
theorem mplays_in_c (a0 : List Int) (b : Nat) (a2 a3 : List Int) (l0 : a0.length = 8) (l2 : a2.length = 4) (i2 : ∀ z ∈ a2, -9223372036854775808 ≤ z ∧ z ≤ 9223372036854775807) (l3 : a3.length = 4) (i3 : ∀ z ∈ a3, -9223372036854775808 ≤ z ∧ z ≤ 9223372036854775807) (hg : okTo a2 4 = true) (hg2 : okTo a3 4 = true) (hr : rightB a0 = true) (hb : b < 8) (w : World) : Calls Try.prog 14 #[.agg (ints a0), .int .i64 b, .agg (ints a2), .agg (ints a3)] w (LawTrue w) := by
  have b0 := blk_alloc (blk_alloc (blk_new w 36 (ints a0)) (.cells (ints a2) 28)) (.cells (ints a3) 28)
  have b1 := blk_alloc (blk_new (w.alloc (.cells (ints a0) 36)) 28 (ints a2)) (.cells (ints a3) 28)
  have b2 := blk_new ((w.alloc (.cells (ints a0) 36)).alloc (.cells (ints a2) 28)) 28 (ints a3)
  rw [show (w.alloc (.cells (ints a0) 36)).heap.size = w.heap.size + 1 by simp] at b1
  rw [show ((w.alloc (.cells (ints a0) 36)).alloc (.cells (ints a2) 28)).heap.size = w.heap.size + 2 by simp] at b2
  have hA : Below w.heap.size w (((w.alloc (.cells (ints a0) 36)).alloc (.cells (ints a2) 28)).alloc (.cells (ints a3) 28)) := (((Below.refl _ w).alloc (Nat.le_refl _) _).alloc (by simp) _).alloc (by simp; omega) _
  have P0 := Lib.hid (show PlaysM w a0 a2 a3 (((w.alloc (.cells (ints a0) 36)).alloc (.cells (ints a2) 28)).alloc (.cells (ints a3) 28)) from ⟨b0, b1, b2, hA⟩)
  clear b0 b1 b2 hA
  have cf := fun W => far_calls a2 a3 W l2 l3 i2 i3
  have gy := fun W => refGreat_calls a2 W l2
  have gz := fun W => refGreat_calls a3 W l3
  have hh : heldTo a2 a3 4 = true := by rw [heldTo_ok, hg, hg2]; rfl
  rw [hg] at gy
  rw [hg2] at gz
  have rf := fun W => refFar_calls a2 a3 W l2 l3 hh
  rw [← farL_held hh] at rf
  have hfb := farTo_bd hh
  rw [← farL_held hh] at hfb
  have crr := fun W => refRight_calls a0 W l0
  rw [hr] at crr
  have cb := fun W => budget_calls a0 b W l0 hr hb
  have cm := fun W => moves_calls a0 b W l0 hr hb
  have cy := fun W => may_calls a0 b a2 a3 W l0 hr hb l2 l3 i2 i3
  have crb := fun W => refBudget_calls a0 b W l0 hr hb
  have cal := fun W => all_calls a0 W l0 hr
  have hmv : movesL a0 b = budL a0 b / 2 ^ (a0.getD b 0).toNat := rfl
  have hlb := budsL_len a0
  have hgb := budsL_get a0 hb
  have hbn := budTo_nonneg a0 b 8
  rw [show budTo a0 b 8 = budL a0 b from rfl] at hbn
  have hbl := budL_le (right_le hr) b
  have gk := right_get hr b
  have hmg := mayL_gain a0 b hh
  have hbz : (b : Int) < 8 := by omega
  have hbz7 : (b : Int) ≤ 7 := by omega
  have hb0 : 0 ≤ (b : Int) := by omega
  obtain ⟨n, hn⟩ : ∃ n : Nat, a0.getD b 0 = n := ⟨(a0.getD b 0).toNat, by omega⟩
  have hn15 : n ≤ 15 := by omega
  have HN := Lib.hid hn
  rw [hn, Int.toNat_natCast] at hmv hmg
  have cg := fun W => refGain_calls n W hn15
  have hp := pow_le15 hn15
  clear hn gk hr hg i2 i3 hh hg2
  generalize (2 : Int) ^ n = p at *
  generalize budL a0 b = bud at *
  generalize movesL a0 b = mv at *
  generalize budsL a0 = bs at *
  generalize farL a2 a3 = f at *
  generalize mayL a0 b a2 a3 = m at *
  have hpf : 0 ≤ f * p := Int.mul_nonneg hfb.1 (by omega)
  have hpf2 : f * p ≤ 8388608 * 32768 := Int.mul_le_mul hfb.2 hp.1 (by omega) (by omega)
  have hw : IntKind.i64.wrap (f * p) = f * p := IntWalk.i64_in _ ⟨by omega, by omega⟩
  generalize hq : f * p = q at *
  have HQ := Lib.hid hq
  have HMG := Lib.hid hmg.symm
  have HWQ := Lib.hid hw
  clear hq hmg hw
  have htd : bud.tdiv p = mv := by rw [Int.tdiv_eq_ediv_of_nonneg hbn, hmv]
  have hmv0 : 0 ≤ mv := by rw [hmv]; exact Int.ediv_nonneg hbn (by omega)
  have hmv1 : mv ≤ 131072 := by rw [hmv]; exact Int.le_trans (Int.ediv_le_self _ hbn) hbl
  have hwm : IntKind.i64.wrap mv = mv := IntWalk.i64_in _ ⟨by omega, by omega⟩
  have hp0 : (p == 0) = false := by simp; omega
  have hpne : p ≠ 0 := by omega
  have HTD := Lib.hid htd
  have HWM := Lib.hid hwm
  have HGB := Lib.hid hgb
  clear htd hwm hmv hgb
  go_enter Try.func14, Try.ntmps14
  go_wp2_with fail
  refine (awake17_calls _).mono ?_
  rintro e w1 ⟨rfl, hC⟩
  have P1 := Lib.hid (playsM_below P0.out hC)
  clear hC P0
  go_wp2_with (first | (refine wpList_load_row rfl 28 _ rfl (w.heap.size + 1) rfl 28 (ints a2) (0, 0) _ P1.out.2.1 Try.underlying28 rfl (by rw [ints_size, l2]; kernel_rfl) ?_) | (refine wpList_load_row rfl 28 _ rfl (w.heap.size + 2) rfl 28 (ints a3) (0, 0) _ P1.out.2.2.1 Try.underlying28 rfl (by rw [ints_size, l3]; kernel_rfl) ?_))
  refine (cf _).mono ?_
  rintro e w2 ⟨rfl, hC⟩
  have P2 := Lib.hid (playsM_below P1.out hC)
  clear hC P1
  go_wp2_with (first | (refine wpList_load_row rfl 28 _ rfl (w.heap.size + 1) rfl 28 (ints a2) (0, 0) _ P2.out.2.1 Try.underlying28 rfl (by rw [ints_size, l2]; kernel_rfl) ?_))
  refine (gy _).mono ?_
  rintro e w3 ⟨rfl, hC⟩
  have P3 := Lib.hid (playsM_below P2.out hC)
  clear hC P2
  go_wp2_with (first | (refine wpList_load_wanted (by rfl) 28 _ rfl (w.heap.size + 2) rfl 28 a3 _ P3.out.2.2.1 Try.underlying28 rfl (by rw [l3]; kernel_rfl) ?_))
  refine (gz _).mono ?_
  rintro e w4 ⟨rfl, hC⟩
  have P4 := Lib.hid (playsM_below P3.out hC)
  clear hC P3
  go_wp2_with (first | (refine wpList_load_wanted (by rfl) 28 _ rfl (w.heap.size + 1) rfl 28 a2 _ P4.out.2.1 Try.underlying28 rfl (by rw [l2]; kernel_rfl) ?_) | (refine wpList_load_wanted (by rfl) 28 _ rfl (w.heap.size + 2) rfl 28 a3 _ P4.out.2.2.1 Try.underlying28 rfl (by rw [l3]; kernel_rfl) ?_))
  refine (rf _).mono ?_
  rintro e w5 ⟨rfl, hC⟩
  have P5 := Lib.hid (playsM_below P4.out hC)
  clear hC P4
  go_wp2_with (first | (refine wpList_load_row rfl 36 _ rfl w.heap.size rfl 36 (ints a0) (0, 0) _ P5.out.1 Try.underlying36 rfl (by rw [ints_size, l0]; kernel_rfl) ?_))
  refine (crr _).mono ?_
  rintro e w6 ⟨rfl, hC⟩
  have P6 := Lib.hid (playsM_below P5.out hC)
  clear hC P5
  go_wp2_with (first | (refine wpList_load_row rfl 36 _ rfl w.heap.size rfl 36 (ints a0) (0, 0) _ P6.out.1 Try.underlying36 rfl (by rw [ints_size, l0]; kernel_rfl) ?_))
  refine (crb _).mono ?_
  rintro e w7 ⟨rfl, hC⟩
  have P7 := Lib.hid (playsM_below P6.out hC)
  clear hC P6
  have c0 := blk_int P7.out.1 (i := b) (by omega)
  rw [HN.out] at c0
  go_wp2_with fail
  refine (cg _).mono ?_
  rintro e w' ⟨rfl, rfl⟩
  clear c0
  go_wp2_with (first | (refine wpList_load_row rfl 36 _ rfl w.heap.size rfl 36 (ints a0) (0, 0) _ P7.out.1 Try.underlying36 rfl (by rw [ints_size, l0]; kernel_rfl) ?_))
  refine (cal _).mono ?_
  rintro e w8 ⟨rfl, hC⟩
  have P8 := Lib.hid (playsM_below P7.out hC)
  clear hC P7
  have nn := blk_new w8 37 #[Value.int .i64 0, Value.int .i64 0, Value.int .i64 0, Value.int .i64 0, Value.int .i64 0, Value.int .i64 0, Value.int .i64 0, Value.int .i64 0]
  go_wp2_with (first | (refine wpList_store_blk rfl 37 _ _ rfl w8.heap.size 37 _ (ints bs) rfl rfl nn (by rw [ints_size, hlb]; rfl) (by rw [ints_size, hlb]; kernel_rfl) (ints_one _) ?_; intro wz nz hgz))
  have PZ : PlaysM w a0 a2 a3 wz := by
    obtain ⟨p1, p2, p3, p4⟩ := P8.out
    have q1 := blk_lt p1
    have q2 := blk_lt p2
    have q3 := blk_lt p3
    have hs := p4.size
    exact ⟨blk_grown (blk_alloc p1 (.cells #[Value.int .i64 0, Value.int .i64 0, Value.int .i64 0, Value.int .i64 0, Value.int .i64 0, Value.int .i64 0, Value.int .i64 0, Value.int .i64 0] 37)) hgz (by simp; omega), blk_grown (blk_alloc p2 (.cells #[Value.int .i64 0, Value.int .i64 0, Value.int .i64 0, Value.int .i64 0, Value.int .i64 0, Value.int .i64 0, Value.int .i64 0, Value.int .i64 0] 37)) hgz (by simp; omega), blk_grown (blk_alloc p3 (.cells #[Value.int .i64 0, Value.int .i64 0, Value.int .i64 0, Value.int .i64 0, Value.int .i64 0, Value.int .i64 0, Value.int .i64 0, Value.int .i64 0] 37)) hgz (by simp; omega), below_grown (p4.alloc hs (.cells #[Value.int .i64 0, Value.int .i64 0, Value.int .i64 0, Value.int .i64 0, Value.int .i64 0, Value.int .i64 0, Value.int .i64 0, Value.int .i64 0] 37)) hgz (by simp; omega) (by omega)⟩
  have cz : wz.cell? ⟨w8.heap.size, b, none⟩ = some (.int .i64 bud) := by rw [← HGB.out]; exact blk_int nz (by omega)
  have hltz := blk_lt nz
  clear nn hgz nz P8
  generalize w8.heap.size = g at *
  have hu0 := Try.underlying36
  have hu4 := Try.underlying28
  have hi0 : (Try.prog.info? 36).map (·.size) = some (a0.map (Value.int .i64)).length := by rw [List.length_map, l0]; kernel_rfl
  have hi4 : (Try.prog.info? 28).map (·.size) = some (a2.map (Value.int .i64)).length := by rw [List.length_map, l2]; kernel_rfl
  have hi5 : (Try.prog.info? 28).map (·.size) = some (a3.map (Value.int .i64)).length := by rw [List.length_map, l3]; kernel_rfl
  have htd := HTD.out
  have hwm := HWM.out
  have HZ := Lib.hid (show PlaysM w a0 a2 a3 wz ∧ wz.cell? ⟨g, b, none⟩ = some (.int .i64 bud) ∧ g < wz.heap.size from ⟨PZ, cz, hltz⟩)
  clear PZ cz hltz
  have hq := HQ.out
  have hmg := HMG.out
  have hwq := HWQ.out
  simp only [ints] at cb cm cy rf
  go_wp2_with fail
  refine wp_region_held_drew (S := (fun W => PlaysM w a0 a2 a3 W ∧ W.cell? ⟨g, b, none⟩ = some (.int .i64 bud) ∧ g < W.heap.size)) (by kernel_rfl) ⟨playsM_drew HZ.out.1, HZ.out.2.1, HZ.out.2.2⟩ (fun hHeld => ?_)
  refine wpAnyH_take (i := 0) (oi := ⟨_, _, _, _, _, _⟩) (v := _) rfl (by kernel_rfl) (by kernel_rfl) (by kernel_rfl) (fun _ _ _ h => h) (yieldsIf_load_mid (by rfl) _ _ rfl _ _ rfl _ _ (fun _ h => range_whole h.1.1) hu0 rfl hi0) (by assumption) ?_
  try simp only [Act.put, List.setIfInBounds_toArray, List.set_cons_zero, List.set_cons_succ]
  refine wpAnyH_take (i := 1) (oi := ⟨_, _, _, _, _, _⟩) (v := ?_) rfl (by kernel_rfl) (by kernel_rfl) (by kernel_rfl) (fun _ _ _ h => h) (Or.inl ⟨by rfl, ?_⟩) (by assumption) ?_
  rotate_left
  · intro W hSw
    try dsimp only at hSw
    go_simp
    try with_reducible rfl
  try simp only [Act.put, List.setIfInBounds_toArray, List.set_cons_zero, List.set_cons_succ]
  refine wpAnyH_take (i := 3) (oi := ⟨_, _, _, _, _, _⟩) (v := ?_) rfl (by kernel_rfl) (by kernel_rfl) (by kernel_rfl) (fun _ _ _ h => h) (Or.inl ⟨by rfl, ?_⟩) (by assumption) ?_
  rotate_left
  · intro W hSw
    try dsimp only at hSw
    go_simp
    try with_reducible rfl
  try simp only [Act.put, List.setIfInBounds_toArray, List.set_cons_zero, List.set_cons_succ]
  refine wpAnyH_ready (rs := [2]) (by kernel_rfl) (by simp) ?_
  refine AllReadyH.cons (o := ⟨_, _, _, _, _, _⟩) rfl (fun K hK => ?_) AllReadyH.nil
  go_simp
  refine (cb _).mono ?_
  rintro e w' ⟨rfl, hC⟩
  go_simp
  refine hK.out _ _ ⟨playsM_below hHeld.1 hC, (hC.cell (p := ⟨g, b, none⟩) hHeld.2.2).trans hHeld.2.1, Nat.lt_of_lt_of_le hHeld.2.2 hC.size⟩ (fun hHeld => ?_)
  clear hK K
  try simp only [Act.put, List.setIfInBounds_toArray, List.set_cons_zero, List.set_cons_succ]
  refine wpAnyH_take (i := 4) (oi := ⟨_, _, _, _, _, _⟩) (v := ?_) rfl (by kernel_rfl) (by kernel_rfl) (by kernel_rfl) (fun _ _ _ h => h) (Or.inl ⟨by rfl, ?_⟩) (by assumption) ?_
  rotate_left
  · intro W hSw
    try dsimp only at hSw
    go_simp
    try with_reducible rfl
  try simp only [Act.put, List.setIfInBounds_toArray, List.set_cons_zero, List.set_cons_succ]
  refine wpAnyH_take (i := 5) (oi := ⟨_, _, _, _, _, _⟩) (v := ?_) rfl (by kernel_rfl) (by kernel_rfl) (by kernel_rfl) (fun _ _ _ h => h) (Or.inl ⟨by rfl, ?_⟩) (by assumption) ?_
  rotate_left
  · intro W hSw
    try dsimp only at hSw
    go_simp
    try with_reducible rfl
  try simp only [Act.put, List.setIfInBounds_toArray, List.set_cons_zero, List.set_cons_succ]
  refine wpAnyH_take (i := 6) (oi := ⟨_, _, _, _, _, _⟩) (v := ?_) rfl (by kernel_rfl) (by kernel_rfl) (by kernel_rfl) (fun _ _ _ h => h) (Or.inl ⟨by rfl, ?_⟩) (by assumption) ?_
  rotate_left
  · intro W hSw
    try dsimp only at hSw
    go_simp
    try with_reducible rfl
  try simp only [Act.put, List.setIfInBounds_toArray, List.set_cons_zero, List.set_cons_succ]
  refine wpAnyH_take (i := 7) (oi := ⟨_, _, _, _, _, _⟩) (v := ?_) rfl (by kernel_rfl) (by kernel_rfl) (by kernel_rfl) (fun _ _ _ h => h) (Or.inl ⟨by rfl, ?_⟩) (by assumption) ?_
  rotate_left
  · intro W hSw
    try dsimp only at hSw
    go_simp
    try with_reducible rfl
  try simp only [Act.put, List.setIfInBounds_toArray, List.set_cons_zero, List.set_cons_succ]
  refine wpAnyH_take (i := 8) (oi := ⟨_, _, _, _, _, _⟩) (v := ?_) rfl (by kernel_rfl) (by kernel_rfl) (by kernel_rfl) (fun _ _ _ h => h) (Or.inl ⟨by rfl, ?_⟩) (by assumption) ?_
  rotate_left
  · intro W hSw
    try dsimp only at hSw
    go_simp
    try with_reducible rfl
  try simp only [Act.put, List.setIfInBounds_toArray, List.set_cons_zero, List.set_cons_succ]
  refine wpAnyH_take (i := 9) (oi := ⟨_, _, _, _, _, _⟩) (v := ?_) rfl (by kernel_rfl) (by kernel_rfl) (by kernel_rfl) (fun _ _ _ h => h) (Or.inl ⟨by rfl, ?_⟩) (by assumption) ?_
  rotate_left
  · intro W hSw
    try dsimp only at hSw
    go_simp
    try with_reducible rfl
  try simp only [Act.put, List.setIfInBounds_toArray, List.set_cons_zero, List.set_cons_succ]
  refine wpAnyH_take (i := 10) (oi := ⟨_, _, _, _, _, _⟩) (v := ?_) rfl (by kernel_rfl) (by kernel_rfl) (by kernel_rfl) (fun _ _ _ h => h) (Or.inl ⟨by rfl, ?_⟩) (by assumption) ?_
  rotate_left
  · intro W hSw
    try dsimp only at hSw
    go_simp
    try with_reducible rfl
  try simp only [Act.put, List.setIfInBounds_toArray, List.set_cons_zero, List.set_cons_succ]
  refine wpAnyH_take (i := 11) (oi := ⟨_, _, _, _, _, _⟩) (v := ?_) rfl (by kernel_rfl) (by kernel_rfl) (by kernel_rfl) (fun _ _ _ h => h) (Or.inl ⟨by rfl, ?_⟩) (by assumption) ?_
  rotate_left
  · intro W hSw
    try dsimp only at hSw
    go_simp
    try with_reducible rfl
  try simp only [Act.put, List.setIfInBounds_toArray, List.set_cons_zero, List.set_cons_succ]
  refine wpAnyH_take (i := 12) (oi := ⟨_, _, _, _, _, _⟩) (v := ?_) rfl (by kernel_rfl) (by kernel_rfl) (by kernel_rfl) (fun _ _ _ h => h) (Or.inl ⟨by rfl, ?_⟩) (by assumption) ?_
  rotate_left
  · intro W hSw
    try dsimp only at hSw
    go_simp
    try with_reducible rfl
  try simp only [Act.put, List.setIfInBounds_toArray, List.set_cons_zero, List.set_cons_succ]
  refine wpAnyH_take (i := 13) (oi := ⟨_, _, _, _, _, _⟩) (v := _) rfl (by kernel_rfl) (by kernel_rfl) (by kernel_rfl) (fun _ _ _ h => h) (yieldsIf_load_mid (by rfl) _ _ rfl _ _ rfl _ _ (fun _ h => range_whole h.1.1) hu0 rfl hi0) (by assumption) ?_
  try simp only [Act.put, List.setIfInBounds_toArray, List.set_cons_zero, List.set_cons_succ]
  refine wpAnyH_take (i := 14) (oi := ⟨_, _, _, _, _, _⟩) (v := ?_) rfl (by kernel_rfl) (by kernel_rfl) (by kernel_rfl) (fun _ _ _ h => h) (Or.inl ⟨by rfl, ?_⟩) (by assumption) ?_
  rotate_left
  · intro W hSw
    try dsimp only at hSw
    go_simp
    try with_reducible rfl
  try simp only [Act.put, List.setIfInBounds_toArray, List.set_cons_zero, List.set_cons_succ]
  refine wpAnyH_take (i := 16) (oi := ⟨_, _, _, _, _, _⟩) (v := ?_) rfl (by kernel_rfl) (by kernel_rfl) (by kernel_rfl) (fun _ _ _ h => h) (Or.inl ⟨by rfl, ?_⟩) (by assumption) ?_
  rotate_left
  · intro W hSw
    try dsimp only at hSw
    go_simp
    try with_reducible rfl
  try simp only [Act.put, List.setIfInBounds_toArray, List.set_cons_zero, List.set_cons_succ]
  refine wpAnyH_take (i := 17) (oi := ⟨_, _, _, _, _, _⟩) (v := ?_) rfl (by kernel_rfl) (by kernel_rfl) (by kernel_rfl) (fun _ _ _ h => h) (Or.inl ⟨by rfl, ?_⟩) (by assumption) ?_
  rotate_left
  · intro W hSw
    try dsimp only at hSw
    go_simp
    try with_reducible rfl
  try simp only [Act.put, List.setIfInBounds_toArray, List.set_cons_zero, List.set_cons_succ]
  refine wpAnyH_take (i := 18) (oi := ⟨_, _, _, _, _, _⟩) (v := ?_) rfl (by kernel_rfl) (by kernel_rfl) (by kernel_rfl) (fun _ _ _ h => h) (Or.inl ⟨by rfl, ?_⟩) (by assumption) ?_
  rotate_left
  · intro W hSw
    try dsimp only at hSw
    go_simp
    try with_reducible rfl
  try simp only [Act.put, List.setIfInBounds_toArray, List.set_cons_zero, List.set_cons_succ]
  refine wpAnyH_ready (rs := [15]) (by kernel_rfl) (by simp) ?_
  refine AllReadyH.cons (o := ⟨_, _, _, _, _, _⟩) rfl (fun K hK => ?_) AllReadyH.nil
  go_simp
  refine (cm _).mono ?_
  rintro e w' ⟨rfl, hC⟩
  go_simp
  refine hK.out _ _ ⟨playsM_below hHeld.1 hC, (hC.cell (p := ⟨g, b, none⟩) hHeld.2.2).trans hHeld.2.1, Nat.lt_of_lt_of_le hHeld.2.2 hC.size⟩ (fun hHeld => ?_)
  clear hK K
  try simp only [Act.put, List.setIfInBounds_toArray, List.set_cons_zero, List.set_cons_succ]
  refine wpAnyH_take (i := 19) (oi := ⟨_, _, _, _, _, _⟩) (v := ?_) rfl (by kernel_rfl) (by kernel_rfl) (by kernel_rfl) (fun _ _ _ h => h) (Or.inl ⟨by rfl, ?_⟩) (by assumption) ?_
  rotate_left
  · intro W hSw
    try dsimp only at hSw
    go_simp
    try with_reducible rfl
  try simp only [Act.put, List.setIfInBounds_toArray, List.set_cons_zero, List.set_cons_succ]
  refine wpAnyH_take (i := 20) (oi := ⟨_, _, _, _, _, _⟩) (v := ?_) rfl (by kernel_rfl) (by kernel_rfl) (by kernel_rfl) (fun _ _ _ h => h) (Or.inl ⟨by rfl, ?_⟩) (by assumption) ?_
  rotate_left
  · intro W hSw
    try dsimp only at hSw
    go_simp
    try with_reducible rfl
  try simp only [Act.put, List.setIfInBounds_toArray, List.set_cons_zero, List.set_cons_succ]
  refine wpAnyH_take (i := 21) (oi := ⟨_, _, _, _, _, _⟩) (v := ?_) rfl (by kernel_rfl) (by kernel_rfl) (by kernel_rfl) (fun _ _ _ h => h) (Or.inl ⟨by rfl, ?_⟩) (by assumption) ?_
  rotate_left
  · intro W hSw
    try dsimp only at hSw
    go_simp
    try with_reducible rfl
  try simp only [Act.put, List.setIfInBounds_toArray, List.set_cons_zero, List.set_cons_succ]
  refine wpAnyH_take (i := 22) (oi := ⟨_, _, _, _, _, _⟩) (v := _) rfl (by kernel_rfl) (by kernel_rfl) (by kernel_rfl) (fun _ _ _ h => h) (yieldsIf_load_mid (by rfl) _ _ rfl _ _ rfl _ _ (fun _ h => range_whole h.1.1) hu0 rfl hi0) (by assumption) ?_
  try simp only [Act.put, List.setIfInBounds_toArray, List.set_cons_zero, List.set_cons_succ]
  refine wpAnyH_take (i := 23) (oi := ⟨_, _, _, _, _, _⟩) (v := ?_) rfl (by kernel_rfl) (by kernel_rfl) (by kernel_rfl) (fun _ _ _ h => h) (Or.inl ⟨by rfl, ?_⟩) (by assumption) ?_
  rotate_left
  · intro W hSw
    try dsimp only at hSw
    go_simp
    try with_reducible rfl
  try simp only [Act.put, List.setIfInBounds_toArray, List.set_cons_zero, List.set_cons_succ]
  refine wpAnyH_take (i := 24) (oi := ⟨_, _, _, _, _, _⟩) (v := _) rfl (by kernel_rfl) (by kernel_rfl) (by kernel_rfl) (fun _ _ _ h => h) (yieldsIf_load_mid (by rfl) _ _ rfl _ _ rfl _ _ (fun _ h => range_whole h.1.2.1) hu4 rfl hi4) (by assumption) ?_
  try simp only [Act.put, List.setIfInBounds_toArray, List.set_cons_zero, List.set_cons_succ]
  refine wpAnyH_take (i := 25) (oi := ⟨_, _, _, _, _, _⟩) (v := _) rfl (by kernel_rfl) (by kernel_rfl) (by kernel_rfl) (fun _ _ _ h => h) (yieldsIf_load_mid (by rfl) _ _ rfl _ _ rfl _ _ (fun _ h => range_whole h.1.2.2.1) hu4 rfl hi5) (by assumption) ?_
  try simp only [Act.put, List.setIfInBounds_toArray, List.set_cons_zero, List.set_cons_succ]
  refine wpAnyH_take (i := 27) (oi := ⟨_, _, _, _, _, _⟩) (v := ?_) rfl (by kernel_rfl) (by kernel_rfl) (by kernel_rfl) (fun _ _ _ h => h) (Or.inl ⟨by rfl, ?_⟩) (by assumption) ?_
  rotate_left
  · intro W hSw
    try dsimp only at hSw
    go_simp
    try with_reducible rfl
  try simp only [Act.put, List.setIfInBounds_toArray, List.set_cons_zero, List.set_cons_succ]
  refine wpAnyH_take (i := 28) (oi := ⟨_, _, _, _, _, _⟩) (v := ?_) rfl (by kernel_rfl) (by kernel_rfl) (by kernel_rfl) (fun _ _ _ h => h) (Or.inl ⟨by rfl, ?_⟩) (by assumption) ?_
  rotate_left
  · intro W hSw
    try dsimp only at hSw
    go_simp
    try with_reducible rfl
  try simp only [Act.put, List.setIfInBounds_toArray, List.set_cons_zero, List.set_cons_succ]
  refine wpAnyH_ready (rs := [26]) (by kernel_rfl) (by simp) ?_
  refine AllReadyH.cons (o := ⟨_, _, _, _, _, _⟩) rfl (fun K hK => ?_) AllReadyH.nil
  go_simp
  refine (cy _).mono ?_
  rintro e w' ⟨rfl, hC⟩
  go_simp
  refine hK.out _ _ ⟨playsM_below hHeld.1 hC, (hC.cell (p := ⟨g, b, none⟩) hHeld.2.2).trans hHeld.2.1, Nat.lt_of_lt_of_le hHeld.2.2 hC.size⟩ (fun hHeld => ?_)
  clear hK K
  try simp only [Act.put, List.setIfInBounds_toArray, List.set_cons_zero, List.set_cons_succ]
  refine wpAnyH_take (i := 29) (oi := ⟨_, _, _, _, _, _⟩) (v := ?_) rfl (by kernel_rfl) (by kernel_rfl) (by kernel_rfl) (fun _ _ _ h => h) (Or.inl ⟨by rfl, ?_⟩) (by assumption) ?_
  rotate_left
  · intro W hSw
    try dsimp only at hSw
    go_simp
    try with_reducible rfl
  try simp only [Act.put, List.setIfInBounds_toArray, List.set_cons_zero, List.set_cons_succ]
  refine wpAnyH_take (i := 30) (oi := ⟨_, _, _, _, _, _⟩) (v := _) rfl (by kernel_rfl) (by kernel_rfl) (by kernel_rfl) (fun _ _ _ h => h) (yieldsIf_load_mid (by rfl) _ _ rfl _ _ rfl _ _ (fun _ h => range_whole h.1.2.1) hu4 rfl hi4) (by assumption) ?_
  try simp only [Act.put, List.setIfInBounds_toArray, List.set_cons_zero, List.set_cons_succ]
  refine wpAnyH_take (i := 31) (oi := ⟨_, _, _, _, _, _⟩) (v := _) rfl (by kernel_rfl) (by kernel_rfl) (by kernel_rfl) (fun _ _ _ h => h) (yieldsIf_load_mid (by rfl) _ _ rfl _ _ rfl _ _ (fun _ h => range_whole h.1.2.2.1) hu4 rfl hi5) (by assumption) ?_
  try simp only [Act.put, List.setIfInBounds_toArray, List.set_cons_zero, List.set_cons_succ]
  refine wpAnyH_take (i := 33) (oi := ⟨_, _, _, _, _, _⟩) (v := ?_) rfl (by kernel_rfl) (by kernel_rfl) (by kernel_rfl) (fun _ _ _ h => h) (Or.inl ⟨by rfl, ?_⟩) (by assumption) ?_
  rotate_left
  · intro W hSw
    try dsimp only at hSw
    go_simp
    try with_reducible rfl
  try simp only [Act.put, List.setIfInBounds_toArray, List.set_cons_zero, List.set_cons_succ]
  refine wpAnyH_take (i := 35) (oi := ⟨_, _, _, _, _, _⟩) (v := ?_) rfl (by kernel_rfl) (by kernel_rfl) (by kernel_rfl) (fun _ _ _ h => h) (Or.inl ⟨by rfl, ?_⟩) (by assumption) ?_
  rotate_left
  · intro W hSw
    try dsimp only at hSw
    go_simp
    try with_reducible rfl
  try simp only [Act.put, List.setIfInBounds_toArray, List.set_cons_zero, List.set_cons_succ]
  refine wpAnyH_ready (rs := [32]) (by kernel_rfl) (by simp) ?_
  refine AllReadyH.cons (o := ⟨_, _, _, _, _, _⟩) rfl (fun K hK => ?_) AllReadyH.nil
  go_simp
  refine (rf _).mono ?_
  rintro e w' ⟨rfl, hC⟩
  go_simp
  refine hK.out _ _ ⟨playsM_below hHeld.1 hC, (hC.cell (p := ⟨g, b, none⟩) hHeld.2.2).trans hHeld.2.1, Nat.lt_of_lt_of_le hHeld.2.2 hC.size⟩ (fun hHeld => ?_)
  clear hK K
  try simp only [Act.put, List.setIfInBounds_toArray, List.set_cons_zero, List.set_cons_succ]
  refine wpAnyH_take (i := 34) (oi := ⟨_, _, _, _, _, _⟩) (v := ?_) rfl (by kernel_rfl) (by kernel_rfl) (by kernel_rfl) (fun _ _ _ h => h) (Or.inl ⟨by rfl, ?_⟩) (by assumption) ?_
  rotate_left
  · intro W hSw
    try dsimp only at hSw
    go_simp
    try with_reducible rfl
  try simp only [Act.put, List.setIfInBounds_toArray, List.set_cons_zero, List.set_cons_succ]
  refine wpAnyH_take (i := 36) (oi := ⟨_, _, _, _, _, _⟩) (v := ?_) rfl (by kernel_rfl) (by kernel_rfl) (by kernel_rfl) (fun _ _ _ h => h) (Or.inl ⟨by rfl, ?_⟩) (by assumption) ?_
  rotate_left
  · intro W hSw
    try dsimp only at hSw
    go_simp
    try with_reducible rfl
  try simp only [Act.put, List.setIfInBounds_toArray, List.set_cons_zero, List.set_cons_succ]
  refine wpAnyH_take (i := 37) (oi := ⟨_, _, _, _, _, _⟩) (v := ?_) rfl (by kernel_rfl) (by kernel_rfl) (by kernel_rfl) (fun _ _ _ h => h) (Or.inl ⟨by rfl, ?_⟩) (by assumption) ?_
  rotate_left
  · intro W hSw
    try dsimp only at hSw
    go_simp
    try with_reducible rfl
  try simp only [Act.put, List.setIfInBounds_toArray, List.set_cons_zero, List.set_cons_succ]
  refine wpAnyH_take (i := 38) (oi := ⟨_, _, _, _, _, _⟩) (v := ?_) rfl (by kernel_rfl) (by kernel_rfl) (by kernel_rfl) (fun _ _ _ h => h) (Or.inl ⟨by rfl, ?_⟩) (by assumption) ?_
  rotate_left
  · intro W hSw
    try dsimp only at hSw
    go_simp
    try with_reducible rfl
  try simp only [Act.put, List.setIfInBounds_toArray, List.set_cons_zero, List.set_cons_succ]
  refine wpAnyH_take (i := 39) (oi := ⟨_, _, _, _, _, _⟩) (v := ?_) rfl (by kernel_rfl) (by kernel_rfl) (by kernel_rfl) (fun _ _ _ h => h) (Or.inl ⟨by rfl, ?_⟩) (by assumption) ?_
  rotate_left
  · intro W hSw
    try dsimp only at hSw
    go_simp
    try with_reducible rfl
  try simp only [Act.put, List.setIfInBounds_toArray, List.set_cons_zero, List.set_cons_succ]
  refine wpAnyH_take (i := 40) (oi := ⟨_, _, _, _, _, _⟩) (v := ?_) rfl (by kernel_rfl) (by kernel_rfl) (by kernel_rfl) (fun _ _ _ h => h) (Or.inl ⟨by rfl, ?_⟩) (by assumption) ?_
  rotate_left
  · intro W hSw
    try dsimp only at hSw
    go_simp
    try with_reducible rfl
  try simp only [Act.put, List.setIfInBounds_toArray, List.set_cons_zero, List.set_cons_succ]
  refine wpAnyH_done (by kernel_rfl) ?_ _
  have hE := hHeld.1.2.2.2
  clear hHeld
  go_wp2_with fail
  go_ret
  exact ⟨rfl, hE⟩

theorem maskPlays_walk (a0 : List Int) (a1 : Int) (a2 a3 : List Int) (l0 : a0.length = 8) (w0 : ∀ z ∈ a0, (Lit.int .i64 z).wf = true) (_w1 : (Lit.int .i64 a1).wf = true) (l2 : a2.length = 4) (w2 : ∀ z ∈ a2, (Lit.int .i64 z).wf = true) (l3 : a3.length = 4) (w3 : ∀ z ∈ a3, (Lit.int .i64 z).wf = true) (w : World) : Calls Try.prog 14 #[.agg (a0.map (Value.int .i64)).toArray, .int .i64 a1, .agg (a2.map (Value.int .i64)).toArray, .agg (a3.map (Value.int .i64)).toArray] w (LawTrue w) := by
  by_cases h : rightB a0 = true ∧ 0 ≤ a1 ∧ a1 < 8
  · obtain ⟨b, rfl⟩ : ∃ b : Nat, a1 = b := ⟨a1.toNat, by omega⟩
    cases hg : okTo a2 4 with
    | false => exact mplays_in_a a0 b a2 a3 l0 l2 (i64_all w2) l3 (i64_all w3) hg h.1 (by omega) w
    | true =>
      cases hg2 : okTo a3 4 with
      | false => exact mplays_in_b a0 b a2 a3 l0 l2 (i64_all w2) l3 (i64_all w3) hg hg2 h.1 (by omega) w
      | true => exact mplays_in_c a0 b a2 a3 l0 l2 (i64_all w2) l3 (i64_all w3) hg hg2 h.1 (by omega) w
  · have hr : (rightB a0 && decide (0 ≤ a1) && decide (a1 < 8)) = false := by
      rw [Bool.eq_false_iff]
      intro hq
      apply h
      simp at hq
      exact ⟨hq.1.1, hq.1.2, hq.2⟩
    cases hg : okTo a2 4 with
    | false => exact mplays_away_a a0 a1 a2 a3 l0 (i64_all w0) l2 (i64_all w2) l3 (i64_all w3) hg hr w
    | true =>
      cases hg2 : okTo a3 4 with
      | false => exact mplays_away_b a0 a1 a2 a3 l0 (i64_all w0) l2 (i64_all w2) l3 (i64_all w3) hg hg2 hr w
      | true => exact mplays_away_c a0 a1 a2 a3 l0 (i64_all w0) l2 (i64_all w2) l3 (i64_all w3) hg hg2 hr w
end Go.Proofs.Ytnmhbonheaoldaa
