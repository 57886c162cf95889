/- Contracts of the package mid (Of, Back) and of the laws' small words. -/
import Derived.Test.YtnmhbonheaoldaaChecked
import Derived.Test.YtnmhbonheaoldaaFrame
import Derived.Test.YtnmhbonheaoldaaNum
namespace Go.Proofs.Ytnmhbonheaoldaa
open Go.RowKit

theorem midOf_calls (l r : Int) (w : World) (hl0 : -4398046511104 ≤ l) (hl1 : l ≤ 4398046511104) (hr0 : -4398046511104 ≤ r) (hr1 : r ≤ 4398046511104) :
    Calls Try.prog 18 #[.int .i64 l, .int .i64 r] w fun e w' => e = .returned (.tuple #[.int .i64 (r + (l - r) / 2), .int .i64 (l - r)]) ∧ w = w' := by
  go_enter Try.func18, Try.ntmps18
  go_wp2
  go_ret2
  exact ⟨rfl, rfl⟩

theorem midBack_calls (m s : Int) (w : World) (hl0 : -4398046511104 ≤ m) (hl1 : m ≤ 4398046511104) (hr0 : -4398046511104 ≤ s) (hr1 : s ≤ 4398046511104) :
    Calls Try.prog 20 #[.int .i64 m, .int .i64 s] w fun e w' => e = .returned (.tuple #[.int .i64 (m - s / 2 + s), .int .i64 (m - s / 2)]) ∧ w = w' := by
  go_enter Try.func20, Try.ntmps20
  go_wp2
  go_ret2
  exact ⟨rfl, rfl⟩

def heldM (n : Int) : Int := n.tmod 1099511627777
theorem heldM_bd (n : Int) : -1099511627776 ≤ heldM n ∧ heldM n ≤ 1099511627776 := tmod_bd n (m := 1099511627776) (by omega)

theorem heldM_calls (n : Int) (w : World) (hn : (Lit.int .i64 n).wf = true) :
    Calls Try.prog 17 #[.int .i64 n] w fun e w' => e = .returned (.int .i64 (heldM n)) ∧ w = w' := by
  have hb := i64_bounds hn
  have hc := heldM_bd n
  unfold heldM at *
  go_enter Try.func17, Try.ntmps17
  go_wp2
  go_ret
  exact ⟨rfl, rfl⟩

theorem awakeM_calls (w : World) :
    Calls Try.prog 19 #[] w fun e w' => e = .returned (.bool true) ∧ w = w' := by
  go_enter Try.func19, Try.ntmps19
  go_wp2
  go_ret
  exact ⟨rfl, rfl⟩

set_option maxHeartbeats 400000 in
theorem midBetween_walk (a0 a1 : Int) (w0 : (Lit.int .i64 a0).wf = true) (w1 : (Lit.int .i64 a1).wf = true) (w : World) :
    Calls Try.prog 3 #[.int .i64 a0, .int .i64 a1] w (LawTrue w) := by
  have b0 := heldM_bd a0
  have b1 := heldM_bd a1
  go_enter Try.func3, Try.ntmps3
  go_wp2_with (first
    | (go_at_call 17; refine (heldM_calls _ _ (by assumption)).mono ?_; rintro e w' ⟨rfl, rfl⟩)
    | (go_at_call 18; refine (midOf_calls _ _ _ (by omega) (by omega) (by omega) (by omega)).mono ?_; rintro e w' ⟨rfl, rfl⟩)
    | (go_at_call 20; refine (midBack_calls _ _ _ (by omega) (by omega) (by omega) (by omega)).mono ?_; rintro e w' ⟨rfl, rfl⟩)
    | (go_at_call 19; refine (awakeM_calls _).mono ?_; rintro e w' ⟨rfl, rfl⟩))
  all_goals (go_ret; refine ⟨ret_true ?_, Below.refl _ _⟩; first | rfl | (rw [beq_iff_eq]; omega) | (simp; omega))

set_option maxHeartbeats 400000 in
theorem midBack_walk (a0 a1 : Int) (w0 : (Lit.int .i64 a0).wf = true) (w1 : (Lit.int .i64 a1).wf = true) (w : World) :
    Calls Try.prog 5 #[.int .i64 a0, .int .i64 a1] w (LawTrue w) := by
  have b0 := heldM_bd a0
  have b1 := heldM_bd a1
  go_enter Try.func5, Try.ntmps5
  go_wp2_with (first
    | (go_at_call 17; refine (heldM_calls _ _ (by assumption)).mono ?_; rintro e w' ⟨rfl, rfl⟩)
    | (go_at_call 18; refine (midOf_calls _ _ _ (by omega) (by omega) (by omega) (by omega)).mono ?_; rintro e w' ⟨rfl, rfl⟩)
    | (go_at_call 20; refine (midBack_calls _ _ _ (by omega) (by omega) (by omega) (by omega)).mono ?_; rintro e w' ⟨rfl, rfl⟩)
    | (go_at_call 19; refine (awakeM_calls _).mono ?_; rintro e w' ⟨rfl, rfl⟩))
  all_goals (go_ret; refine ⟨ret_true ?_, Below.refl _ _⟩; first | rfl | (rw [beq_iff_eq]; omega) | (simp; omega))

theorem mid_unlike (a b c d : Int) (h : ¬ (a = c ∧ b = d)) : ¬ (b + (a - b) / 2 = d + (c - d) / 2 ∧ a - b = c - d) := by omega

set_option maxHeartbeats 400000 in
theorem unlike_same (a0 a1 a2 a3 : Int) (w0 : (Lit.int .i64 a0).wf = true) (w1 : (Lit.int .i64 a1).wf = true) (w2 : (Lit.int .i64 a2).wf = true) (w3 : (Lit.int .i64 a3).wf = true) (w : World) (h0 : (heldM a0 == heldM a2) = true) (h1 : (heldM a1 == heldM a3) = true) (h2 : (heldM a1 + (heldM a0 - heldM a1) / 2 == heldM a3 + (heldM a2 - heldM a3) / 2) = true) (h3 : (heldM a0 - heldM a1 == heldM a2 - heldM a3) = true) :
    Calls Try.prog 4 #[.int .i64 a0, .int .i64 a1, .int .i64 a2, .int .i64 a3] w (LawTrue w) := by
  have b0 := heldM_bd a0
  have b1 := heldM_bd a1
  have b2 := heldM_bd a2
  have b3 := heldM_bd a3
  go_enter Try.func4, Try.ntmps4
  go_wp2_with (first
    | (go_at_call 17; refine (heldM_calls _ _ (by assumption)).mono ?_; rintro e w' ⟨rfl, rfl⟩)
    | (go_at_call 18; refine (midOf_calls _ _ _ (by omega) (by omega) (by omega) (by omega)).mono ?_; rintro e w' ⟨rfl, rfl⟩)
    | (go_at_call 20; refine (midBack_calls _ _ _ (by omega) (by omega) (by omega) (by omega)).mono ?_; rintro e w' ⟨rfl, rfl⟩)
    | (go_at_call 19; refine (awakeM_calls _).mono ?_; rintro e w' ⟨rfl, rfl⟩))
  all_goals (go_ret; refine ⟨ret_true ?_, Below.refl _ _⟩; first | rfl | (rw [beq_iff_eq]; omega) | (simp; omega))

set_option maxHeartbeats 400000 in
theorem unlike_mid0 (a0 a1 a2 a3 : Int) (w0 : (Lit.int .i64 a0).wf = true) (w1 : (Lit.int .i64 a1).wf = true) (w2 : (Lit.int .i64 a2).wf = true) (w3 : (Lit.int .i64 a3).wf = true) (w : World) (h0 : (heldM a0 == heldM a2) = false) (h2 : (heldM a1 + (heldM a0 - heldM a1) / 2 == heldM a3 + (heldM a2 - heldM a3) / 2) = false) :
    Calls Try.prog 4 #[.int .i64 a0, .int .i64 a1, .int .i64 a2, .int .i64 a3] w (LawTrue w) := by
  have b0 := heldM_bd a0
  have b1 := heldM_bd a1
  have b2 := heldM_bd a2
  have b3 := heldM_bd a3
  go_enter Try.func4, Try.ntmps4
  go_wp2_with (first
    | (go_at_call 17; refine (heldM_calls _ _ (by assumption)).mono ?_; rintro e w' ⟨rfl, rfl⟩)
    | (go_at_call 18; refine (midOf_calls _ _ _ (by omega) (by omega) (by omega) (by omega)).mono ?_; rintro e w' ⟨rfl, rfl⟩)
    | (go_at_call 20; refine (midBack_calls _ _ _ (by omega) (by omega) (by omega) (by omega)).mono ?_; rintro e w' ⟨rfl, rfl⟩)
    | (go_at_call 19; refine (awakeM_calls _).mono ?_; rintro e w' ⟨rfl, rfl⟩))
  all_goals (go_ret; refine ⟨ret_true ?_, Below.refl _ _⟩; first | rfl | (rw [beq_iff_eq]; omega) | (simp; omega))

set_option maxHeartbeats 400000 in
theorem unlike_mid1 (a0 a1 a2 a3 : Int) (w0 : (Lit.int .i64 a0).wf = true) (w1 : (Lit.int .i64 a1).wf = true) (w2 : (Lit.int .i64 a2).wf = true) (w3 : (Lit.int .i64 a3).wf = true) (w : World) (h0 : (heldM a0 == heldM a2) = true) (h1 : (heldM a1 == heldM a3) = false) (h2 : (heldM a1 + (heldM a0 - heldM a1) / 2 == heldM a3 + (heldM a2 - heldM a3) / 2) = false) :
    Calls Try.prog 4 #[.int .i64 a0, .int .i64 a1, .int .i64 a2, .int .i64 a3] w (LawTrue w) := by
  have b0 := heldM_bd a0
  have b1 := heldM_bd a1
  have b2 := heldM_bd a2
  have b3 := heldM_bd a3
  go_enter Try.func4, Try.ntmps4
  go_wp2_with (first
    | (go_at_call 17; refine (heldM_calls _ _ (by assumption)).mono ?_; rintro e w' ⟨rfl, rfl⟩)
    | (go_at_call 18; refine (midOf_calls _ _ _ (by omega) (by omega) (by omega) (by omega)).mono ?_; rintro e w' ⟨rfl, rfl⟩)
    | (go_at_call 20; refine (midBack_calls _ _ _ (by omega) (by omega) (by omega) (by omega)).mono ?_; rintro e w' ⟨rfl, rfl⟩)
    | (go_at_call 19; refine (awakeM_calls _).mono ?_; rintro e w' ⟨rfl, rfl⟩))
  all_goals (go_ret; refine ⟨ret_true ?_, Below.refl _ _⟩; first | rfl | (rw [beq_iff_eq]; omega) | (simp; omega))

set_option maxHeartbeats 400000 in
theorem unlike_side0 (a0 a1 a2 a3 : Int) (w0 : (Lit.int .i64 a0).wf = true) (w1 : (Lit.int .i64 a1).wf = true) (w2 : (Lit.int .i64 a2).wf = true) (w3 : (Lit.int .i64 a3).wf = true) (w : World) (h0 : (heldM a0 == heldM a2) = false) (h2 : (heldM a1 + (heldM a0 - heldM a1) / 2 == heldM a3 + (heldM a2 - heldM a3) / 2) = true) (h3 : (heldM a0 - heldM a1 == heldM a2 - heldM a3) = false) :
    Calls Try.prog 4 #[.int .i64 a0, .int .i64 a1, .int .i64 a2, .int .i64 a3] w (LawTrue w) := by
  have b0 := heldM_bd a0
  have b1 := heldM_bd a1
  have b2 := heldM_bd a2
  have b3 := heldM_bd a3
  go_enter Try.func4, Try.ntmps4
  go_wp2_with (first
    | (go_at_call 17; refine (heldM_calls _ _ (by assumption)).mono ?_; rintro e w' ⟨rfl, rfl⟩)
    | (go_at_call 18; refine (midOf_calls _ _ _ (by omega) (by omega) (by omega) (by omega)).mono ?_; rintro e w' ⟨rfl, rfl⟩)
    | (go_at_call 20; refine (midBack_calls _ _ _ (by omega) (by omega) (by omega) (by omega)).mono ?_; rintro e w' ⟨rfl, rfl⟩)
    | (go_at_call 19; refine (awakeM_calls _).mono ?_; rintro e w' ⟨rfl, rfl⟩))
  all_goals (go_ret; refine ⟨ret_true ?_, Below.refl _ _⟩; first | rfl | (rw [beq_iff_eq]; omega) | (simp; omega))

set_option maxHeartbeats 400000 in
theorem unlike_side1 (a0 a1 a2 a3 : Int) (w0 : (Lit.int .i64 a0).wf = true) (w1 : (Lit.int .i64 a1).wf = true) (w2 : (Lit.int .i64 a2).wf = true) (w3 : (Lit.int .i64 a3).wf = true) (w : World) (h0 : (heldM a0 == heldM a2) = true) (h1 : (heldM a1 == heldM a3) = false) (h2 : (heldM a1 + (heldM a0 - heldM a1) / 2 == heldM a3 + (heldM a2 - heldM a3) / 2) = true) (h3 : (heldM a0 - heldM a1 == heldM a2 - heldM a3) = false) :
    Calls Try.prog 4 #[.int .i64 a0, .int .i64 a1, .int .i64 a2, .int .i64 a3] w (LawTrue w) := by
  have b0 := heldM_bd a0
  have b1 := heldM_bd a1
  have b2 := heldM_bd a2
  have b3 := heldM_bd a3
  go_enter Try.func4, Try.ntmps4
  go_wp2_with (first
    | (go_at_call 17; refine (heldM_calls _ _ (by assumption)).mono ?_; rintro e w' ⟨rfl, rfl⟩)
    | (go_at_call 18; refine (midOf_calls _ _ _ (by omega) (by omega) (by omega) (by omega)).mono ?_; rintro e w' ⟨rfl, rfl⟩)
    | (go_at_call 20; refine (midBack_calls _ _ _ (by omega) (by omega) (by omega) (by omega)).mono ?_; rintro e w' ⟨rfl, rfl⟩)
    | (go_at_call 19; refine (awakeM_calls _).mono ?_; rintro e w' ⟨rfl, rfl⟩))
  all_goals (go_ret; refine ⟨ret_true ?_, Below.refl _ _⟩; first | rfl | (rw [beq_iff_eq]; omega) | (simp; omega))

theorem midUnlike_walk (a0 a1 a2 a3 : Int) (w0 : (Lit.int .i64 a0).wf = true) (w1 : (Lit.int .i64 a1).wf = true) (w2 : (Lit.int .i64 a2).wf = true) (w3 : (Lit.int .i64 a3).wf = true) (w : World) :
    Calls Try.prog 4 #[.int .i64 a0, .int .i64 a1, .int .i64 a2, .int .i64 a3] w (LawTrue w) := by
  have hu := mid_unlike (heldM a0) (heldM a1) (heldM a2) (heldM a3)
  cases h0 : (heldM a0 == heldM a2) <;> cases h1 : (heldM a1 == heldM a3) <;> cases h2 : (heldM a1 + (heldM a0 - heldM a1) / 2 == heldM a3 + (heldM a2 - heldM a3) / 2) <;> cases h3 : (heldM a0 - heldM a1 == heldM a2 - heldM a3) <;>
    first
    | exact unlike_same a0 a1 a2 a3 w0 w1 w2 w3 w h0 h1 h2 h3
    | exact unlike_mid0 a0 a1 a2 a3 w0 w1 w2 w3 w h0 h2
    | exact unlike_mid1 a0 a1 a2 a3 w0 w1 w2 w3 w h0 h1 h2
    | exact unlike_side0 a0 a1 a2 a3 w0 w1 w2 w3 w h0 h2 h3
    | exact unlike_side1 a0 a1 a2 a3 w0 w1 w2 w3 w h0 h1 h2 h3
    | (simp only [beq_iff_eq, beq_eq_false_iff_ne, ne_eq] at h0 h1 h2 h3; omega)

end Go.Proofs.Ytnmhbonheaoldaa
