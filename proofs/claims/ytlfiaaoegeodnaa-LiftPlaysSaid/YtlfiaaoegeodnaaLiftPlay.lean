/- The walk of LiftPlays. -/
import Derived.Test.YtlfiaaoegeodnaaLiftLaws
import Derived.Test.YtlfiaaoegeodnaaRefL
namespace Go.Proofs.Ytlfiaaoegeodnaa
open Go.RowKit

theorem part_out (x m : Int) (w : World) (h : m < 0 ∨ 32768 < m) (hx : -70368744177664 ≤ x) (hx1 : x ≤ 70368744177664) :
    Calls Try.prog 39 #[.int .i64 x, .int .i64 m] w fun e w' => e = .returned (.int .i64 0) ∧ w = w' := by
  go_enter Try.func39, Try.ntmps39
  rcases h with h | h
  · go_wp2
    go_ret
    exact ⟨rfl, rfl⟩
  · have h' : ¬ m < 0 := by omega
    go_wp2
    go_ret
    exact ⟨rfl, rfl⟩

/-- what a turn, or its undoing, answers of any numbers: these, unchanged, if they may not be turned -/
def Stays (w : World) (e : Ending) (w' : World) : Prop := ∃ x y, e = .returned (.tuple #[.int .i64 x, .int .i64 y]) ∧ Below w.heap.size w w'
theorem turn_some (a b k : Int) (w : World) (ha : -1099511627776 ≤ a) (ha1 : a ≤ 1099511627776) (hb : -1099511627776 ≤ b) (hb1 : b ≤ 1099511627776) (h0 : -9223372036854775808 ≤ k) (h1 : k ≤ 9223372036854775807) :
    Calls Try.prog 37 #[.int .i64 a, .int .i64 b, .int .i64 k] w (Stays w) := (turnL_calls a b k w ha ha1 hb hb1 h0 h1).mono fun _ _ h => ⟨_, _, h.1, h.2⟩
theorem back_some (a b k : Int) (w : World) (ha : -1099511627776 ≤ a) (ha1 : a ≤ 1099511627776) (hb : -1099511627776 ≤ b) (hb1 : b ≤ 1099511627776) (h0 : -9223372036854775808 ≤ k) (h1 : k ≤ 9223372036854775807) :
    Calls Try.prog 40 #[.int .i64 a, .int .i64 b, .int .i64 k] w (Stays w) := (backL_calls a b k w ha ha1 hb hb1 h0 h1).mono fun _ _ h => ⟨_, _, h.1, h.2⟩

set_option maxRecDepth 100000 in
set_option maxHeartbeats 1000000 in
theorem liftPlays_low_may (a0 : Int) (a1 : Int) (a2 : Int) (a3 : Int) (_w0 : (Lit.int .i64 a0).wf = true) (_w1 : (Lit.int .i64 a1).wf = true) (_w2 : (Lit.int .i64 a2).wf = true) (_w3 : (Lit.int .i64 a3).wf = true) (w : World) (mc : a3 < 0) (fc : (-1099511627776 ≤ a0 ∧ a0 ≤ 1099511627776) ∧ (-1099511627776 ≤ a1 ∧ a1 ≤ 1099511627776)) :
    Calls Try.prog 15 #[.int .i64 a0, .int .i64 a1, .int .i64 a2, .int .i64 a3] w (LawTrue w) := by
  have hb0 := heldL_bd a0
  have hb1 := heldL_bd a1
  have hk := i64_bounds _w2
  have hm := i64_bounds _w3
  have k0 := i64_bounds _w0
  have k1 := i64_bounds _w1
  generalize hx : heldL a0 = x at *
  generalize hy : heldL a1 = y at *
  have X := Lib.hid hx
  have Y := Lib.hid hy
  clear hx hy
  go_enter Try.func15, Try.ntmps15
  go_wp2_with fail
  refine (awakeL_calls _).mono ?_
  rintro e wn1 ⟨rfl, hn1⟩
  have hB := hn1
  clear hn1
  go_wp2_with fail
  refine (heldL_calls _ _ _w0).mono ?_
  rintro e w' ⟨rfl, rfl⟩
  rw [X.out]
  go_wp2_with fail
  refine (heldL_calls _ _ _w1).mono ?_
  rintro e w' ⟨rfl, rfl⟩
  rw [Y.out]
  go_wp2_with fail
  refine (turnL_calls _ _ _ _ (by omega) (by omega) (by omega) (by omega) (by omega) (by omega)).mono ?_
  rintro e wn2 ⟨rfl, hn2⟩
  replace hB := bnext hB hn2
  clear hn2
  go_wp2_with fail
  refine (rturnL_calls _ _ _ _ (by omega) (by omega) (by omega) (by omega)).mono ?_
  rintro e w' ⟨rfl, rfl⟩
  go_wp2_with fail
  refine (part_out _ _ _ (by omega) (by omega) (by omega)).mono ?_
  rintro e w' ⟨rfl, rfl⟩
  go_wp2_with (first
    | (go_at_call 43; refine (factors_zero _ _ (by omega)).mono ?_; rintro e wf ⟨rfl, hf⟩; have hB1 := bnext hB hf; clear hf hB)
    | (go_at_call 37; refine (turn_some _ _ _ _ (by omega) (by omega) (by omega) (by omega) (by omega) (by omega)).mono ?_; rintro e wf ⟨g1, g2, rfl, hf⟩; have hB2 := bnext hB1 hf; clear hf hB1)
    | (go_at_call 40; refine (back_some _ _ _ _ (by omega) (by omega) (by omega) (by omega) (by omega) (by omega)).mono ?_; rintro e wf ⟨g3, g4, rfl, hf⟩; have hB3 := bnext hB2 hf; clear hf hB2))
  all_goals (go_ret; refine ⟨ret_true ?_, hB3⟩; first | rfl | (simp; omega))

set_option maxRecDepth 100000 in
set_option maxHeartbeats 1000000 in
theorem liftPlays_low_f1 (a0 : Int) (a1 : Int) (a2 : Int) (a3 : Int) (_w0 : (Lit.int .i64 a0).wf = true) (_w1 : (Lit.int .i64 a1).wf = true) (_w2 : (Lit.int .i64 a2).wf = true) (_w3 : (Lit.int .i64 a3).wf = true) (w : World) (mc : a3 < 0) (fc : a0 < -1099511627776) :
    Calls Try.prog 15 #[.int .i64 a0, .int .i64 a1, .int .i64 a2, .int .i64 a3] w (LawTrue w) := by
  have hb0 := heldL_bd a0
  have hb1 := heldL_bd a1
  have hk := i64_bounds _w2
  have hm := i64_bounds _w3
  have k0 := i64_bounds _w0
  have k1 := i64_bounds _w1
  generalize hx : heldL a0 = x at *
  generalize hy : heldL a1 = y at *
  have X := Lib.hid hx
  have Y := Lib.hid hy
  clear hx hy
  go_enter Try.func15, Try.ntmps15
  go_wp2_with fail
  refine (awakeL_calls _).mono ?_
  rintro e wn1 ⟨rfl, hn1⟩
  have hB := hn1
  clear hn1
  go_wp2_with fail
  refine (heldL_calls _ _ _w0).mono ?_
  rintro e w' ⟨rfl, rfl⟩
  rw [X.out]
  go_wp2_with fail
  refine (heldL_calls _ _ _w1).mono ?_
  rintro e w' ⟨rfl, rfl⟩
  rw [Y.out]
  go_wp2_with fail
  refine (turnL_calls _ _ _ _ (by omega) (by omega) (by omega) (by omega) (by omega) (by omega)).mono ?_
  rintro e wn3 ⟨rfl, hn3⟩
  replace hB := bnext hB hn3
  clear hn3
  go_wp2_with fail
  refine (rturnL_calls _ _ _ _ (by omega) (by omega) (by omega) (by omega)).mono ?_
  rintro e w' ⟨rfl, rfl⟩
  go_wp2_with fail
  refine (part_out _ _ _ (by omega) (by omega) (by omega)).mono ?_
  rintro e w' ⟨rfl, rfl⟩
  go_wp2_with (first
    | (go_at_call 43; refine (factors_zero _ _ (by omega)).mono ?_; rintro e wf ⟨rfl, hf⟩; have hB1 := bnext hB hf; clear hf hB)
    | (go_at_call 37; refine (turnL_stays _ _ _ _ (by omega)).mono ?_; rintro e wf ⟨rfl, hf⟩; have hB2 := bnext hB1 hf; clear hf hB1)
    | (go_at_call 40; refine (backL_stays _ _ _ _ (by omega)).mono ?_; rintro e wf ⟨rfl, hf⟩; have hB3 := bnext hB2 hf; clear hf hB2))
  all_goals (go_ret; refine ⟨ret_true ?_, hB3⟩; first | rfl | (simp; omega))

set_option maxRecDepth 100000 in
set_option maxHeartbeats 1000000 in
theorem liftPlays_low_f2 (a0 : Int) (a1 : Int) (a2 : Int) (a3 : Int) (_w0 : (Lit.int .i64 a0).wf = true) (_w1 : (Lit.int .i64 a1).wf = true) (_w2 : (Lit.int .i64 a2).wf = true) (_w3 : (Lit.int .i64 a3).wf = true) (w : World) (mc : a3 < 0) (fc : 1099511627776 < a0) :
    Calls Try.prog 15 #[.int .i64 a0, .int .i64 a1, .int .i64 a2, .int .i64 a3] w (LawTrue w) := by
  have hb0 := heldL_bd a0
  have hb1 := heldL_bd a1
  have hk := i64_bounds _w2
  have hm := i64_bounds _w3
  have k0 := i64_bounds _w0
  have k1 := i64_bounds _w1
  generalize hx : heldL a0 = x at *
  generalize hy : heldL a1 = y at *
  have X := Lib.hid hx
  have Y := Lib.hid hy
  clear hx hy
  go_enter Try.func15, Try.ntmps15
  go_wp2_with fail
  refine (awakeL_calls _).mono ?_
  rintro e wn1 ⟨rfl, hn1⟩
  have hB := hn1
  clear hn1
  go_wp2_with fail
  refine (heldL_calls _ _ _w0).mono ?_
  rintro e w' ⟨rfl, rfl⟩
  rw [X.out]
  go_wp2_with fail
  refine (heldL_calls _ _ _w1).mono ?_
  rintro e w' ⟨rfl, rfl⟩
  rw [Y.out]
  go_wp2_with fail
  refine (turnL_calls _ _ _ _ (by omega) (by omega) (by omega) (by omega) (by omega) (by omega)).mono ?_
  rintro e wn4 ⟨rfl, hn4⟩
  replace hB := bnext hB hn4
  clear hn4
  go_wp2_with fail
  refine (rturnL_calls _ _ _ _ (by omega) (by omega) (by omega) (by omega)).mono ?_
  rintro e w' ⟨rfl, rfl⟩
  go_wp2_with fail
  refine (part_out _ _ _ (by omega) (by omega) (by omega)).mono ?_
  rintro e w' ⟨rfl, rfl⟩
  go_wp2_with (first
    | (go_at_call 43; refine (factors_zero _ _ (by omega)).mono ?_; rintro e wf ⟨rfl, hf⟩; have hB1 := bnext hB hf; clear hf hB)
    | (go_at_call 37; refine (turnL_stays _ _ _ _ (by omega)).mono ?_; rintro e wf ⟨rfl, hf⟩; have hB2 := bnext hB1 hf; clear hf hB1)
    | (go_at_call 40; refine (backL_stays _ _ _ _ (by omega)).mono ?_; rintro e wf ⟨rfl, hf⟩; have hB3 := bnext hB2 hf; clear hf hB2))
  all_goals (go_ret; refine ⟨ret_true ?_, hB3⟩; first | rfl | (simp; omega))

set_option maxRecDepth 100000 in
set_option maxHeartbeats 1000000 in
theorem liftPlays_low_f3 (a0 : Int) (a1 : Int) (a2 : Int) (a3 : Int) (_w0 : (Lit.int .i64 a0).wf = true) (_w1 : (Lit.int .i64 a1).wf = true) (_w2 : (Lit.int .i64 a2).wf = true) (_w3 : (Lit.int .i64 a3).wf = true) (w : World) (mc : a3 < 0) (fc : (-1099511627776 ≤ a0 ∧ a0 ≤ 1099511627776) ∧ a1 < -1099511627776) :
    Calls Try.prog 15 #[.int .i64 a0, .int .i64 a1, .int .i64 a2, .int .i64 a3] w (LawTrue w) := by
  have hb0 := heldL_bd a0
  have hb1 := heldL_bd a1
  have hk := i64_bounds _w2
  have hm := i64_bounds _w3
  have k0 := i64_bounds _w0
  have k1 := i64_bounds _w1
  generalize hx : heldL a0 = x at *
  generalize hy : heldL a1 = y at *
  have X := Lib.hid hx
  have Y := Lib.hid hy
  clear hx hy
  go_enter Try.func15, Try.ntmps15
  go_wp2_with fail
  refine (awakeL_calls _).mono ?_
  rintro e wn1 ⟨rfl, hn1⟩
  have hB := hn1
  clear hn1
  go_wp2_with fail
  refine (heldL_calls _ _ _w0).mono ?_
  rintro e w' ⟨rfl, rfl⟩
  rw [X.out]
  go_wp2_with fail
  refine (heldL_calls _ _ _w1).mono ?_
  rintro e w' ⟨rfl, rfl⟩
  rw [Y.out]
  go_wp2_with fail
  refine (turnL_calls _ _ _ _ (by omega) (by omega) (by omega) (by omega) (by omega) (by omega)).mono ?_
  rintro e wn5 ⟨rfl, hn5⟩
  replace hB := bnext hB hn5
  clear hn5
  go_wp2_with fail
  refine (rturnL_calls _ _ _ _ (by omega) (by omega) (by omega) (by omega)).mono ?_
  rintro e w' ⟨rfl, rfl⟩
  go_wp2_with fail
  refine (part_out _ _ _ (by omega) (by omega) (by omega)).mono ?_
  rintro e w' ⟨rfl, rfl⟩
  go_wp2_with (first
    | (go_at_call 43; refine (factors_zero _ _ (by omega)).mono ?_; rintro e wf ⟨rfl, hf⟩; have hB1 := bnext hB hf; clear hf hB)
    | (go_at_call 37; refine (turnL_stays _ _ _ _ (by omega)).mono ?_; rintro e wf ⟨rfl, hf⟩; have hB2 := bnext hB1 hf; clear hf hB1)
    | (go_at_call 40; refine (backL_stays _ _ _ _ (by omega)).mono ?_; rintro e wf ⟨rfl, hf⟩; have hB3 := bnext hB2 hf; clear hf hB2))
  all_goals (go_ret; refine ⟨ret_true ?_, hB3⟩; first | rfl | (simp; omega))

set_option maxRecDepth 100000 in
set_option maxHeartbeats 1000000 in
theorem liftPlays_low_f4 (a0 : Int) (a1 : Int) (a2 : Int) (a3 : Int) (_w0 : (Lit.int .i64 a0).wf = true) (_w1 : (Lit.int .i64 a1).wf = true) (_w2 : (Lit.int .i64 a2).wf = true) (_w3 : (Lit.int .i64 a3).wf = true) (w : World) (mc : a3 < 0) (fc : (-1099511627776 ≤ a0 ∧ a0 ≤ 1099511627776) ∧ 1099511627776 < a1) :
    Calls Try.prog 15 #[.int .i64 a0, .int .i64 a1, .int .i64 a2, .int .i64 a3] w (LawTrue w) := by
  have hb0 := heldL_bd a0
  have hb1 := heldL_bd a1
  have hk := i64_bounds _w2
  have hm := i64_bounds _w3
  have k0 := i64_bounds _w0
  have k1 := i64_bounds _w1
  generalize hx : heldL a0 = x at *
  generalize hy : heldL a1 = y at *
  have X := Lib.hid hx
  have Y := Lib.hid hy
  clear hx hy
  go_enter Try.func15, Try.ntmps15
  go_wp2_with fail
  refine (awakeL_calls _).mono ?_
  rintro e wn1 ⟨rfl, hn1⟩
  have hB := hn1
  clear hn1
  go_wp2_with fail
  refine (heldL_calls _ _ _w0).mono ?_
  rintro e w' ⟨rfl, rfl⟩
  rw [X.out]
  go_wp2_with fail
  refine (heldL_calls _ _ _w1).mono ?_
  rintro e w' ⟨rfl, rfl⟩
  rw [Y.out]
  go_wp2_with fail
  refine (turnL_calls _ _ _ _ (by omega) (by omega) (by omega) (by omega) (by omega) (by omega)).mono ?_
  rintro e wn6 ⟨rfl, hn6⟩
  replace hB := bnext hB hn6
  clear hn6
  go_wp2_with fail
  refine (rturnL_calls _ _ _ _ (by omega) (by omega) (by omega) (by omega)).mono ?_
  rintro e w' ⟨rfl, rfl⟩
  go_wp2_with fail
  refine (part_out _ _ _ (by omega) (by omega) (by omega)).mono ?_
  rintro e w' ⟨rfl, rfl⟩
  go_wp2_with (first
    | (go_at_call 43; refine (factors_zero _ _ (by omega)).mono ?_; rintro e wf ⟨rfl, hf⟩; have hB1 := bnext hB hf; clear hf hB)
    | (go_at_call 37; refine (turnL_stays _ _ _ _ (by omega)).mono ?_; rintro e wf ⟨rfl, hf⟩; have hB2 := bnext hB1 hf; clear hf hB1)
    | (go_at_call 40; refine (backL_stays _ _ _ _ (by omega)).mono ?_; rintro e wf ⟨rfl, hf⟩; have hB3 := bnext hB2 hf; clear hf hB2))
  all_goals (go_ret; refine ⟨ret_true ?_, hB3⟩; first | rfl | (simp; omega))

set_option maxRecDepth 100000 in
set_option maxHeartbeats 1000000 in
theorem liftPlays_in_may (a0 : Int) (a1 : Int) (a2 : Int) (a3 : Int) (_w0 : (Lit.int .i64 a0).wf = true) (_w1 : (Lit.int .i64 a1).wf = true) (_w2 : (Lit.int .i64 a2).wf = true) (_w3 : (Lit.int .i64 a3).wf = true) (w : World) (mc : 0 ≤ a3 ∧ a3 ≤ 64) (fc : (-1099511627776 ≤ a0 ∧ a0 ≤ 1099511627776) ∧ (-1099511627776 ≤ a1 ∧ a1 ≤ 1099511627776)) :
    Calls Try.prog 15 #[.int .i64 a0, .int .i64 a1, .int .i64 a2, .int .i64 a3] w (LawTrue w) := by
  have hb0 := heldL_bd a0
  have hb1 := heldL_bd a1
  have hk := i64_bounds _w2
  have hm := i64_bounds _w3
  have k0 := i64_bounds _w0
  have k1 := i64_bounds _w1
  generalize hx : heldL a0 = x at *
  generalize hy : heldL a1 = y at *
  have X := Lib.hid hx
  have Y := Lib.hid hy
  clear hx hy
  go_enter Try.func15, Try.ntmps15
  go_wp2_with fail
  refine (awakeL_calls _).mono ?_
  rintro e wn1 ⟨rfl, hn1⟩
  have hB := hn1
  clear hn1
  go_wp2_with fail
  refine (heldL_calls _ _ _w0).mono ?_
  rintro e w' ⟨rfl, rfl⟩
  rw [X.out]
  go_wp2_with fail
  refine (heldL_calls _ _ _w1).mono ?_
  rintro e w' ⟨rfl, rfl⟩
  rw [Y.out]
  go_wp2_with fail
  refine (turnL_calls _ _ _ _ (by omega) (by omega) (by omega) (by omega) (by omega) (by omega)).mono ?_
  rintro e wn7 ⟨rfl, hn7⟩
  replace hB := bnext hB hn7
  clear hn7
  go_wp2_with fail
  refine (rturnL_calls _ _ _ _ (by omega) (by omega) (by omega) (by omega)).mono ?_
  rintro e w' ⟨rfl, rfl⟩
  go_wp2_with fail
  refine (part_calls _ _ _ (by omega) (by omega) (by omega) (by omega)).mono ?_
  rintro e w' ⟨rfl, rfl⟩
  go_wp2_with (first
    | (go_at_call 39; refine (part_calls _ _ _ (by omega) (by omega) (by omega) (by omega)).mono ?_; rintro e w' ⟨rfl, rfl⟩)
    | (go_at_call 42; refine (rpart_calls _ _ _ (by omega) (by omega) (by omega) (by omega)).mono ?_; rintro e w' ⟨rfl, rfl⟩)
    | (go_at_call 43; refine (factors_any _ _ (by omega) (by omega)).mono ?_; rintro e wf ⟨rfl, hf⟩; have hB1 := bnext hB hf; clear hf hB)
    | (go_at_call 44; refine (rfactors_calls _ _ (by omega) (by omega)).mono ?_; rintro e w' ⟨rfl, rfl⟩)
    | (go_at_call 37; refine (turn_some _ _ _ _ (by omega) (by omega) (by omega) (by omega) (by omega) (by omega)).mono ?_; rintro e wf ⟨g1, g2, rfl, hf⟩; have hB2 := bnext hB1 hf; clear hf hB1)
    | (go_at_call 40; refine (back_some _ _ _ _ (by omega) (by omega) (by omega) (by omega) (by omega) (by omega)).mono ?_; rintro e wf ⟨g3, g4, rfl, hf⟩; have hB3 := bnext hB2 hf; clear hf hB2))
  all_goals (go_ret; refine ⟨ret_true ?_, hB3⟩; first | rfl | (simp; omega))

set_option maxRecDepth 100000 in
set_option maxHeartbeats 1000000 in
theorem liftPlays_in_f1 (a0 : Int) (a1 : Int) (a2 : Int) (a3 : Int) (_w0 : (Lit.int .i64 a0).wf = true) (_w1 : (Lit.int .i64 a1).wf = true) (_w2 : (Lit.int .i64 a2).wf = true) (_w3 : (Lit.int .i64 a3).wf = true) (w : World) (mc : 0 ≤ a3 ∧ a3 ≤ 64) (fc : a0 < -1099511627776) :
    Calls Try.prog 15 #[.int .i64 a0, .int .i64 a1, .int .i64 a2, .int .i64 a3] w (LawTrue w) := by
  have hb0 := heldL_bd a0
  have hb1 := heldL_bd a1
  have hk := i64_bounds _w2
  have hm := i64_bounds _w3
  have k0 := i64_bounds _w0
  have k1 := i64_bounds _w1
  generalize hx : heldL a0 = x at *
  generalize hy : heldL a1 = y at *
  have X := Lib.hid hx
  have Y := Lib.hid hy
  clear hx hy
  go_enter Try.func15, Try.ntmps15
  go_wp2_with fail
  refine (awakeL_calls _).mono ?_
  rintro e wn1 ⟨rfl, hn1⟩
  have hB := hn1
  clear hn1
  go_wp2_with fail
  refine (heldL_calls _ _ _w0).mono ?_
  rintro e w' ⟨rfl, rfl⟩
  rw [X.out]
  go_wp2_with fail
  refine (heldL_calls _ _ _w1).mono ?_
  rintro e w' ⟨rfl, rfl⟩
  rw [Y.out]
  go_wp2_with fail
  refine (turnL_calls _ _ _ _ (by omega) (by omega) (by omega) (by omega) (by omega) (by omega)).mono ?_
  rintro e wn8 ⟨rfl, hn8⟩
  replace hB := bnext hB hn8
  clear hn8
  go_wp2_with fail
  refine (rturnL_calls _ _ _ _ (by omega) (by omega) (by omega) (by omega)).mono ?_
  rintro e w' ⟨rfl, rfl⟩
  go_wp2_with fail
  refine (part_calls _ _ _ (by omega) (by omega) (by omega) (by omega)).mono ?_
  rintro e w' ⟨rfl, rfl⟩
  go_wp2_with (first
    | (go_at_call 39; refine (part_calls _ _ _ (by omega) (by omega) (by omega) (by omega)).mono ?_; rintro e w' ⟨rfl, rfl⟩)
    | (go_at_call 42; refine (rpart_calls _ _ _ (by omega) (by omega) (by omega) (by omega)).mono ?_; rintro e w' ⟨rfl, rfl⟩)
    | (go_at_call 43; refine (factors_any _ _ (by omega) (by omega)).mono ?_; rintro e wf ⟨rfl, hf⟩; have hB1 := bnext hB hf; clear hf hB)
    | (go_at_call 44; refine (rfactors_calls _ _ (by omega) (by omega)).mono ?_; rintro e w' ⟨rfl, rfl⟩)
    | (go_at_call 37; refine (turnL_stays _ _ _ _ (by omega)).mono ?_; rintro e wf ⟨rfl, hf⟩; have hB2 := bnext hB1 hf; clear hf hB1)
    | (go_at_call 40; refine (backL_stays _ _ _ _ (by omega)).mono ?_; rintro e wf ⟨rfl, hf⟩; have hB3 := bnext hB2 hf; clear hf hB2))
  all_goals (go_ret; refine ⟨ret_true ?_, hB3⟩; first | rfl | (simp; omega))

set_option maxRecDepth 100000 in
set_option maxHeartbeats 1000000 in
theorem liftPlays_in_f2 (a0 : Int) (a1 : Int) (a2 : Int) (a3 : Int) (_w0 : (Lit.int .i64 a0).wf = true) (_w1 : (Lit.int .i64 a1).wf = true) (_w2 : (Lit.int .i64 a2).wf = true) (_w3 : (Lit.int .i64 a3).wf = true) (w : World) (mc : 0 ≤ a3 ∧ a3 ≤ 64) (fc : 1099511627776 < a0) :
    Calls Try.prog 15 #[.int .i64 a0, .int .i64 a1, .int .i64 a2, .int .i64 a3] w (LawTrue w) := by
  have hb0 := heldL_bd a0
  have hb1 := heldL_bd a1
  have hk := i64_bounds _w2
  have hm := i64_bounds _w3
  have k0 := i64_bounds _w0
  have k1 := i64_bounds _w1
  generalize hx : heldL a0 = x at *
  generalize hy : heldL a1 = y at *
  have X := Lib.hid hx
  have Y := Lib.hid hy
  clear hx hy
  go_enter Try.func15, Try.ntmps15
  go_wp2_with fail
  refine (awakeL_calls _).mono ?_
  rintro e wn1 ⟨rfl, hn1⟩
  have hB := hn1
  clear hn1
  go_wp2_with fail
  refine (heldL_calls _ _ _w0).mono ?_
  rintro e w' ⟨rfl, rfl⟩
  rw [X.out]
  go_wp2_with fail
  refine (heldL_calls _ _ _w1).mono ?_
  rintro e w' ⟨rfl, rfl⟩
  rw [Y.out]
  go_wp2_with fail
  refine (turnL_calls _ _ _ _ (by omega) (by omega) (by omega) (by omega) (by omega) (by omega)).mono ?_
  rintro e wn9 ⟨rfl, hn9⟩
  replace hB := bnext hB hn9
  clear hn9
  go_wp2_with fail
  refine (rturnL_calls _ _ _ _ (by omega) (by omega) (by omega) (by omega)).mono ?_
  rintro e w' ⟨rfl, rfl⟩
  go_wp2_with fail
  refine (part_calls _ _ _ (by omega) (by omega) (by omega) (by omega)).mono ?_
  rintro e w' ⟨rfl, rfl⟩
  go_wp2_with (first
    | (go_at_call 39; refine (part_calls _ _ _ (by omega) (by omega) (by omega) (by omega)).mono ?_; rintro e w' ⟨rfl, rfl⟩)
    | (go_at_call 42; refine (rpart_calls _ _ _ (by omega) (by omega) (by omega) (by omega)).mono ?_; rintro e w' ⟨rfl, rfl⟩)
    | (go_at_call 43; refine (factors_any _ _ (by omega) (by omega)).mono ?_; rintro e wf ⟨rfl, hf⟩; have hB1 := bnext hB hf; clear hf hB)
    | (go_at_call 44; refine (rfactors_calls _ _ (by omega) (by omega)).mono ?_; rintro e w' ⟨rfl, rfl⟩)
    | (go_at_call 37; refine (turnL_stays _ _ _ _ (by omega)).mono ?_; rintro e wf ⟨rfl, hf⟩; have hB2 := bnext hB1 hf; clear hf hB1)
    | (go_at_call 40; refine (backL_stays _ _ _ _ (by omega)).mono ?_; rintro e wf ⟨rfl, hf⟩; have hB3 := bnext hB2 hf; clear hf hB2))
  all_goals (go_ret; refine ⟨ret_true ?_, hB3⟩; first | rfl | (simp; omega))

set_option maxRecDepth 100000 in
set_option maxHeartbeats 1000000 in
theorem liftPlays_in_f3 (a0 : Int) (a1 : Int) (a2 : Int) (a3 : Int) (_w0 : (Lit.int .i64 a0).wf = true) (_w1 : (Lit.int .i64 a1).wf = true) (_w2 : (Lit.int .i64 a2).wf = true) (_w3 : (Lit.int .i64 a3).wf = true) (w : World) (mc : 0 ≤ a3 ∧ a3 ≤ 64) (fc : (-1099511627776 ≤ a0 ∧ a0 ≤ 1099511627776) ∧ a1 < -1099511627776) :
    Calls Try.prog 15 #[.int .i64 a0, .int .i64 a1, .int .i64 a2, .int .i64 a3] w (LawTrue w) := by
  have hb0 := heldL_bd a0
  have hb1 := heldL_bd a1
  have hk := i64_bounds _w2
  have hm := i64_bounds _w3
  have k0 := i64_bounds _w0
  have k1 := i64_bounds _w1
  generalize hx : heldL a0 = x at *
  generalize hy : heldL a1 = y at *
  have X := Lib.hid hx
  have Y := Lib.hid hy
  clear hx hy
  go_enter Try.func15, Try.ntmps15
  go_wp2_with fail
  refine (awakeL_calls _).mono ?_
  rintro e wn1 ⟨rfl, hn1⟩
  have hB := hn1
  clear hn1
  go_wp2_with fail
  refine (heldL_calls _ _ _w0).mono ?_
  rintro e w' ⟨rfl, rfl⟩
  rw [X.out]
  go_wp2_with fail
  refine (heldL_calls _ _ _w1).mono ?_
  rintro e w' ⟨rfl, rfl⟩
  rw [Y.out]
  go_wp2_with fail
  refine (turnL_calls _ _ _ _ (by omega) (by omega) (by omega) (by omega) (by omega) (by omega)).mono ?_
  rintro e wn10 ⟨rfl, hn10⟩
  replace hB := bnext hB hn10
  clear hn10
  go_wp2_with fail
  refine (rturnL_calls _ _ _ _ (by omega) (by omega) (by omega) (by omega)).mono ?_
  rintro e w' ⟨rfl, rfl⟩
  go_wp2_with fail
  refine (part_calls _ _ _ (by omega) (by omega) (by omega) (by omega)).mono ?_
  rintro e w' ⟨rfl, rfl⟩
  go_wp2_with (first
    | (go_at_call 39; refine (part_calls _ _ _ (by omega) (by omega) (by omega) (by omega)).mono ?_; rintro e w' ⟨rfl, rfl⟩)
    | (go_at_call 42; refine (rpart_calls _ _ _ (by omega) (by omega) (by omega) (by omega)).mono ?_; rintro e w' ⟨rfl, rfl⟩)
    | (go_at_call 43; refine (factors_any _ _ (by omega) (by omega)).mono ?_; rintro e wf ⟨rfl, hf⟩; have hB1 := bnext hB hf; clear hf hB)
    | (go_at_call 44; refine (rfactors_calls _ _ (by omega) (by omega)).mono ?_; rintro e w' ⟨rfl, rfl⟩)
    | (go_at_call 37; refine (turnL_stays _ _ _ _ (by omega)).mono ?_; rintro e wf ⟨rfl, hf⟩; have hB2 := bnext hB1 hf; clear hf hB1)
    | (go_at_call 40; refine (backL_stays _ _ _ _ (by omega)).mono ?_; rintro e wf ⟨rfl, hf⟩; have hB3 := bnext hB2 hf; clear hf hB2))
  all_goals (go_ret; refine ⟨ret_true ?_, hB3⟩; first | rfl | (simp; omega))

set_option maxRecDepth 100000 in
set_option maxHeartbeats 1000000 in
theorem liftPlays_in_f4 (a0 : Int) (a1 : Int) (a2 : Int) (a3 : Int) (_w0 : (Lit.int .i64 a0).wf = true) (_w1 : (Lit.int .i64 a1).wf = true) (_w2 : (Lit.int .i64 a2).wf = true) (_w3 : (Lit.int .i64 a3).wf = true) (w : World) (mc : 0 ≤ a3 ∧ a3 ≤ 64) (fc : (-1099511627776 ≤ a0 ∧ a0 ≤ 1099511627776) ∧ 1099511627776 < a1) :
    Calls Try.prog 15 #[.int .i64 a0, .int .i64 a1, .int .i64 a2, .int .i64 a3] w (LawTrue w) := by
  have hb0 := heldL_bd a0
  have hb1 := heldL_bd a1
  have hk := i64_bounds _w2
  have hm := i64_bounds _w3
  have k0 := i64_bounds _w0
  have k1 := i64_bounds _w1
  generalize hx : heldL a0 = x at *
  generalize hy : heldL a1 = y at *
  have X := Lib.hid hx
  have Y := Lib.hid hy
  clear hx hy
  go_enter Try.func15, Try.ntmps15
  go_wp2_with fail
  refine (awakeL_calls _).mono ?_
  rintro e wn1 ⟨rfl, hn1⟩
  have hB := hn1
  clear hn1
  go_wp2_with fail
  refine (heldL_calls _ _ _w0).mono ?_
  rintro e w' ⟨rfl, rfl⟩
  rw [X.out]
  go_wp2_with fail
  refine (heldL_calls _ _ _w1).mono ?_
  rintro e w' ⟨rfl, rfl⟩
  rw [Y.out]
  go_wp2_with fail
  refine (turnL_calls _ _ _ _ (by omega) (by omega) (by omega) (by omega) (by omega) (by omega)).mono ?_
  rintro e wn11 ⟨rfl, hn11⟩
  replace hB := bnext hB hn11
  clear hn11
  go_wp2_with fail
  refine (rturnL_calls _ _ _ _ (by omega) (by omega) (by omega) (by omega)).mono ?_
  rintro e w' ⟨rfl, rfl⟩
  go_wp2_with fail
  refine (part_calls _ _ _ (by omega) (by omega) (by omega) (by omega)).mono ?_
  rintro e w' ⟨rfl, rfl⟩
  go_wp2_with (first
    | (go_at_call 39; refine (part_calls _ _ _ (by omega) (by omega) (by omega) (by omega)).mono ?_; rintro e w' ⟨rfl, rfl⟩)
    | (go_at_call 42; refine (rpart_calls _ _ _ (by omega) (by omega) (by omega) (by omega)).mono ?_; rintro e w' ⟨rfl, rfl⟩)
    | (go_at_call 43; refine (factors_any _ _ (by omega) (by omega)).mono ?_; rintro e wf ⟨rfl, hf⟩; have hB1 := bnext hB hf; clear hf hB)
    | (go_at_call 44; refine (rfactors_calls _ _ (by omega) (by omega)).mono ?_; rintro e w' ⟨rfl, rfl⟩)
    | (go_at_call 37; refine (turnL_stays _ _ _ _ (by omega)).mono ?_; rintro e wf ⟨rfl, hf⟩; have hB2 := bnext hB1 hf; clear hf hB1)
    | (go_at_call 40; refine (backL_stays _ _ _ _ (by omega)).mono ?_; rintro e wf ⟨rfl, hf⟩; have hB3 := bnext hB2 hf; clear hf hB2))
  all_goals (go_ret; refine ⟨ret_true ?_, hB3⟩; first | rfl | (simp; omega))

set_option maxRecDepth 100000 in
set_option maxHeartbeats 1000000 in
theorem liftPlays_mid_may (a0 : Int) (a1 : Int) (a2 : Int) (a3 : Int) (_w0 : (Lit.int .i64 a0).wf = true) (_w1 : (Lit.int .i64 a1).wf = true) (_w2 : (Lit.int .i64 a2).wf = true) (_w3 : (Lit.int .i64 a3).wf = true) (w : World) (mc : 64 < a3 ∧ a3 ≤ 32768) (fc : (-1099511627776 ≤ a0 ∧ a0 ≤ 1099511627776) ∧ (-1099511627776 ≤ a1 ∧ a1 ≤ 1099511627776)) :
    Calls Try.prog 15 #[.int .i64 a0, .int .i64 a1, .int .i64 a2, .int .i64 a3] w (LawTrue w) := by
  have hb0 := heldL_bd a0
  have hb1 := heldL_bd a1
  have hk := i64_bounds _w2
  have hm := i64_bounds _w3
  have k0 := i64_bounds _w0
  have k1 := i64_bounds _w1
  generalize hx : heldL a0 = x at *
  generalize hy : heldL a1 = y at *
  have X := Lib.hid hx
  have Y := Lib.hid hy
  clear hx hy
  go_enter Try.func15, Try.ntmps15
  go_wp2_with fail
  refine (awakeL_calls _).mono ?_
  rintro e wn1 ⟨rfl, hn1⟩
  have hB := hn1
  clear hn1
  go_wp2_with fail
  refine (heldL_calls _ _ _w0).mono ?_
  rintro e w' ⟨rfl, rfl⟩
  rw [X.out]
  go_wp2_with fail
  refine (heldL_calls _ _ _w1).mono ?_
  rintro e w' ⟨rfl, rfl⟩
  rw [Y.out]
  go_wp2_with fail
  refine (turnL_calls _ _ _ _ (by omega) (by omega) (by omega) (by omega) (by omega) (by omega)).mono ?_
  rintro e wn12 ⟨rfl, hn12⟩
  replace hB := bnext hB hn12
  clear hn12
  go_wp2_with fail
  refine (rturnL_calls _ _ _ _ (by omega) (by omega) (by omega) (by omega)).mono ?_
  rintro e w' ⟨rfl, rfl⟩
  go_wp2_with fail
  refine (part_calls _ _ _ (by omega) (by omega) (by omega) (by omega)).mono ?_
  rintro e w' ⟨rfl, rfl⟩
  go_wp2_with (first
    | (go_at_call 39; refine (part_calls _ _ _ (by omega) (by omega) (by omega) (by omega)).mono ?_; rintro e w' ⟨rfl, rfl⟩)
    | (go_at_call 42; refine (rpart_calls _ _ _ (by omega) (by omega) (by omega) (by omega)).mono ?_; rintro e w' ⟨rfl, rfl⟩)
    | (go_at_call 43; refine (factors_zero _ _ (by omega)).mono ?_; rintro e wf ⟨rfl, hf⟩; have hB1 := bnext hB hf; clear hf hB)
    | (go_at_call 37; refine (turn_some _ _ _ _ (by omega) (by omega) (by omega) (by omega) (by omega) (by omega)).mono ?_; rintro e wf ⟨g1, g2, rfl, hf⟩; have hB2 := bnext hB1 hf; clear hf hB1)
    | (go_at_call 40; refine (back_some _ _ _ _ (by omega) (by omega) (by omega) (by omega) (by omega) (by omega)).mono ?_; rintro e wf ⟨g3, g4, rfl, hf⟩; have hB3 := bnext hB2 hf; clear hf hB2))
  all_goals (go_ret; refine ⟨ret_true ?_, hB3⟩; first | rfl | (simp; omega))

set_option maxRecDepth 100000 in
set_option maxHeartbeats 1000000 in
theorem liftPlays_mid_f1 (a0 : Int) (a1 : Int) (a2 : Int) (a3 : Int) (_w0 : (Lit.int .i64 a0).wf = true) (_w1 : (Lit.int .i64 a1).wf = true) (_w2 : (Lit.int .i64 a2).wf = true) (_w3 : (Lit.int .i64 a3).wf = true) (w : World) (mc : 64 < a3 ∧ a3 ≤ 32768) (fc : a0 < -1099511627776) :
    Calls Try.prog 15 #[.int .i64 a0, .int .i64 a1, .int .i64 a2, .int .i64 a3] w (LawTrue w) := by
  have hb0 := heldL_bd a0
  have hb1 := heldL_bd a1
  have hk := i64_bounds _w2
  have hm := i64_bounds _w3
  have k0 := i64_bounds _w0
  have k1 := i64_bounds _w1
  generalize hx : heldL a0 = x at *
  generalize hy : heldL a1 = y at *
  have X := Lib.hid hx
  have Y := Lib.hid hy
  clear hx hy
  go_enter Try.func15, Try.ntmps15
  go_wp2_with fail
  refine (awakeL_calls _).mono ?_
  rintro e wn1 ⟨rfl, hn1⟩
  have hB := hn1
  clear hn1
  go_wp2_with fail
  refine (heldL_calls _ _ _w0).mono ?_
  rintro e w' ⟨rfl, rfl⟩
  rw [X.out]
  go_wp2_with fail
  refine (heldL_calls _ _ _w1).mono ?_
  rintro e w' ⟨rfl, rfl⟩
  rw [Y.out]
  go_wp2_with fail
  refine (turnL_calls _ _ _ _ (by omega) (by omega) (by omega) (by omega) (by omega) (by omega)).mono ?_
  rintro e wn13 ⟨rfl, hn13⟩
  replace hB := bnext hB hn13
  clear hn13
  go_wp2_with fail
  refine (rturnL_calls _ _ _ _ (by omega) (by omega) (by omega) (by omega)).mono ?_
  rintro e w' ⟨rfl, rfl⟩
  go_wp2_with fail
  refine (part_calls _ _ _ (by omega) (by omega) (by omega) (by omega)).mono ?_
  rintro e w' ⟨rfl, rfl⟩
  go_wp2_with (first
    | (go_at_call 39; refine (part_calls _ _ _ (by omega) (by omega) (by omega) (by omega)).mono ?_; rintro e w' ⟨rfl, rfl⟩)
    | (go_at_call 42; refine (rpart_calls _ _ _ (by omega) (by omega) (by omega) (by omega)).mono ?_; rintro e w' ⟨rfl, rfl⟩)
    | (go_at_call 43; refine (factors_zero _ _ (by omega)).mono ?_; rintro e wf ⟨rfl, hf⟩; have hB1 := bnext hB hf; clear hf hB)
    | (go_at_call 37; refine (turnL_stays _ _ _ _ (by omega)).mono ?_; rintro e wf ⟨rfl, hf⟩; have hB2 := bnext hB1 hf; clear hf hB1)
    | (go_at_call 40; refine (backL_stays _ _ _ _ (by omega)).mono ?_; rintro e wf ⟨rfl, hf⟩; have hB3 := bnext hB2 hf; clear hf hB2))
  all_goals (go_ret; refine ⟨ret_true ?_, hB3⟩; first | rfl | (simp; omega))

set_option maxRecDepth 100000 in
set_option maxHeartbeats 1000000 in
theorem liftPlays_mid_f2 (a0 : Int) (a1 : Int) (a2 : Int) (a3 : Int) (_w0 : (Lit.int .i64 a0).wf = true) (_w1 : (Lit.int .i64 a1).wf = true) (_w2 : (Lit.int .i64 a2).wf = true) (_w3 : (Lit.int .i64 a3).wf = true) (w : World) (mc : 64 < a3 ∧ a3 ≤ 32768) (fc : 1099511627776 < a0) :
    Calls Try.prog 15 #[.int .i64 a0, .int .i64 a1, .int .i64 a2, .int .i64 a3] w (LawTrue w) := by
  have hb0 := heldL_bd a0
  have hb1 := heldL_bd a1
  have hk := i64_bounds _w2
  have hm := i64_bounds _w3
  have k0 := i64_bounds _w0
  have k1 := i64_bounds _w1
  generalize hx : heldL a0 = x at *
  generalize hy : heldL a1 = y at *
  have X := Lib.hid hx
  have Y := Lib.hid hy
  clear hx hy
  go_enter Try.func15, Try.ntmps15
  go_wp2_with fail
  refine (awakeL_calls _).mono ?_
  rintro e wn1 ⟨rfl, hn1⟩
  have hB := hn1
  clear hn1
  go_wp2_with fail
  refine (heldL_calls _ _ _w0).mono ?_
  rintro e w' ⟨rfl, rfl⟩
  rw [X.out]
  go_wp2_with fail
  refine (heldL_calls _ _ _w1).mono ?_
  rintro e w' ⟨rfl, rfl⟩
  rw [Y.out]
  go_wp2_with fail
  refine (turnL_calls _ _ _ _ (by omega) (by omega) (by omega) (by omega) (by omega) (by omega)).mono ?_
  rintro e wn14 ⟨rfl, hn14⟩
  replace hB := bnext hB hn14
  clear hn14
  go_wp2_with fail
  refine (rturnL_calls _ _ _ _ (by omega) (by omega) (by omega) (by omega)).mono ?_
  rintro e w' ⟨rfl, rfl⟩
  go_wp2_with fail
  refine (part_calls _ _ _ (by omega) (by omega) (by omega) (by omega)).mono ?_
  rintro e w' ⟨rfl, rfl⟩
  go_wp2_with (first
    | (go_at_call 39; refine (part_calls _ _ _ (by omega) (by omega) (by omega) (by omega)).mono ?_; rintro e w' ⟨rfl, rfl⟩)
    | (go_at_call 42; refine (rpart_calls _ _ _ (by omega) (by omega) (by omega) (by omega)).mono ?_; rintro e w' ⟨rfl, rfl⟩)
    | (go_at_call 43; refine (factors_zero _ _ (by omega)).mono ?_; rintro e wf ⟨rfl, hf⟩; have hB1 := bnext hB hf; clear hf hB)
    | (go_at_call 37; refine (turnL_stays _ _ _ _ (by omega)).mono ?_; rintro e wf ⟨rfl, hf⟩; have hB2 := bnext hB1 hf; clear hf hB1)
    | (go_at_call 40; refine (backL_stays _ _ _ _ (by omega)).mono ?_; rintro e wf ⟨rfl, hf⟩; have hB3 := bnext hB2 hf; clear hf hB2))
  all_goals (go_ret; refine ⟨ret_true ?_, hB3⟩; first | rfl | (simp; omega))

set_option maxRecDepth 100000 in
set_option maxHeartbeats 1000000 in
theorem liftPlays_mid_f3 (a0 : Int) (a1 : Int) (a2 : Int) (a3 : Int) (_w0 : (Lit.int .i64 a0).wf = true) (_w1 : (Lit.int .i64 a1).wf = true) (_w2 : (Lit.int .i64 a2).wf = true) (_w3 : (Lit.int .i64 a3).wf = true) (w : World) (mc : 64 < a3 ∧ a3 ≤ 32768) (fc : (-1099511627776 ≤ a0 ∧ a0 ≤ 1099511627776) ∧ a1 < -1099511627776) :
    Calls Try.prog 15 #[.int .i64 a0, .int .i64 a1, .int .i64 a2, .int .i64 a3] w (LawTrue w) := by
  have hb0 := heldL_bd a0
  have hb1 := heldL_bd a1
  have hk := i64_bounds _w2
  have hm := i64_bounds _w3
  have k0 := i64_bounds _w0
  have k1 := i64_bounds _w1
  generalize hx : heldL a0 = x at *
  generalize hy : heldL a1 = y at *
  have X := Lib.hid hx
  have Y := Lib.hid hy
  clear hx hy
  go_enter Try.func15, Try.ntmps15
  go_wp2_with fail
  refine (awakeL_calls _).mono ?_
  rintro e wn1 ⟨rfl, hn1⟩
  have hB := hn1
  clear hn1
  go_wp2_with fail
  refine (heldL_calls _ _ _w0).mono ?_
  rintro e w' ⟨rfl, rfl⟩
  rw [X.out]
  go_wp2_with fail
  refine (heldL_calls _ _ _w1).mono ?_
  rintro e w' ⟨rfl, rfl⟩
  rw [Y.out]
  go_wp2_with fail
  refine (turnL_calls _ _ _ _ (by omega) (by omega) (by omega) (by omega) (by omega) (by omega)).mono ?_
  rintro e wn15 ⟨rfl, hn15⟩
  replace hB := bnext hB hn15
  clear hn15
  go_wp2_with fail
  refine (rturnL_calls _ _ _ _ (by omega) (by omega) (by omega) (by omega)).mono ?_
  rintro e w' ⟨rfl, rfl⟩
  go_wp2_with fail
  refine (part_calls _ _ _ (by omega) (by omega) (by omega) (by omega)).mono ?_
  rintro e w' ⟨rfl, rfl⟩
  go_wp2_with (first
    | (go_at_call 39; refine (part_calls _ _ _ (by omega) (by omega) (by omega) (by omega)).mono ?_; rintro e w' ⟨rfl, rfl⟩)
    | (go_at_call 42; refine (rpart_calls _ _ _ (by omega) (by omega) (by omega) (by omega)).mono ?_; rintro e w' ⟨rfl, rfl⟩)
    | (go_at_call 43; refine (factors_zero _ _ (by omega)).mono ?_; rintro e wf ⟨rfl, hf⟩; have hB1 := bnext hB hf; clear hf hB)
    | (go_at_call 37; refine (turnL_stays _ _ _ _ (by omega)).mono ?_; rintro e wf ⟨rfl, hf⟩; have hB2 := bnext hB1 hf; clear hf hB1)
    | (go_at_call 40; refine (backL_stays _ _ _ _ (by omega)).mono ?_; rintro e wf ⟨rfl, hf⟩; have hB3 := bnext hB2 hf; clear hf hB2))
  all_goals (go_ret; refine ⟨ret_true ?_, hB3⟩; first | rfl | (simp; omega))

set_option maxRecDepth 100000 in
set_option maxHeartbeats 1000000 in
theorem liftPlays_mid_f4 (a0 : Int) (a1 : Int) (a2 : Int) (a3 : Int) (_w0 : (Lit.int .i64 a0).wf = true) (_w1 : (Lit.int .i64 a1).wf = true) (_w2 : (Lit.int .i64 a2).wf = true) (_w3 : (Lit.int .i64 a3).wf = true) (w : World) (mc : 64 < a3 ∧ a3 ≤ 32768) (fc : (-1099511627776 ≤ a0 ∧ a0 ≤ 1099511627776) ∧ 1099511627776 < a1) :
    Calls Try.prog 15 #[.int .i64 a0, .int .i64 a1, .int .i64 a2, .int .i64 a3] w (LawTrue w) := by
  have hb0 := heldL_bd a0
  have hb1 := heldL_bd a1
  have hk := i64_bounds _w2
  have hm := i64_bounds _w3
  have k0 := i64_bounds _w0
  have k1 := i64_bounds _w1
  generalize hx : heldL a0 = x at *
  generalize hy : heldL a1 = y at *
  have X := Lib.hid hx
  have Y := Lib.hid hy
  clear hx hy
  go_enter Try.func15, Try.ntmps15
  go_wp2_with fail
  refine (awakeL_calls _).mono ?_
  rintro e wn1 ⟨rfl, hn1⟩
  have hB := hn1
  clear hn1
  go_wp2_with fail
  refine (heldL_calls _ _ _w0).mono ?_
  rintro e w' ⟨rfl, rfl⟩
  rw [X.out]
  go_wp2_with fail
  refine (heldL_calls _ _ _w1).mono ?_
  rintro e w' ⟨rfl, rfl⟩
  rw [Y.out]
  go_wp2_with fail
  refine (turnL_calls _ _ _ _ (by omega) (by omega) (by omega) (by omega) (by omega) (by omega)).mono ?_
  rintro e wn16 ⟨rfl, hn16⟩
  replace hB := bnext hB hn16
  clear hn16
  go_wp2_with fail
  refine (rturnL_calls _ _ _ _ (by omega) (by omega) (by omega) (by omega)).mono ?_
  rintro e w' ⟨rfl, rfl⟩
  go_wp2_with fail
  refine (part_calls _ _ _ (by omega) (by omega) (by omega) (by omega)).mono ?_
  rintro e w' ⟨rfl, rfl⟩
  go_wp2_with (first
    | (go_at_call 39; refine (part_calls _ _ _ (by omega) (by omega) (by omega) (by omega)).mono ?_; rintro e w' ⟨rfl, rfl⟩)
    | (go_at_call 42; refine (rpart_calls _ _ _ (by omega) (by omega) (by omega) (by omega)).mono ?_; rintro e w' ⟨rfl, rfl⟩)
    | (go_at_call 43; refine (factors_zero _ _ (by omega)).mono ?_; rintro e wf ⟨rfl, hf⟩; have hB1 := bnext hB hf; clear hf hB)
    | (go_at_call 37; refine (turnL_stays _ _ _ _ (by omega)).mono ?_; rintro e wf ⟨rfl, hf⟩; have hB2 := bnext hB1 hf; clear hf hB1)
    | (go_at_call 40; refine (backL_stays _ _ _ _ (by omega)).mono ?_; rintro e wf ⟨rfl, hf⟩; have hB3 := bnext hB2 hf; clear hf hB2))
  all_goals (go_ret; refine ⟨ret_true ?_, hB3⟩; first | rfl | (simp; omega))

set_option maxRecDepth 100000 in
set_option maxHeartbeats 1000000 in
theorem liftPlays_high_may (a0 : Int) (a1 : Int) (a2 : Int) (a3 : Int) (_w0 : (Lit.int .i64 a0).wf = true) (_w1 : (Lit.int .i64 a1).wf = true) (_w2 : (Lit.int .i64 a2).wf = true) (_w3 : (Lit.int .i64 a3).wf = true) (w : World) (mc : 32768 < a3) (fc : (-1099511627776 ≤ a0 ∧ a0 ≤ 1099511627776) ∧ (-1099511627776 ≤ a1 ∧ a1 ≤ 1099511627776)) :
    Calls Try.prog 15 #[.int .i64 a0, .int .i64 a1, .int .i64 a2, .int .i64 a3] w (LawTrue w) := by
  have hb0 := heldL_bd a0
  have hb1 := heldL_bd a1
  have hk := i64_bounds _w2
  have hm := i64_bounds _w3
  have k0 := i64_bounds _w0
  have k1 := i64_bounds _w1
  generalize hx : heldL a0 = x at *
  generalize hy : heldL a1 = y at *
  have X := Lib.hid hx
  have Y := Lib.hid hy
  clear hx hy
  go_enter Try.func15, Try.ntmps15
  go_wp2_with fail
  refine (awakeL_calls _).mono ?_
  rintro e wn1 ⟨rfl, hn1⟩
  have hB := hn1
  clear hn1
  go_wp2_with fail
  refine (heldL_calls _ _ _w0).mono ?_
  rintro e w' ⟨rfl, rfl⟩
  rw [X.out]
  go_wp2_with fail
  refine (heldL_calls _ _ _w1).mono ?_
  rintro e w' ⟨rfl, rfl⟩
  rw [Y.out]
  go_wp2_with fail
  refine (turnL_calls _ _ _ _ (by omega) (by omega) (by omega) (by omega) (by omega) (by omega)).mono ?_
  rintro e wn17 ⟨rfl, hn17⟩
  replace hB := bnext hB hn17
  clear hn17
  go_wp2_with fail
  refine (rturnL_calls _ _ _ _ (by omega) (by omega) (by omega) (by omega)).mono ?_
  rintro e w' ⟨rfl, rfl⟩
  go_wp2_with fail
  refine (part_out _ _ _ (by omega) (by omega) (by omega)).mono ?_
  rintro e w' ⟨rfl, rfl⟩
  go_wp2_with (first
    | (go_at_call 43; refine (factors_zero _ _ (by omega)).mono ?_; rintro e wf ⟨rfl, hf⟩; have hB1 := bnext hB hf; clear hf hB)
    | (go_at_call 37; refine (turn_some _ _ _ _ (by omega) (by omega) (by omega) (by omega) (by omega) (by omega)).mono ?_; rintro e wf ⟨g1, g2, rfl, hf⟩; have hB2 := bnext hB1 hf; clear hf hB1)
    | (go_at_call 40; refine (back_some _ _ _ _ (by omega) (by omega) (by omega) (by omega) (by omega) (by omega)).mono ?_; rintro e wf ⟨g3, g4, rfl, hf⟩; have hB3 := bnext hB2 hf; clear hf hB2))
  all_goals (go_ret; refine ⟨ret_true ?_, hB3⟩; first | rfl | (simp; omega))

set_option maxRecDepth 100000 in
set_option maxHeartbeats 1000000 in
theorem liftPlays_high_f1 (a0 : Int) (a1 : Int) (a2 : Int) (a3 : Int) (_w0 : (Lit.int .i64 a0).wf = true) (_w1 : (Lit.int .i64 a1).wf = true) (_w2 : (Lit.int .i64 a2).wf = true) (_w3 : (Lit.int .i64 a3).wf = true) (w : World) (mc : 32768 < a3) (fc : a0 < -1099511627776) :
    Calls Try.prog 15 #[.int .i64 a0, .int .i64 a1, .int .i64 a2, .int .i64 a3] w (LawTrue w) := by
  have hb0 := heldL_bd a0
  have hb1 := heldL_bd a1
  have hk := i64_bounds _w2
  have hm := i64_bounds _w3
  have k0 := i64_bounds _w0
  have k1 := i64_bounds _w1
  generalize hx : heldL a0 = x at *
  generalize hy : heldL a1 = y at *
  have X := Lib.hid hx
  have Y := Lib.hid hy
  clear hx hy
  go_enter Try.func15, Try.ntmps15
  go_wp2_with fail
  refine (awakeL_calls _).mono ?_
  rintro e wn1 ⟨rfl, hn1⟩
  have hB := hn1
  clear hn1
  go_wp2_with fail
  refine (heldL_calls _ _ _w0).mono ?_
  rintro e w' ⟨rfl, rfl⟩
  rw [X.out]
  go_wp2_with fail
  refine (heldL_calls _ _ _w1).mono ?_
  rintro e w' ⟨rfl, rfl⟩
  rw [Y.out]
  go_wp2_with fail
  refine (turnL_calls _ _ _ _ (by omega) (by omega) (by omega) (by omega) (by omega) (by omega)).mono ?_
  rintro e wn18 ⟨rfl, hn18⟩
  replace hB := bnext hB hn18
  clear hn18
  go_wp2_with fail
  refine (rturnL_calls _ _ _ _ (by omega) (by omega) (by omega) (by omega)).mono ?_
  rintro e w' ⟨rfl, rfl⟩
  go_wp2_with fail
  refine (part_out _ _ _ (by omega) (by omega) (by omega)).mono ?_
  rintro e w' ⟨rfl, rfl⟩
  go_wp2_with (first
    | (go_at_call 43; refine (factors_zero _ _ (by omega)).mono ?_; rintro e wf ⟨rfl, hf⟩; have hB1 := bnext hB hf; clear hf hB)
    | (go_at_call 37; refine (turnL_stays _ _ _ _ (by omega)).mono ?_; rintro e wf ⟨rfl, hf⟩; have hB2 := bnext hB1 hf; clear hf hB1)
    | (go_at_call 40; refine (backL_stays _ _ _ _ (by omega)).mono ?_; rintro e wf ⟨rfl, hf⟩; have hB3 := bnext hB2 hf; clear hf hB2))
  all_goals (go_ret; refine ⟨ret_true ?_, hB3⟩; first | rfl | (simp; omega))

set_option maxRecDepth 100000 in
set_option maxHeartbeats 1000000 in
theorem liftPlays_high_f2 (a0 : Int) (a1 : Int) (a2 : Int) (a3 : Int) (_w0 : (Lit.int .i64 a0).wf = true) (_w1 : (Lit.int .i64 a1).wf = true) (_w2 : (Lit.int .i64 a2).wf = true) (_w3 : (Lit.int .i64 a3).wf = true) (w : World) (mc : 32768 < a3) (fc : 1099511627776 < a0) :
    Calls Try.prog 15 #[.int .i64 a0, .int .i64 a1, .int .i64 a2, .int .i64 a3] w (LawTrue w) := by
  have hb0 := heldL_bd a0
  have hb1 := heldL_bd a1
  have hk := i64_bounds _w2
  have hm := i64_bounds _w3
  have k0 := i64_bounds _w0
  have k1 := i64_bounds _w1
  generalize hx : heldL a0 = x at *
  generalize hy : heldL a1 = y at *
  have X := Lib.hid hx
  have Y := Lib.hid hy
  clear hx hy
  go_enter Try.func15, Try.ntmps15
  go_wp2_with fail
  refine (awakeL_calls _).mono ?_
  rintro e wn1 ⟨rfl, hn1⟩
  have hB := hn1
  clear hn1
  go_wp2_with fail
  refine (heldL_calls _ _ _w0).mono ?_
  rintro e w' ⟨rfl, rfl⟩
  rw [X.out]
  go_wp2_with fail
  refine (heldL_calls _ _ _w1).mono ?_
  rintro e w' ⟨rfl, rfl⟩
  rw [Y.out]
  go_wp2_with fail
  refine (turnL_calls _ _ _ _ (by omega) (by omega) (by omega) (by omega) (by omega) (by omega)).mono ?_
  rintro e wn19 ⟨rfl, hn19⟩
  replace hB := bnext hB hn19
  clear hn19
  go_wp2_with fail
  refine (rturnL_calls _ _ _ _ (by omega) (by omega) (by omega) (by omega)).mono ?_
  rintro e w' ⟨rfl, rfl⟩
  go_wp2_with fail
  refine (part_out _ _ _ (by omega) (by omega) (by omega)).mono ?_
  rintro e w' ⟨rfl, rfl⟩
  go_wp2_with (first
    | (go_at_call 43; refine (factors_zero _ _ (by omega)).mono ?_; rintro e wf ⟨rfl, hf⟩; have hB1 := bnext hB hf; clear hf hB)
    | (go_at_call 37; refine (turnL_stays _ _ _ _ (by omega)).mono ?_; rintro e wf ⟨rfl, hf⟩; have hB2 := bnext hB1 hf; clear hf hB1)
    | (go_at_call 40; refine (backL_stays _ _ _ _ (by omega)).mono ?_; rintro e wf ⟨rfl, hf⟩; have hB3 := bnext hB2 hf; clear hf hB2))
  all_goals (go_ret; refine ⟨ret_true ?_, hB3⟩; first | rfl | (simp; omega))

set_option maxRecDepth 100000 in
set_option maxHeartbeats 1000000 in
theorem liftPlays_high_f3 (a0 : Int) (a1 : Int) (a2 : Int) (a3 : Int) (_w0 : (Lit.int .i64 a0).wf = true) (_w1 : (Lit.int .i64 a1).wf = true) (_w2 : (Lit.int .i64 a2).wf = true) (_w3 : (Lit.int .i64 a3).wf = true) (w : World) (mc : 32768 < a3) (fc : (-1099511627776 ≤ a0 ∧ a0 ≤ 1099511627776) ∧ a1 < -1099511627776) :
    Calls Try.prog 15 #[.int .i64 a0, .int .i64 a1, .int .i64 a2, .int .i64 a3] w (LawTrue w) := by
  have hb0 := heldL_bd a0
  have hb1 := heldL_bd a1
  have hk := i64_bounds _w2
  have hm := i64_bounds _w3
  have k0 := i64_bounds _w0
  have k1 := i64_bounds _w1
  generalize hx : heldL a0 = x at *
  generalize hy : heldL a1 = y at *
  have X := Lib.hid hx
  have Y := Lib.hid hy
  clear hx hy
  go_enter Try.func15, Try.ntmps15
  go_wp2_with fail
  refine (awakeL_calls _).mono ?_
  rintro e wn1 ⟨rfl, hn1⟩
  have hB := hn1
  clear hn1
  go_wp2_with fail
  refine (heldL_calls _ _ _w0).mono ?_
  rintro e w' ⟨rfl, rfl⟩
  rw [X.out]
  go_wp2_with fail
  refine (heldL_calls _ _ _w1).mono ?_
  rintro e w' ⟨rfl, rfl⟩
  rw [Y.out]
  go_wp2_with fail
  refine (turnL_calls _ _ _ _ (by omega) (by omega) (by omega) (by omega) (by omega) (by omega)).mono ?_
  rintro e wn20 ⟨rfl, hn20⟩
  replace hB := bnext hB hn20
  clear hn20
  go_wp2_with fail
  refine (rturnL_calls _ _ _ _ (by omega) (by omega) (by omega) (by omega)).mono ?_
  rintro e w' ⟨rfl, rfl⟩
  go_wp2_with fail
  refine (part_out _ _ _ (by omega) (by omega) (by omega)).mono ?_
  rintro e w' ⟨rfl, rfl⟩
  go_wp2_with (first
    | (go_at_call 43; refine (factors_zero _ _ (by omega)).mono ?_; rintro e wf ⟨rfl, hf⟩; have hB1 := bnext hB hf; clear hf hB)
    | (go_at_call 37; refine (turnL_stays _ _ _ _ (by omega)).mono ?_; rintro e wf ⟨rfl, hf⟩; have hB2 := bnext hB1 hf; clear hf hB1)
    | (go_at_call 40; refine (backL_stays _ _ _ _ (by omega)).mono ?_; rintro e wf ⟨rfl, hf⟩; have hB3 := bnext hB2 hf; clear hf hB2))
  all_goals (go_ret; refine ⟨ret_true ?_, hB3⟩; first | rfl | (simp; omega))

set_option maxRecDepth 100000 in
set_option maxHeartbeats 1000000 in
theorem liftPlays_high_f4 (a0 : Int) (a1 : Int) (a2 : Int) (a3 : Int) (_w0 : (Lit.int .i64 a0).wf = true) (_w1 : (Lit.int .i64 a1).wf = true) (_w2 : (Lit.int .i64 a2).wf = true) (_w3 : (Lit.int .i64 a3).wf = true) (w : World) (mc : 32768 < a3) (fc : (-1099511627776 ≤ a0 ∧ a0 ≤ 1099511627776) ∧ 1099511627776 < a1) :
    Calls Try.prog 15 #[.int .i64 a0, .int .i64 a1, .int .i64 a2, .int .i64 a3] w (LawTrue w) := by
  have hb0 := heldL_bd a0
  have hb1 := heldL_bd a1
  have hk := i64_bounds _w2
  have hm := i64_bounds _w3
  have k0 := i64_bounds _w0
  have k1 := i64_bounds _w1
  generalize hx : heldL a0 = x at *
  generalize hy : heldL a1 = y at *
  have X := Lib.hid hx
  have Y := Lib.hid hy
  clear hx hy
  go_enter Try.func15, Try.ntmps15
  go_wp2_with fail
  refine (awakeL_calls _).mono ?_
  rintro e wn1 ⟨rfl, hn1⟩
  have hB := hn1
  clear hn1
  go_wp2_with fail
  refine (heldL_calls _ _ _w0).mono ?_
  rintro e w' ⟨rfl, rfl⟩
  rw [X.out]
  go_wp2_with fail
  refine (heldL_calls _ _ _w1).mono ?_
  rintro e w' ⟨rfl, rfl⟩
  rw [Y.out]
  go_wp2_with fail
  refine (turnL_calls _ _ _ _ (by omega) (by omega) (by omega) (by omega) (by omega) (by omega)).mono ?_
  rintro e wn21 ⟨rfl, hn21⟩
  replace hB := bnext hB hn21
  clear hn21
  go_wp2_with fail
  refine (rturnL_calls _ _ _ _ (by omega) (by omega) (by omega) (by omega)).mono ?_
  rintro e w' ⟨rfl, rfl⟩
  go_wp2_with fail
  refine (part_out _ _ _ (by omega) (by omega) (by omega)).mono ?_
  rintro e w' ⟨rfl, rfl⟩
  go_wp2_with (first
    | (go_at_call 43; refine (factors_zero _ _ (by omega)).mono ?_; rintro e wf ⟨rfl, hf⟩; have hB1 := bnext hB hf; clear hf hB)
    | (go_at_call 37; refine (turnL_stays _ _ _ _ (by omega)).mono ?_; rintro e wf ⟨rfl, hf⟩; have hB2 := bnext hB1 hf; clear hf hB1)
    | (go_at_call 40; refine (backL_stays _ _ _ _ (by omega)).mono ?_; rintro e wf ⟨rfl, hf⟩; have hB3 := bnext hB2 hf; clear hf hB2))
  all_goals (go_ret; refine ⟨ret_true ?_, hB3⟩; first | rfl | (simp; omega))

theorem liftPlays_walk (a0 : Int) (a1 : Int) (a2 : Int) (a3 : Int) (_w0 : (Lit.int .i64 a0).wf = true) (_w1 : (Lit.int .i64 a1).wf = true) (_w2 : (Lit.int .i64 a2).wf = true) (_w3 : (Lit.int .i64 a3).wf = true) (w : World) :
    Calls Try.prog 15 #[.int .i64 a0, .int .i64 a1, .int .i64 a2, .int .i64 a3] w (LawTrue w) := by
  have mc : a3 < 0 ∨ (0 ≤ a3 ∧ a3 ≤ 64) ∨ (64 < a3 ∧ a3 ≤ 32768) ∨ 32768 < a3 := by omega
  have fc : ((-1099511627776 ≤ a0 ∧ a0 ≤ 1099511627776) ∧ (-1099511627776 ≤ a1 ∧ a1 ≤ 1099511627776)) ∨ a0 < -1099511627776 ∨ 1099511627776 < a0 ∨ ((-1099511627776 ≤ a0 ∧ a0 ≤ 1099511627776) ∧ a1 < -1099511627776) ∨ ((-1099511627776 ≤ a0 ∧ a0 ≤ 1099511627776) ∧ 1099511627776 < a1) := by omega
  rcases mc with mc | mc | mc | mc <;> rcases fc with fc | fc | fc | fc | fc
  · exact liftPlays_low_may a0 a1 a2 a3 _w0 _w1 _w2 _w3 w mc fc
  · exact liftPlays_low_f1 a0 a1 a2 a3 _w0 _w1 _w2 _w3 w mc fc
  · exact liftPlays_low_f2 a0 a1 a2 a3 _w0 _w1 _w2 _w3 w mc fc
  · exact liftPlays_low_f3 a0 a1 a2 a3 _w0 _w1 _w2 _w3 w mc fc
  · exact liftPlays_low_f4 a0 a1 a2 a3 _w0 _w1 _w2 _w3 w mc fc
  · exact liftPlays_in_may a0 a1 a2 a3 _w0 _w1 _w2 _w3 w mc fc
  · exact liftPlays_in_f1 a0 a1 a2 a3 _w0 _w1 _w2 _w3 w mc fc
  · exact liftPlays_in_f2 a0 a1 a2 a3 _w0 _w1 _w2 _w3 w mc fc
  · exact liftPlays_in_f3 a0 a1 a2 a3 _w0 _w1 _w2 _w3 w mc fc
  · exact liftPlays_in_f4 a0 a1 a2 a3 _w0 _w1 _w2 _w3 w mc fc
  · exact liftPlays_mid_may a0 a1 a2 a3 _w0 _w1 _w2 _w3 w mc fc
  · exact liftPlays_mid_f1 a0 a1 a2 a3 _w0 _w1 _w2 _w3 w mc fc
  · exact liftPlays_mid_f2 a0 a1 a2 a3 _w0 _w1 _w2 _w3 w mc fc
  · exact liftPlays_mid_f3 a0 a1 a2 a3 _w0 _w1 _w2 _w3 w mc fc
  · exact liftPlays_mid_f4 a0 a1 a2 a3 _w0 _w1 _w2 _w3 w mc fc
  · exact liftPlays_high_may a0 a1 a2 a3 _w0 _w1 _w2 _w3 w mc fc
  · exact liftPlays_high_f1 a0 a1 a2 a3 _w0 _w1 _w2 _w3 w mc fc
  · exact liftPlays_high_f2 a0 a1 a2 a3 _w0 _w1 _w2 _w3 w mc fc
  · exact liftPlays_high_f3 a0 a1 a2 a3 _w0 _w1 _w2 _w3 w mc fc
  · exact liftPlays_high_f4 a0 a1 a2 a3 _w0 _w1 _w2 _w3 w mc fc
end Go.Proofs.Ytlfiaaoegeodnaa
