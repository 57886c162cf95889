/- The walks of layer 9's laws. -/
import Derived.Test.YtlfiaaoegeodnaaLiftC
import Derived.Test.YtlfiaaoegeodnaaLiftR
import Derived.Test.YtlfiaaoegeodnaaMax
namespace Go.Proofs.Ytlfiaaoegeodnaa
open Go.RowKit

theorem turnL_at (a b k x y : Int) (w : World) (ha : -1099511627776 ≤ a) (ha1 : a ≤ 1099511627776) (hb : -1099511627776 ≤ b) (hb1 : b ≤ 1099511627776) (h0 : -9223372036854775808 ≤ k) (h1 : k ≤ 9223372036854775807) (h : turnL a b k = (x, y)) :
    Calls Try.prog 37 #[.int .i64 a, .int .i64 b, .int .i64 k] w fun e w' => e = .returned (.tuple #[.int .i64 x, .int .i64 y]) ∧ Below w.heap.size w w' := by
  refine (turnL_calls a b k w ha ha1 hb hb1 h0 h1).mono fun e w' hh => ?_
  rw [h] at hh
  exact hh
theorem backL_at (a b k x y : Int) (w : World) (ha : -1099511627776 ≤ a) (ha1 : a ≤ 1099511627776) (hb : -1099511627776 ≤ b) (hb1 : b ≤ 1099511627776) (h0 : -9223372036854775808 ≤ k) (h1 : k ≤ 9223372036854775807) (h : backL a b k = (x, y)) :
    Calls Try.prog 40 #[.int .i64 a, .int .i64 b, .int .i64 k] w fun e w' => e = .returned (.tuple #[.int .i64 x, .int .i64 y]) ∧ Below w.heap.size w w' := by
  refine (backL_calls a b k w ha ha1 hb hb1 h0 h1).mono fun e w' hh => ?_
  rw [h] at hh
  exact hh

theorem awakeL_calls (w : World) :
    Calls Try.prog 36 #[] w fun e w' => e = .returned (.bool true) ∧ Below w.heap.size w w' := by
  go_enter Try.func36, Try.ntmps36
  go_wp2_with fail
  refine (turnL_at 1000 0 64 707 707 _ (by omega) (by omega) (by omega) (by omega) (by omega) (by omega) (by decide +kernel)).mono ?_
  rintro e w1 ⟨rfl, hB⟩
  go_wp2_with fail
  go_ret
  exact ⟨rfl, hB⟩

def heldL (n : Int) : Int := n.tmod 1073741825
theorem heldL_bd (n : Int) : -1073741824 ≤ heldL n ∧ heldL n ≤ 1073741824 := tmod_bd n (m := 1073741824) (by omega)
theorem heldL_calls (n : Int) (w : World) (hn : (Lit.int .i64 n).wf = true) :
    Calls Try.prog 38 #[.int .i64 n] w fun e w' => e = .returned (.int .i64 (heldL n)) ∧ w = w' := by
  have hb := i64_bounds hn
  have hc := heldL_bd n
  unfold heldL at *
  go_enter Try.func38, Try.ntmps38
  go_wp2
  go_ret
  exact ⟨rfl, rfl⟩

theorem turnL_bd {a b k : Int} (ha : -1073741824 ≤ a) (ha1 : a ≤ 1073741824) (hb : -1073741824 ≤ b) (hb1 : b ≤ 1073741824) :
    -2147483650 ≤ (turnL a b k).1 ∧ (turnL a b k).1 ≤ 2147483650 ∧ -2147483650 ≤ (turnL a b k).2 ∧ (turnL a b k).2 ≤ 2147483650 :=
  near_small (m := 1073741824) (by omega) ha ha1 hb hb1 (trig_sum k) (turnL_near ha ha1 hb hb1 k)
theorem unrots_bd {c : Int} : ∀ (n : Nat) {a b : Int}, -c ≤ a → a ≤ c → -c ≤ b → b ≤ c → -c ≤ (unrots n (a, b)).1 ∧ (unrots n (a, b)).1 ≤ c ∧ -c ≤ (unrots n (a, b)).2 ∧ (unrots n (a, b)).2 ≤ c
  | 0, _, _, h1, h2, h3, h4 => ⟨h1, h2, h3, h4⟩
  | n + 1, a, b, h1, h2, h3, h4 => unrots_bd n (a := b) (b := -a) h3 h4 (by omega) (by omega)
theorem backL_bd {a b k c : Int} (ha : -c ≤ a) (ha1 : a ≤ c) (hb : -c ≤ b) (hb1 : b ≤ c) :
    -(3 * c + 3) ≤ (backL a b k).1 ∧ (backL a b k).1 ≤ 3 * c + 3 ∧ -(3 * c + 3) ≤ (backL a b k).2 ∧ (backL a b k).2 ≤ 3 * c + 3 := by
  have h := unrots_bd (quarts k) ha ha1 hb hb1
  unfold backL
  split
  · exact small_bd true (by omega) (by omega) h.1 h.2.1 h.2.2.1 h.2.2.2
  · exact small_bd false (by omega) (by omega) h.1 h.2.1 h.2.2.1 h.2.2.2

set_option maxHeartbeats 400000 in
theorem liftBack_walk (a0 : Int) (a1 : Int) (a2 : Int) (_w0 : (Lit.int .i64 a0).wf = true) (_w1 : (Lit.int .i64 a1).wf = true) (_w2 : (Lit.int .i64 a2).wf = true) (w : World) :
    Calls Try.prog 14 #[.int .i64 a0, .int .i64 a1, .int .i64 a2] w (LawTrue w) := by
  have hb0 := heldL_bd a0
  have hb1 := heldL_bd a1
  have hk := i64_bounds _w2
  generalize hx : heldL a0 = x at *
  generalize hy : heldL a1 = y at *
  have t1 := turnL_bd (a := x) (b := y) (k := a2) (by omega) (by omega) (by omega) (by omega)
  have t2 := backL_bd (a := x) (b := y) (k := a2) (c := 1073741824) (by omega) (by omega) (by omega) (by omega)
  have e1 := back_turn x y a2
  have e2 := turn_back x y a2
  generalize hp : turnL x y a2 = p at *
  generalize hq : backL x y a2 = q at *
  obtain ⟨c, d⟩ := p
  obtain ⟨g, h⟩ := q
  dsimp only at *
  have X := Lib.hid hx
  have Y := Lib.hid hy
  have H1 := Lib.hid hp
  have H2 := Lib.hid hq
  have E1 := Lib.hid e1
  have E2 := Lib.hid e2
  clear hx hy hp hq e1 e2
  go_enter Try.func14, Try.ntmps14
  go_wp2_with fail
  refine (awakeL_calls _).mono ?_
  rintro e wn1 ⟨rfl, hn1⟩
  have hB := hn1
  clear hn1
  go_wp2_with fail
  refine (heldL_calls _ _ _w0).mono ?_
  rintro e w' ⟨rfl, rfl⟩
  rw [X.out]
  go_wp2_with fail
  refine (heldL_calls _ _ _w1).mono ?_
  rintro e w' ⟨rfl, rfl⟩
  rw [Y.out]
  go_wp2_with fail
  refine (turnL_at _ _ _ _ _ _ (by omega) (by omega) (by omega) (by omega) (by omega) (by omega) H1.out).mono ?_
  rintro e wn2 ⟨rfl, hn2⟩
  replace hB := bnext hB hn2
  clear hn2
  go_wp2_with fail
  refine (backL_at _ _ _ _ _ _ (by omega) (by omega) (by omega) (by omega) (by omega) (by omega) E1.out).mono ?_
  rintro e wn3 ⟨rfl, hn3⟩
  replace hB := bnext hB hn3
  clear hn3
  go_wp2_with fail
  refine (backL_at _ _ _ _ _ _ (by omega) (by omega) (by omega) (by omega) (by omega) (by omega) H2.out).mono ?_
  rintro e wn4 ⟨rfl, hn4⟩
  replace hB := bnext hB hn4
  clear hn4
  go_wp2_with fail
  refine (turnL_at _ _ _ _ _ _ (by omega) (by omega) (by omega) (by omega) (by omega) (by omega) E2.out).mono ?_
  rintro e wn5 ⟨rfl, hn5⟩
  replace hB := bnext hB hn5
  clear hn5
  go_wp2_with fail
  all_goals (go_ret; refine ⟨ret_true ?_, hB⟩; first | rfl | (simp; omega))

set_option maxHeartbeats 400000 in
theorem liftQuarters_walk (a0 : Int) (a1 : Int) (a2 : Int) (_w0 : (Lit.int .i64 a0).wf = true) (_w1 : (Lit.int .i64 a1).wf = true) (_w2 : (Lit.int .i64 a2).wf = true) (w : World) :
    Calls Try.prog 10 #[.int .i64 a0, .int .i64 a1, .int .i64 a2] w (LawTrue w) := by
  have hb0 := heldL_bd a0
  have hb1 := heldL_bd a1
  have hk := tmod_bd a2 (m := 99999) (by omega)
  simp only [Int.reduceAdd] at hk
  have hb2 := i64_bounds _w2
  generalize hx : heldL a0 = x at *
  generalize hy : heldL a1 = y at *
  have X := Lib.hid hx
  have Y := Lib.hid hy
  clear hx hy
  go_enter Try.func10, Try.ntmps10
  go_wp2_with fail
  refine (awakeL_calls _).mono ?_
  rintro e wn1 ⟨rfl, hn1⟩
  have hB := hn1
  clear hn1
  go_wp2_with fail
  refine (heldL_calls _ _ _w0).mono ?_
  rintro e w' ⟨rfl, rfl⟩
  rw [X.out]
  go_wp2_with fail
  refine (heldL_calls _ _ _w1).mono ?_
  rintro e w' ⟨rfl, rfl⟩
  rw [Y.out]
  go_wp2_with fail
  generalize a2.tmod 100000 = k at hk
  obtain ⟨g, h, hgh⟩ : ∃ g h, turnL x y k = (g, h) := ⟨_, _, rfl⟩
  have tb := turnL_bd (a := x) (b := y) (k := k) (by omega) (by omega) (by omega) (by omega)
  rw [hgh] at tb
  have H1 := Lib.hid hgh
  have H2 := Lib.hid (show turnL x y (k + 128) = (-h, g) by rw [turnL_128, hgh]; rfl)
  have H3 := Lib.hid (show turnL x y (k + 512) = (g, h) by rw [← hgh]; exact turnL_congr x y (by omega))
  have H4 := Lib.hid (turnL_0 x y)
  have H5 := Lib.hid (show turnL x y 256 = (-x, -y) by rw [show (256 : Int) = 0 + 128 + 128 from rfl, turnL_128, turnL_128, turnL_0]; rfl)
  clear hgh
  go_wp2_with fail
  refine (turnL_at _ _ _ _ _ _ (by omega) (by omega) (by omega) (by omega) (by omega) (by omega) H4.out).mono ?_
  rintro e wn6 ⟨rfl, hn6⟩
  replace hB := bnext hB hn6
  clear hn6
  go_wp2_with fail
  refine (turnL_at _ _ _ _ _ _ (by omega) (by omega) (by omega) (by omega) (by omega) (by omega) H5.out).mono ?_
  rintro e wn7 ⟨rfl, hn7⟩
  replace hB := bnext hB hn7
  clear hn7
  go_wp2_with fail
  refine (turnL_at _ _ _ _ _ _ (by omega) (by omega) (by omega) (by omega) (by omega) (by omega) H1.out).mono ?_
  rintro e wn8 ⟨rfl, hn8⟩
  replace hB := bnext hB hn8
  clear hn8
  go_wp2_with fail
  refine (turnL_at _ _ _ _ _ _ (by omega) (by omega) (by omega) (by omega) (by omega) (by omega) H2.out).mono ?_
  rintro e wn9 ⟨rfl, hn9⟩
  replace hB := bnext hB hn9
  clear hn9
  go_wp2_with fail
  refine (turnL_at _ _ _ _ _ _ (by omega) (by omega) (by omega) (by omega) (by omega) (by omega) H3.out).mono ?_
  rintro e wn10 ⟨rfl, hn10⟩
  replace hB := bnext hB hn10
  clear hn10
  go_wp2_with fail
  all_goals (go_ret; refine ⟨ret_true ?_, hB⟩; first | rfl | (simp; omega))

theorem u16_bounds {n : Int} (h : (Lit.int .u16 n).wf = true) : 0 ≤ n ∧ n ≤ 65535 := by
  simp [Lit.wf, IntKind.min, IntKind.max, IntKind.signed, IntKind.bits] at h
  omega

theorem part_0_calls (x : Int) (w : World) (hx : -70368744177664 ≤ x) (hx1 : x ≤ 70368744177664) :
    Calls Try.prog 39 #[.int .i64 x, .int .i64 0] w fun e w' => e = .returned (.int .i64 0) ∧ w = w' :=
  (part_calls x 0 w hx hx1 (by omega) (by omega)).mono fun _ _ h => by rw [part_0] at h; exact h
theorem part_1_calls (x : Int) (w : World) (hx : -70368744177664 ≤ x) (hx1 : x ≤ 70368744177664) :
    Calls Try.prog 39 #[.int .i64 x, .int .i64 32768] w fun e w' => e = .returned (.int .i64 x) ∧ w = w' :=
  (part_calls x 32768 w hx hx1 (by omega) (by omega)).mono fun _ _ h => by rw [part_whole] at h; exact h

set_option maxHeartbeats 400000 in
theorem liftParts_walk (a0 : Int) (a1 : Int) (_w0 : (Lit.int .i64 a0).wf = true) (_w1 : (Lit.int .u16 a1).wf = true) (w : World) :
    Calls Try.prog 12 #[.int .i64 a0, .int .u16 a1] w (LawTrue w) := by
  have hb0 := heldL_bd a0
  have hb1 := u16_bounds _w1
  generalize hx : heldL a0 = y at *
  have hp := part_between (y := y) (f := a1 % 32769) (by omega) (by omega)
  have X := Lib.hid hx
  clear hx
  go_enter Try.func12, Try.ntmps12
  go_wp2_with fail
  refine (awakeL_calls _).mono ?_
  rintro e wn1 ⟨rfl, hn1⟩
  have hB := hn1
  clear hn1
  go_wp2_with fail
  refine (heldL_calls _ _ _w0).mono ?_
  rintro e w' ⟨rfl, rfl⟩
  rw [X.out]
  go_wp2_with fail
  refine (part_calls _ _ _ (by omega) (by omega) (by omega) (by omega)).mono ?_
  rintro e w' ⟨rfl, rfl⟩
  go_wp2_with (first | (go_at_call 39; with_reducible refine (part_1_calls _ _ (by omega) (by omega)).mono ?_; rintro e w' ⟨rfl, rfl⟩) | (go_at_call 39; with_reducible refine (part_0_calls _ _ (by omega) (by omega)).mono ?_; rintro e w' ⟨rfl, rfl⟩))
  all_goals (go_ret; refine ⟨ret_true ?_, hB⟩; first | rfl | (simp; omega))

theorem max_sq {m x y : Int} (h : m = x ∨ m = -x ∨ m = y ∨ m = -y) : m * m ≤ x * x + y * y := by
  have h1 := sq_nonneg x
  have h2 := sq_nonneg y
  rcases h with rfl | rfl | rfl | rfl <;> (try rw [Int.neg_mul_neg]) <;> omega
theorem tdiv16_bd {n : Int} (h0 : -1073741824 ≤ n) (h1 : n ≤ 1073741824) : -67108864 ≤ n.tdiv 16 ∧ n.tdiv 16 ≤ 67108864 := by
  rcases Int.le_total 0 n with h | h
  · rw [Int.tdiv_eq_ediv_of_nonneg h]
    omega
  · have e : n.tdiv 16 = -((-n).tdiv 16) := by rw [Int.neg_tdiv, Int.neg_neg]
    rw [e, Int.tdiv_eq_ediv_of_nonneg (by omega)]
    omega

set_option maxHeartbeats 4000000 in
theorem liftSize_walk (a0 : Int) (a1 : Int) (a2 : Int) (_w0 : (Lit.int .i64 a0).wf = true) (_w1 : (Lit.int .i64 a1).wf = true) (_w2 : (Lit.int .i64 a2).wf = true) (w : World) :
    Calls Try.prog 11 #[.int .i64 a0, .int .i64 a1, .int .i64 a2] w (LawTrue w) := by
  have hb0 := heldL_bd a0
  have hb1 := heldL_bd a1
  have hk := i64_bounds _w2
  have hx0 : -67108864 ≤ (heldL a0).tdiv 16 ∧ (heldL a0).tdiv 16 ≤ 67108864 := tdiv16_bd hb0.1 hb0.2
  have hy0 : -67108864 ≤ (heldL a1).tdiv 16 ∧ (heldL a1).tdiv 16 ≤ 67108864 := tdiv16_bd hb1.1 hb1.2
  go_enter Try.func11, Try.ntmps11
  go_wp2_with fail
  refine (awakeL_calls _).mono ?_
  rintro e wn1 ⟨rfl, hn1⟩
  have hB := hn1
  clear hn1
  go_wp2_with fail
  refine (heldL_calls _ _ _w0).mono ?_
  rintro e w' ⟨rfl, rfl⟩
  go_wp2_with fail
  refine (heldL_calls _ _ _w1).mono ?_
  rintro e w' ⟨rfl, rfl⟩
  go_wp2_with fail
  generalize (heldL a0).tdiv 16 = x at *
  generalize (heldL a1).tdiv 16 = y at *
  clear hb0 hb1
  obtain ⟨m, m1, m2, m3, m4, m5, m6⟩ : ∃ m : Int, x ≤ m ∧ -x ≤ m ∧ y ≤ m ∧ -y ≤ m ∧ (m = x ∨ m = -x ∨ m = y ∨ m = -y) ∧ m ≤ 67108864 := ⟨max (max x (-x)) (max y (-y)), by omega, by omega, by omega, by omega, by omega, by omega⟩
  have ms : m * m ≤ x * x + y * y := max_sq m5
  have hs := turnL_size (m := m) (a := x) (b := y) (by omega) (by omega) (by omega) (by omega) (by omega) ms a2
  have hn := near_small (m := m) (by omega) (by omega) m1 (by omega) m3 (trig_sum a2) (turnL_near (by omega) m1 (by omega) m3 a2)
  generalize hT : turnL x y a2 = p at *
  obtain ⟨c, d⟩ := p
  dsimp only at hs hn
  have H := Lib.hid hT
  clear hT ms
  have k1 := mul_in (x := x) (y := x) hx0.1 hx0.2 hx0.1 hx0.2
  have k2 := mul_in (x := y) (y := y) hy0.1 hy0.2 hy0.1 hy0.2
  have k3 := mul_in (x := c) (y := c) (b := 134217730) (c := 134217730) (by omega) (by omega) (by omega) (by omega)
  have k4 := mul_in (x := d) (y := d) (b := 134217730) (c := 134217730) (by omega) (by omega) (by omega) (by omega)
  have k5 := sq_nonneg x
  have k6 := sq_nonneg y
  have k7 := sq_nonneg c
  have k8 := sq_nonneg d
  simp only [Int.reduceMul, Int.reduceNeg] at k1 k2 k3 k4
  go_wp2_with fail
  refine (turnL_at _ _ _ _ _ _ (by omega) (by omega) (by omega) (by omega) (by omega) (by omega) H.out).mono ?_
  rintro e wn11 ⟨rfl, hn11⟩
  replace hB := bnext hB hn11
  clear hn11
  go_wp2_with fail
  all_goals (go_ret; refine ⟨ret_true ?_, hB⟩; first | rfl | (simp; omega))

set_option maxHeartbeats 4000000 in
theorem liftTwice_walk (a0 : Int) (a1 : Int) (a2 : Int) (a3 : Int) (_w0 : (Lit.int .i64 a0).wf = true) (_w1 : (Lit.int .i64 a1).wf = true) (_w2 : (Lit.int .i64 a2).wf = true) (_w3 : (Lit.int .i64 a3).wf = true) (w : World) :
    Calls Try.prog 13 #[.int .i64 a0, .int .i64 a1, .int .i64 a2, .int .i64 a3] w (LawTrue w) := by
  have hb0 := heldL_bd a0
  have hb1 := heldL_bd a1
  have hj := tmod_bd a2 (m := 99999) (by omega)
  have hk := tmod_bd a3 (m := 99999) (by omega)
  simp only [Int.reduceAdd] at hj hk
  have hb2 := i64_bounds _w2
  have hb3 := i64_bounds _w3
  generalize hx : heldL a0 = x at *
  generalize hy : heldL a1 = y at *
  have X := Lib.hid hx
  have Y := Lib.hid hy
  clear hx hy
  go_enter Try.func13, Try.ntmps13
  go_wp2_with fail
  refine (awakeL_calls _).mono ?_
  rintro e wn1 ⟨rfl, hn1⟩
  have hB := hn1
  clear hn1
  go_wp2_with fail
  refine (heldL_calls _ _ _w0).mono ?_
  rintro e w' ⟨rfl, rfl⟩
  rw [X.out]
  go_wp2_with fail
  refine (heldL_calls _ _ _w1).mono ?_
  rintro e w' ⟨rfl, rfl⟩
  rw [Y.out]
  go_wp2_with fail
  generalize a2.tmod 100000 = j at hj
  generalize a3.tmod 100000 = k at hk
  obtain ⟨m, m1, m2, m3, m4, m5, m6⟩ : ∃ m : Int, x ≤ m ∧ -x ≤ m ∧ y ≤ m ∧ -y ≤ m ∧ (m = x ∨ m = -x ∨ m = y ∨ m = -y) ∧ m ≤ 1073741824 := ⟨max (max x (-x)) (max y (-y)), by omega, by omega, by omega, by omega, by omega, by omega⟩
  have ht := turnL_twice (m := m) (a := x) (b := y) (by omega) (by omega) (by omega) (by omega) (by omega) j k
  have n1 := turnL_bd (a := x) (b := y) (k := j) (by omega) (by omega) (by omega) (by omega)
  have n3 := turnL_bd (a := x) (b := y) (k := j + k) (by omega) (by omega) (by omega) (by omega)
  generalize hp : turnL x y j = p at *
  generalize hr : turnL x y (j + k) = r at *
  obtain ⟨c, d⟩ := p
  obtain ⟨g, h⟩ := r
  dsimp only at *
  have n2 := near_small (m := 2147483650) (by omega) n1.1 n1.2.1 n1.2.2.1 n1.2.2.2 (trig_sum k) (turnL_near n1.1 n1.2.1 n1.2.2.1 n1.2.2.2 k)
  generalize hq : turnL c d k = q at *
  obtain ⟨e, f⟩ := q
  dsimp only at *
  have H1 := Lib.hid hp
  have H2 := Lib.hid hq
  have H3 := Lib.hid hr
  clear hp hq hr
  go_wp2_with fail
  refine (turnL_at _ _ _ _ _ _ (by omega) (by omega) (by omega) (by omega) (by omega) (by omega) H1.out).mono ?_
  rintro e wn12 ⟨rfl, hn12⟩
  replace hB := bnext hB hn12
  clear hn12
  go_wp2_with fail
  refine (turnL_at _ _ _ _ _ _ (by omega) (by omega) (by omega) (by omega) (by omega) (by omega) H2.out).mono ?_
  rintro e wn13 ⟨rfl, hn13⟩
  replace hB := bnext hB hn13
  clear hn13
  go_wp2_with fail
  refine (turnL_at _ _ _ _ _ _ (by omega) (by omega) (by omega) (by omega) (by omega) (by omega) H3.out).mono ?_
  rintro e wn14 ⟨rfl, hn14⟩
  replace hB := bnext hB hn14
  clear hn14
  go_wp2_with fail
  all_goals (go_ret; refine ⟨ret_true ?_, hB⟩; first | rfl | (simp; omega))

set_option maxHeartbeats 1000000 in
theorem liftUnlike_same (a0 : Int) (a1 : Int) (a2 : Int) (a3 : Int) (a4 : Int) (_w0 : (Lit.int .i64 a0).wf = true) (_w1 : (Lit.int .i64 a1).wf = true) (_w2 : (Lit.int .i64 a2).wf = true) (_w3 : (Lit.int .i64 a3).wf = true) (_w4 : (Lit.int .i64 a4).wf = true) (w : World) (h0 : (heldL a0 == heldL a2) = true) (h1 : (heldL a1 == heldL a3) = true) (h2 : ((turnL (heldL a0) (heldL a1) a4).1 == (turnL (heldL a2) (heldL a3) a4).1) = true) (h3 : ((turnL (heldL a0) (heldL a1) a4).2 == (turnL (heldL a2) (heldL a3) a4).2) = true) :
    Calls Try.prog 9 #[.int .i64 a0, .int .i64 a1, .int .i64 a2, .int .i64 a3, .int .i64 a4] w (LawTrue w) := by
  have hb0 := heldL_bd a0
  have hb1 := heldL_bd a1
  have hb2 := heldL_bd a2
  have hb3 := heldL_bd a3
  have hk := i64_bounds _w4
  have t1 := turnL_bd (a := heldL a0) (b := heldL a1) (k := a4) hb0.1 hb0.2 hb1.1 hb1.2
  have t2 := turnL_bd (a := heldL a2) (b := heldL a3) (k := a4) hb2.1 hb2.2 hb3.1 hb3.2
  go_enter Try.func9, Try.ntmps9
  go_wp2_with fail
  refine (awakeL_calls _).mono ?_
  rintro e wn1 ⟨rfl, hn1⟩
  have hB := hn1
  clear hn1
  go_wp2_with fail
  refine (heldL_calls _ _ _w0).mono ?_
  rintro e w' ⟨rfl, rfl⟩
  go_wp2_with fail
  refine (heldL_calls _ _ _w1).mono ?_
  rintro e w' ⟨rfl, rfl⟩
  go_wp2_with fail
  refine (turnL_calls _ _ _ _ (by omega) (by omega) (by omega) (by omega) (by omega) (by omega)).mono ?_
  rintro e wn15 ⟨rfl, hn15⟩
  replace hB := bnext hB hn15
  clear hn15
  go_wp2_with fail
  refine (heldL_calls _ _ _w2).mono ?_
  rintro e w' ⟨rfl, rfl⟩
  go_wp2_with fail
  refine (heldL_calls _ _ _w3).mono ?_
  rintro e w' ⟨rfl, rfl⟩
  go_wp2_with fail
  refine (turnL_calls _ _ _ _ (by omega) (by omega) (by omega) (by omega) (by omega) (by omega)).mono ?_
  rintro e wn16 ⟨rfl, hn16⟩
  replace hB := bnext hB hn16
  clear hn16
  go_wp2_with (first
    | (go_at_call 38; refine (heldL_calls _ _ (by assumption)).mono ?_; rintro e w' ⟨rfl, rfl⟩))
  all_goals (go_ret; refine ⟨ret_true ?_, hB⟩; first | rfl | (simp; omega))

set_option maxHeartbeats 1000000 in
theorem liftUnlike_x0 (a0 : Int) (a1 : Int) (a2 : Int) (a3 : Int) (a4 : Int) (_w0 : (Lit.int .i64 a0).wf = true) (_w1 : (Lit.int .i64 a1).wf = true) (_w2 : (Lit.int .i64 a2).wf = true) (_w3 : (Lit.int .i64 a3).wf = true) (_w4 : (Lit.int .i64 a4).wf = true) (w : World) (h0 : (heldL a0 == heldL a2) = false) (h2 : ((turnL (heldL a0) (heldL a1) a4).1 == (turnL (heldL a2) (heldL a3) a4).1) = false) :
    Calls Try.prog 9 #[.int .i64 a0, .int .i64 a1, .int .i64 a2, .int .i64 a3, .int .i64 a4] w (LawTrue w) := by
  have hb0 := heldL_bd a0
  have hb1 := heldL_bd a1
  have hb2 := heldL_bd a2
  have hb3 := heldL_bd a3
  have hk := i64_bounds _w4
  have t1 := turnL_bd (a := heldL a0) (b := heldL a1) (k := a4) hb0.1 hb0.2 hb1.1 hb1.2
  have t2 := turnL_bd (a := heldL a2) (b := heldL a3) (k := a4) hb2.1 hb2.2 hb3.1 hb3.2
  go_enter Try.func9, Try.ntmps9
  go_wp2_with fail
  refine (awakeL_calls _).mono ?_
  rintro e wn1 ⟨rfl, hn1⟩
  have hB := hn1
  clear hn1
  go_wp2_with fail
  refine (heldL_calls _ _ _w0).mono ?_
  rintro e w' ⟨rfl, rfl⟩
  go_wp2_with fail
  refine (heldL_calls _ _ _w1).mono ?_
  rintro e w' ⟨rfl, rfl⟩
  go_wp2_with fail
  refine (turnL_calls _ _ _ _ (by omega) (by omega) (by omega) (by omega) (by omega) (by omega)).mono ?_
  rintro e wn17 ⟨rfl, hn17⟩
  replace hB := bnext hB hn17
  clear hn17
  go_wp2_with fail
  refine (heldL_calls _ _ _w2).mono ?_
  rintro e w' ⟨rfl, rfl⟩
  go_wp2_with fail
  refine (heldL_calls _ _ _w3).mono ?_
  rintro e w' ⟨rfl, rfl⟩
  go_wp2_with fail
  refine (turnL_calls _ _ _ _ (by omega) (by omega) (by omega) (by omega) (by omega) (by omega)).mono ?_
  rintro e wn18 ⟨rfl, hn18⟩
  replace hB := bnext hB hn18
  clear hn18
  go_wp2_with (first
    | (go_at_call 38; refine (heldL_calls _ _ (by assumption)).mono ?_; rintro e w' ⟨rfl, rfl⟩))
  all_goals (go_ret; refine ⟨ret_true ?_, hB⟩; first | rfl | (simp; omega))

set_option maxHeartbeats 1000000 in
theorem liftUnlike_x1 (a0 : Int) (a1 : Int) (a2 : Int) (a3 : Int) (a4 : Int) (_w0 : (Lit.int .i64 a0).wf = true) (_w1 : (Lit.int .i64 a1).wf = true) (_w2 : (Lit.int .i64 a2).wf = true) (_w3 : (Lit.int .i64 a3).wf = true) (_w4 : (Lit.int .i64 a4).wf = true) (w : World) (h0 : (heldL a0 == heldL a2) = true) (h1 : (heldL a1 == heldL a3) = false) (h2 : ((turnL (heldL a0) (heldL a1) a4).1 == (turnL (heldL a2) (heldL a3) a4).1) = false) :
    Calls Try.prog 9 #[.int .i64 a0, .int .i64 a1, .int .i64 a2, .int .i64 a3, .int .i64 a4] w (LawTrue w) := by
  have hb0 := heldL_bd a0
  have hb1 := heldL_bd a1
  have hb2 := heldL_bd a2
  have hb3 := heldL_bd a3
  have hk := i64_bounds _w4
  have t1 := turnL_bd (a := heldL a0) (b := heldL a1) (k := a4) hb0.1 hb0.2 hb1.1 hb1.2
  have t2 := turnL_bd (a := heldL a2) (b := heldL a3) (k := a4) hb2.1 hb2.2 hb3.1 hb3.2
  go_enter Try.func9, Try.ntmps9
  go_wp2_with fail
  refine (awakeL_calls _).mono ?_
  rintro e wn1 ⟨rfl, hn1⟩
  have hB := hn1
  clear hn1
  go_wp2_with fail
  refine (heldL_calls _ _ _w0).mono ?_
  rintro e w' ⟨rfl, rfl⟩
  go_wp2_with fail
  refine (heldL_calls _ _ _w1).mono ?_
  rintro e w' ⟨rfl, rfl⟩
  go_wp2_with fail
  refine (turnL_calls _ _ _ _ (by omega) (by omega) (by omega) (by omega) (by omega) (by omega)).mono ?_
  rintro e wn19 ⟨rfl, hn19⟩
  replace hB := bnext hB hn19
  clear hn19
  go_wp2_with fail
  refine (heldL_calls _ _ _w2).mono ?_
  rintro e w' ⟨rfl, rfl⟩
  go_wp2_with fail
  refine (heldL_calls _ _ _w3).mono ?_
  rintro e w' ⟨rfl, rfl⟩
  go_wp2_with fail
  refine (turnL_calls _ _ _ _ (by omega) (by omega) (by omega) (by omega) (by omega) (by omega)).mono ?_
  rintro e wn20 ⟨rfl, hn20⟩
  replace hB := bnext hB hn20
  clear hn20
  go_wp2_with (first
    | (go_at_call 38; refine (heldL_calls _ _ (by assumption)).mono ?_; rintro e w' ⟨rfl, rfl⟩))
  all_goals (go_ret; refine ⟨ret_true ?_, hB⟩; first | rfl | (simp; omega))

set_option maxHeartbeats 1000000 in
theorem liftUnlike_y0 (a0 : Int) (a1 : Int) (a2 : Int) (a3 : Int) (a4 : Int) (_w0 : (Lit.int .i64 a0).wf = true) (_w1 : (Lit.int .i64 a1).wf = true) (_w2 : (Lit.int .i64 a2).wf = true) (_w3 : (Lit.int .i64 a3).wf = true) (_w4 : (Lit.int .i64 a4).wf = true) (w : World) (h0 : (heldL a0 == heldL a2) = false) (h2 : ((turnL (heldL a0) (heldL a1) a4).1 == (turnL (heldL a2) (heldL a3) a4).1) = true) (h3 : ((turnL (heldL a0) (heldL a1) a4).2 == (turnL (heldL a2) (heldL a3) a4).2) = false) :
    Calls Try.prog 9 #[.int .i64 a0, .int .i64 a1, .int .i64 a2, .int .i64 a3, .int .i64 a4] w (LawTrue w) := by
  have hb0 := heldL_bd a0
  have hb1 := heldL_bd a1
  have hb2 := heldL_bd a2
  have hb3 := heldL_bd a3
  have hk := i64_bounds _w4
  have t1 := turnL_bd (a := heldL a0) (b := heldL a1) (k := a4) hb0.1 hb0.2 hb1.1 hb1.2
  have t2 := turnL_bd (a := heldL a2) (b := heldL a3) (k := a4) hb2.1 hb2.2 hb3.1 hb3.2
  go_enter Try.func9, Try.ntmps9
  go_wp2_with fail
  refine (awakeL_calls _).mono ?_
  rintro e wn1 ⟨rfl, hn1⟩
  have hB := hn1
  clear hn1
  go_wp2_with fail
  refine (heldL_calls _ _ _w0).mono ?_
  rintro e w' ⟨rfl, rfl⟩
  go_wp2_with fail
  refine (heldL_calls _ _ _w1).mono ?_
  rintro e w' ⟨rfl, rfl⟩
  go_wp2_with fail
  refine (turnL_calls _ _ _ _ (by omega) (by omega) (by omega) (by omega) (by omega) (by omega)).mono ?_
  rintro e wn21 ⟨rfl, hn21⟩
  replace hB := bnext hB hn21
  clear hn21
  go_wp2_with fail
  refine (heldL_calls _ _ _w2).mono ?_
  rintro e w' ⟨rfl, rfl⟩
  go_wp2_with fail
  refine (heldL_calls _ _ _w3).mono ?_
  rintro e w' ⟨rfl, rfl⟩
  go_wp2_with fail
  refine (turnL_calls _ _ _ _ (by omega) (by omega) (by omega) (by omega) (by omega) (by omega)).mono ?_
  rintro e wn22 ⟨rfl, hn22⟩
  replace hB := bnext hB hn22
  clear hn22
  go_wp2_with (first
    | (go_at_call 38; refine (heldL_calls _ _ (by assumption)).mono ?_; rintro e w' ⟨rfl, rfl⟩))
  all_goals (go_ret; refine ⟨ret_true ?_, hB⟩; first | rfl | (simp; omega))

set_option maxHeartbeats 1000000 in
theorem liftUnlike_y1 (a0 : Int) (a1 : Int) (a2 : Int) (a3 : Int) (a4 : Int) (_w0 : (Lit.int .i64 a0).wf = true) (_w1 : (Lit.int .i64 a1).wf = true) (_w2 : (Lit.int .i64 a2).wf = true) (_w3 : (Lit.int .i64 a3).wf = true) (_w4 : (Lit.int .i64 a4).wf = true) (w : World) (h0 : (heldL a0 == heldL a2) = true) (h1 : (heldL a1 == heldL a3) = false) (h2 : ((turnL (heldL a0) (heldL a1) a4).1 == (turnL (heldL a2) (heldL a3) a4).1) = true) (h3 : ((turnL (heldL a0) (heldL a1) a4).2 == (turnL (heldL a2) (heldL a3) a4).2) = false) :
    Calls Try.prog 9 #[.int .i64 a0, .int .i64 a1, .int .i64 a2, .int .i64 a3, .int .i64 a4] w (LawTrue w) := by
  have hb0 := heldL_bd a0
  have hb1 := heldL_bd a1
  have hb2 := heldL_bd a2
  have hb3 := heldL_bd a3
  have hk := i64_bounds _w4
  have t1 := turnL_bd (a := heldL a0) (b := heldL a1) (k := a4) hb0.1 hb0.2 hb1.1 hb1.2
  have t2 := turnL_bd (a := heldL a2) (b := heldL a3) (k := a4) hb2.1 hb2.2 hb3.1 hb3.2
  go_enter Try.func9, Try.ntmps9
  go_wp2_with fail
  refine (awakeL_calls _).mono ?_
  rintro e wn1 ⟨rfl, hn1⟩
  have hB := hn1
  clear hn1
  go_wp2_with fail
  refine (heldL_calls _ _ _w0).mono ?_
  rintro e w' ⟨rfl, rfl⟩
  go_wp2_with fail
  refine (heldL_calls _ _ _w1).mono ?_
  rintro e w' ⟨rfl, rfl⟩
  go_wp2_with fail
  refine (turnL_calls _ _ _ _ (by omega) (by omega) (by omega) (by omega) (by omega) (by omega)).mono ?_
  rintro e wn23 ⟨rfl, hn23⟩
  replace hB := bnext hB hn23
  clear hn23
  go_wp2_with fail
  refine (heldL_calls _ _ _w2).mono ?_
  rintro e w' ⟨rfl, rfl⟩
  go_wp2_with fail
  refine (heldL_calls _ _ _w3).mono ?_
  rintro e w' ⟨rfl, rfl⟩
  go_wp2_with fail
  refine (turnL_calls _ _ _ _ (by omega) (by omega) (by omega) (by omega) (by omega) (by omega)).mono ?_
  rintro e wn24 ⟨rfl, hn24⟩
  replace hB := bnext hB hn24
  clear hn24
  go_wp2_with (first
    | (go_at_call 38; refine (heldL_calls _ _ (by assumption)).mono ?_; rintro e w' ⟨rfl, rfl⟩))
  all_goals (go_ret; refine ⟨ret_true ?_, hB⟩; first | rfl | (simp; omega))

theorem turnL_unlike {a b c d k : Int} : ((turnL a b k).1 = (turnL c d k).1 ∧ (turnL a b k).2 = (turnL c d k).2) ↔ (a = c ∧ b = d) := by
  constructor
  · rintro ⟨h1, h2⟩
    have e1 := back_turn a b k
    rw [h1, h2, back_turn c d k] at e1
    simp only [Prod.mk.injEq] at e1
    exact ⟨e1.1.symm, e1.2.symm⟩
  · rintro ⟨rfl, rfl⟩
    exact ⟨rfl, rfl⟩

theorem liftUnlike_walk (a0 : Int) (a1 : Int) (a2 : Int) (a3 : Int) (a4 : Int) (_w0 : (Lit.int .i64 a0).wf = true) (_w1 : (Lit.int .i64 a1).wf = true) (_w2 : (Lit.int .i64 a2).wf = true) (_w3 : (Lit.int .i64 a3).wf = true) (_w4 : (Lit.int .i64 a4).wf = true) (w : World) :
    Calls Try.prog 9 #[.int .i64 a0, .int .i64 a1, .int .i64 a2, .int .i64 a3, .int .i64 a4] w (LawTrue w) := by
  have hu := turnL_unlike (a := heldL a0) (b := heldL a1) (c := heldL a2) (d := heldL a3) (k := a4)
  cases h0 : (heldL a0 == heldL a2) <;> cases h1 : (heldL a1 == heldL a3) <;> cases h2 : ((turnL (heldL a0) (heldL a1) a4).1 == (turnL (heldL a2) (heldL a3) a4).1) <;> cases h3 : ((turnL (heldL a0) (heldL a1) a4).2 == (turnL (heldL a2) (heldL a3) a4).2) <;>
    first
    | exact liftUnlike_same a0 a1 a2 a3 a4 _w0 _w1 _w2 _w3 _w4 w h0 h1 h2 h3
    | exact liftUnlike_x0 a0 a1 a2 a3 a4 _w0 _w1 _w2 _w3 _w4 w h0 h2
    | exact liftUnlike_x1 a0 a1 a2 a3 a4 _w0 _w1 _w2 _w3 _w4 w h0 h1 h2
    | exact liftUnlike_y0 a0 a1 a2 a3 a4 _w0 _w1 _w2 _w3 _w4 w h0 h2 h3
    | exact liftUnlike_y1 a0 a1 a2 a3 a4 _w0 _w1 _w2 _w3 _w4 w h0 h1 h2 h3
    | (simp only [beq_iff_eq, beq_eq_false_iff_ne, ne_eq] at h0 h1 h2 h3; exfalso; simp_all)

end Go.Proofs.Ytlfiaaoegeodnaa
