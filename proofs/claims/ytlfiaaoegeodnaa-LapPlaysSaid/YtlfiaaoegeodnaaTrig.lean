/- Contracts of trig.Root and trig.halves. -/
import Derived.Test.YtlfiaaoegeodnaaChecked
import Derived.Test.YtlfiaaoegeodnaaFrame
import Derived.Test.YtlfiaaoegeodnaaNum
import Derived.Outline
namespace Go.Proofs.Ytlfiaaoegeodnaa
open Go.RowKit

def RootOk (n : Int) (w : World) (e : Ending) (w' : World) : Prop := ∃ r, IsRoot n r ∧ e = .returned (.int .i64 r) ∧ w = w'
def RootInv (n : Int) (x y : Int) : Prop := ∃ j : Nat, j ≤ 32 ∧ y = 2^j/2 ∧ x * x ≤ n ∧ n < (x + 2^j) * (x + 2^j)

theorem rootInv_start {n : Int} (h0 : 0 < n) (h1 : n < 4611686018427387904) : RootInv n 0 2147483648 :=
  ⟨32, by omega, by decide, by omega, by
    have : ((0 : Int) + 2 ^ 32) * (0 + 2 ^ 32) = 18446744073709551616 := by decide
    omega⟩

theorem rootInv_step {n x y : Int} (h : RootInv n x y) (hy : 0 < y) : ∃ j : Nat, j + 1 ≤ 32 ∧ y = 2 ^ j ∧ (2 : Int) ^ (j + 1) = 2 * y := by
  obtain ⟨j, hj, e, _, _⟩ := h
  cases j with
  | zero => simp at e; omega
  | succ j =>
    have : (2 : Int) ^ (j + 1) = 2 * 2 ^ j := by rw [Int.pow_succ]; omega
    exact ⟨j, hj, by rw [e, this]; omega, by rw [e, this]; omega⟩

theorem small_of_sq {x n : Int} (h : x * x ≤ n) (hn : n < 4611686018427387904) : x < 2147483648 := by
  rcases Int.lt_or_le x 2147483648 with h1 | h1
  · exact h1
  · have := Int.mul_le_mul h1 h1 (by omega) (by omega)
    omega

theorem rootInv_yes {n x y : Int} (h : RootInv n x y) (hx : 0 ≤ x) (hy : 0 < y) (hc : x + y ≤ n / (x + y)) : RootInv n (x + y) (y / 2) := by
  obtain ⟨j, hj, e, e2⟩ := rootInv_step h hy
  obtain ⟨j', _, e', h1, h2⟩ := h
  have ej : (2 : Int) ^ j' = 2 * y ∨ j' = 0 := by
    cases j' with
    | zero => right; rfl
    | succ i => left; rw [e', Int.pow_succ]; omega
  have hsq : (x + y) * (x + y) ≤ n := (Int.le_ediv_iff_mul_le (by omega)).1 hc
  rcases ej with ej | ej
  · refine ⟨j, by omega, by rw [← e], hsq, ?_⟩
    rw [← e, show x + y + y = x + 2 ^ j' by rw [ej]; omega]
    exact h2
  · subst ej; simp at e'; omega

theorem rootInv_no {n x y : Int} (h : RootInv n x y) (hx : 0 ≤ x) (hy : 0 < y) (hc : ¬ x + y ≤ n / (x + y)) : RootInv n x (y / 2) := by
  obtain ⟨j, hj, e, e2⟩ := rootInv_step h hy
  obtain ⟨j', _, e', h1, h2⟩ := h
  have hsq : ¬ (x + y) * (x + y) ≤ n := fun hh => hc ((Int.le_ediv_iff_mul_le (by omega)).2 hh)
  exact ⟨j, by omega, by rw [← e], h1, by rw [← e]; omega⟩

theorem rootInv_end {n x y : Int} (h : RootInv n x y) (hx : 0 ≤ x) (hy : ¬ 0 < y) : IsRoot n x := by
  obtain ⟨j', _, e', h1, h2⟩ := h
  cases j' with
  | zero => exact ⟨hx, h1, by simpa using h2⟩
  | succ i =>
    have h3 : (2 : Int) ^ (i + 1) = 2 * 2 ^ i := by rw [Int.pow_succ]; omega
    have : (0 : Int) < 2 ^ i := Int.pow_pos (by omega)
    omega

set_option maxHeartbeats 400000 in
theorem root_calls (n : Int) (w : World) (h0 : 0 < n) (h1 : n < 4611686018427387904) :
    Calls Try.prog 28 #[.int .i64 n] w (RootOk n w) := by
  go_enter Try.func28, Try.ntmps28
  go_wp2
  go_loop [3, 4] (fun o b => ∃ (x y : Int), 0 ≤ x ∧ x ≤ 2147483648 ∧ 0 ≤ y ∧ y ≤ 2147483648 ∧ o = .int .i64 x ∧ b = .int .i64 y ∧ RootInv n x y) (fun _ b => (intOf b).toNat)
  case atStart => exact ⟨0, 2147483648, by omega, by omega, by omega, by omega, rfl, rfl, rootInv_start h0 h1⟩
  case round =>
    obtain ⟨x, y, hx0, hx1, hy0, hy1, rfl, rfl, hinv⟩ := hrel
    by_cases hy : 0 < y
    · by_cases hc : x + y ≤ n / (x + y)
      · have hn := rootInv_yes hinv hx0 hy hc
        have hs := small_of_sq hn.choose_spec.2.2.1 h1
        have H := Lib.hid hn
        clear hinv hn
        go_wp2
        refine ⟨⟨x + y, y / 2, by omega, by omega, by omega, by omega, rfl, rfl, H.out⟩, ?_⟩
        simp only [intOf]; omega
      · have hn := rootInv_no hinv hx0 hy hc
        have H := Lib.hid hn
        clear hinv hn
        go_wp2
        refine ⟨⟨x, y / 2, by omega, by omega, by omega, by omega, rfl, rfl, H.out⟩, ?_⟩
        simp only [intOf]; omega
    · have H := Lib.hid (rootInv_end hinv hx0 hy)
      clear hinv
      go_wp2
      go_ret
      exact ⟨x, H.out, rfl, rfl⟩

theorem root_at (n r : Int) (w : World) (hr : IsRoot n r) (h0 : 0 < n) (h1 : n < 4611686018427387904) :
    Calls Try.prog 28 #[.int .i64 n] w fun e w' => e = .returned (.int .i64 r) ∧ w = w' :=
  (root_calls n w h0 h1).mono fun _ _ ⟨_, h, he, hw⟩ => ⟨by rw [he, isRoot_unique h hr], hw⟩

set_option maxHeartbeats 400000 in
theorem root_low (n : Int) (w : World) (h0 : n ≤ 0) (h1 : -9223372036854775808 ≤ n) :
    Calls Try.prog 28 #[.int .i64 n] w fun e w' => e = .returned (.int .i64 0) ∧ w = w' := by
  go_enter Try.func28, Try.ntmps28
  go_wp2
  go_loop [3, 4] (fun o b => ∃ (y : Int), 0 ≤ y ∧ y ≤ 2147483648 ∧ o = .int .i64 0 ∧ b = .int .i64 y) (fun _ b => (intOf b).toNat)
  case atStart => exact ⟨2147483648, by omega, by omega, rfl, rfl⟩
  case round =>
    obtain ⟨y, hy0, hy1, rfl, rfl⟩ := hrel
    by_cases hy : 0 < y
    · go_wp2
      refine ⟨⟨y / 2, by omega, by omega, rfl, rfl⟩, ?_⟩
      simp only [intOf]; omega
    · go_wp2
      go_ret
      exact ⟨rfl, rfl⟩

def halfCells : Array Value := #[.int .i64 1073660972, .int .i64 13176485, .int .i64 1073418432, .int .i64 26350953, .int .i64 1072448454, .int .i64 52686017, .int .i64 1068571463, .int .i64 105245105, .int .i64 1053110175, .int .i64 209476638, .int .i64 992008094, .int .i64 410903207, .int .i64 759250124, .int .i64 759250124]

set_option maxHeartbeats 1000000 in
set_option maxRecDepth 100000 in
theorem halves_calls (w : World) :
    Calls Try.prog 63 #[] w fun e w' => e = .returned (.agg halfCells) ∧ Below w.heap.size w w' := by
  go_enter Try.func63, Try.ntmps63
  go_wp2
  refine wp_loop_rounds 8 ?_
  rw [rounds_succ]
  go_wp2_with fail
  refine (root_at _ 759250124 _ (by unfold IsRoot; decide +kernel) (by omega) (by omega)).mono ?_
  rintro e w' ⟨rfl, rfl⟩
  go_wp2_with fail
  refine (root_at _ 759250124 _ (by unfold IsRoot; decide +kernel) (by omega) (by omega)).mono ?_
  rintro e w' ⟨rfl, rfl⟩
  go_wp2_with fail
  rw [rounds_succ]
  go_wp2_with fail
  refine (root_at _ 992008094 _ (by unfold IsRoot; decide +kernel) (by omega) (by omega)).mono ?_
  rintro e w' ⟨rfl, rfl⟩
  go_wp2_with fail
  refine (root_at _ 410903207 _ (by unfold IsRoot; decide +kernel) (by omega) (by omega)).mono ?_
  rintro e w' ⟨rfl, rfl⟩
  go_wp2_with fail
  rw [rounds_succ]
  go_wp2_with fail
  refine (root_at _ 1053110175 _ (by unfold IsRoot; decide +kernel) (by omega) (by omega)).mono ?_
  rintro e w' ⟨rfl, rfl⟩
  go_wp2_with fail
  refine (root_at _ 209476638 _ (by unfold IsRoot; decide +kernel) (by omega) (by omega)).mono ?_
  rintro e w' ⟨rfl, rfl⟩
  go_wp2_with fail
  rw [rounds_succ]
  go_wp2_with fail
  refine (root_at _ 1068571463 _ (by unfold IsRoot; decide +kernel) (by omega) (by omega)).mono ?_
  rintro e w' ⟨rfl, rfl⟩
  go_wp2_with fail
  refine (root_at _ 105245105 _ (by unfold IsRoot; decide +kernel) (by omega) (by omega)).mono ?_
  rintro e w' ⟨rfl, rfl⟩
  go_wp2_with fail
  rw [rounds_succ]
  go_wp2_with fail
  refine (root_at _ 1072448454 _ (by unfold IsRoot; decide +kernel) (by omega) (by omega)).mono ?_
  rintro e w' ⟨rfl, rfl⟩
  go_wp2_with fail
  refine (root_at _ 52686017 _ (by unfold IsRoot; decide +kernel) (by omega) (by omega)).mono ?_
  rintro e w' ⟨rfl, rfl⟩
  go_wp2_with fail
  rw [rounds_succ]
  go_wp2_with fail
  refine (root_at _ 1073418432 _ (by unfold IsRoot; decide +kernel) (by omega) (by omega)).mono ?_
  rintro e w' ⟨rfl, rfl⟩
  go_wp2_with fail
  refine (root_at _ 26350953 _ (by unfold IsRoot; decide +kernel) (by omega) (by omega)).mono ?_
  rintro e w' ⟨rfl, rfl⟩
  go_wp2_with fail
  rw [rounds_succ]
  go_wp2_with fail
  refine (root_at _ 1073660972 _ (by unfold IsRoot; decide +kernel) (by omega) (by omega)).mono ?_
  rintro e w' ⟨rfl, rfl⟩
  go_wp2_with fail
  refine (root_at _ 13176485 _ (by unfold IsRoot; decide +kernel) (by omega) (by omega)).mono ?_
  rintro e w' ⟨rfl, rfl⟩
  go_wp2_with fail
  rw [rounds_succ]
  go_wp2_with fail
  refine bodyPost_ret (v := .agg halfCells) (by simp [results, Try.results63, go_sem, halfCells]) rfl ⟨rfl, ?_⟩
  exact ((Below.refl _ _).alloc (Nat.le_refl _) _).alloc (by simp) _

end Go.Proofs.Ytlfiaaoegeodnaa
