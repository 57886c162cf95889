/- The contract of trig.Turn, Cos and Sin. -/
import Derived.Test.YtlfiaaoegeodnaaTrigB
namespace Go.Proofs.Ytlfiaaoegeodnaa
open Go.RowKit

theorem rest512 (k : Int) : 0 ≤ (k.tmod 512 + 512).tmod 512 ∧ (k.tmod 512 + 512).tmod 512 = k % 512 := by
  have h1 := tmod_bd k (m := 511) (by omega)
  have e : k.tmod 512 = k % 512 ∨ k.tmod 512 = k % 512 - 512 := by
    rw [Int.tmod_eq_emod]
    split
    · left; omega
    · right; omega
  simp only [Int.reduceAdd] at h1
  rw [Int.tmod_eq_emod_of_nonneg (by omega)]
  omega

set_option maxHeartbeats 4000000 in
set_option maxRecDepth 100000 in
theorem turn_q0 (k : Int) (w : World) (_h0 : -9223372036854775808 ≤ k) (_h1 : k ≤ 9223372036854775807) (hq : k % 512 / 128 = 0) :
    Calls Try.prog 29 #[.int .i64 k] w fun e w' => e = .returned (.tuple #[.int .i64 ((bel (k % 512 % 128) 7).1), .int .i64 ((bel (k % 512 % 128) 7).2)]) ∧ Below w.heap.size w w' := by
  have hb := bel_bd (k := k % 512 % 128) (by omega) (by omega) (n := 7) (by omega)
  have hr := tmod_bd k (m := 511) (by omega)
  have he := (rest512 k).2
  simp only [Int.reduceAdd] at hr
  generalize hx : (bel (k % 512 % 128) 7).1 = x at hb
  generalize hy : (bel (k % 512 % 128) 7).2 = y at hb
  have X := Lib.hid hx
  have Y := Lib.hid hy
  clear hx hy
  generalize hm : k % 512 = m at *
  have hm0 : 0 ≤ m := by omega
  have hm1 : m < 512 := by omega
  clear hm
  go_enter Try.func29, Try.ntmps29
  go_wp2_with fail
  refine (halves_calls _).mono ?_
  rintro e w1 ⟨rfl, hB1⟩
  go_wp2_with fail
  refine (below_calls _ _ (by omega) (by omega)).mono ?_
  rintro e w2 ⟨rfl, hB2⟩
  have hB := hB1.trans (hB2.mono hB1.size)
  clear hB1 hB2
  rw [X.out, Y.out]
  go_wp2_with fail
  go_quiet (fail)
  go_wp2_with fail
  refine wp_loop_rounds 1 ?_
  rw [rounds_succ]
  go_wp2_with fail
  go_ret2
  refine ⟨rfl, ?_⟩
  exact below_draws (hB.alloc hB.size _) _

set_option maxHeartbeats 4000000 in
set_option maxRecDepth 100000 in
theorem turn_q1 (k : Int) (w : World) (_h0 : -9223372036854775808 ≤ k) (_h1 : k ≤ 9223372036854775807) (hq : k % 512 / 128 = 1) :
    Calls Try.prog 29 #[.int .i64 k] w fun e w' => e = .returned (.tuple #[.int .i64 (-(bel (k % 512 % 128) 7).2), .int .i64 ((bel (k % 512 % 128) 7).1)]) ∧ Below w.heap.size w w' := by
  have hb := bel_bd (k := k % 512 % 128) (by omega) (by omega) (n := 7) (by omega)
  have hr := tmod_bd k (m := 511) (by omega)
  have he := (rest512 k).2
  simp only [Int.reduceAdd] at hr
  generalize hx : (bel (k % 512 % 128) 7).1 = x at hb
  generalize hy : (bel (k % 512 % 128) 7).2 = y at hb
  have X := Lib.hid hx
  have Y := Lib.hid hy
  clear hx hy
  generalize hm : k % 512 = m at *
  have hm0 : 0 ≤ m := by omega
  have hm1 : m < 512 := by omega
  clear hm
  go_enter Try.func29, Try.ntmps29
  go_wp2_with fail
  refine (halves_calls _).mono ?_
  rintro e w1 ⟨rfl, hB1⟩
  go_wp2_with fail
  refine (below_calls _ _ (by omega) (by omega)).mono ?_
  rintro e w2 ⟨rfl, hB2⟩
  have hB := hB1.trans (hB2.mono hB1.size)
  clear hB1 hB2
  rw [X.out, Y.out]
  go_wp2_with fail
  go_quiet (fail)
  go_wp2_with fail
  refine wp_loop_rounds 2 ?_
  rw [rounds_succ]
  go_wp2_with fail
  rw [rounds_succ]
  go_wp2_with fail
  go_ret2
  refine ⟨rfl, ?_⟩
  exact below_draws (hB.alloc hB.size _) _

set_option maxHeartbeats 4000000 in
set_option maxRecDepth 100000 in
theorem turn_q2 (k : Int) (w : World) (_h0 : -9223372036854775808 ≤ k) (_h1 : k ≤ 9223372036854775807) (hq : k % 512 / 128 = 2) :
    Calls Try.prog 29 #[.int .i64 k] w fun e w' => e = .returned (.tuple #[.int .i64 (-(bel (k % 512 % 128) 7).1), .int .i64 (-(bel (k % 512 % 128) 7).2)]) ∧ Below w.heap.size w w' := by
  have hb := bel_bd (k := k % 512 % 128) (by omega) (by omega) (n := 7) (by omega)
  have hr := tmod_bd k (m := 511) (by omega)
  have he := (rest512 k).2
  simp only [Int.reduceAdd] at hr
  generalize hx : (bel (k % 512 % 128) 7).1 = x at hb
  generalize hy : (bel (k % 512 % 128) 7).2 = y at hb
  have X := Lib.hid hx
  have Y := Lib.hid hy
  clear hx hy
  generalize hm : k % 512 = m at *
  have hm0 : 0 ≤ m := by omega
  have hm1 : m < 512 := by omega
  clear hm
  go_enter Try.func29, Try.ntmps29
  go_wp2_with fail
  refine (halves_calls _).mono ?_
  rintro e w1 ⟨rfl, hB1⟩
  go_wp2_with fail
  refine (below_calls _ _ (by omega) (by omega)).mono ?_
  rintro e w2 ⟨rfl, hB2⟩
  have hB := hB1.trans (hB2.mono hB1.size)
  clear hB1 hB2
  rw [X.out, Y.out]
  go_wp2_with fail
  go_quiet (fail)
  go_wp2_with fail
  refine wp_loop_rounds 3 ?_
  rw [rounds_succ]
  go_wp2_with fail
  rw [rounds_succ]
  go_wp2_with fail
  rw [rounds_succ]
  go_wp2_with fail
  go_ret2
  refine ⟨rfl, ?_⟩
  exact below_draws (hB.alloc hB.size _) _

set_option maxHeartbeats 4000000 in
set_option maxRecDepth 100000 in
theorem turn_q3 (k : Int) (w : World) (_h0 : -9223372036854775808 ≤ k) (_h1 : k ≤ 9223372036854775807) (hq : k % 512 / 128 = 3) :
    Calls Try.prog 29 #[.int .i64 k] w fun e w' => e = .returned (.tuple #[.int .i64 ((bel (k % 512 % 128) 7).2), .int .i64 (-(bel (k % 512 % 128) 7).1)]) ∧ Below w.heap.size w w' := by
  have hb := bel_bd (k := k % 512 % 128) (by omega) (by omega) (n := 7) (by omega)
  have hr := tmod_bd k (m := 511) (by omega)
  have he := (rest512 k).2
  simp only [Int.reduceAdd] at hr
  generalize hx : (bel (k % 512 % 128) 7).1 = x at hb
  generalize hy : (bel (k % 512 % 128) 7).2 = y at hb
  have X := Lib.hid hx
  have Y := Lib.hid hy
  clear hx hy
  generalize hm : k % 512 = m at *
  have hm0 : 0 ≤ m := by omega
  have hm1 : m < 512 := by omega
  clear hm
  go_enter Try.func29, Try.ntmps29
  go_wp2_with fail
  refine (halves_calls _).mono ?_
  rintro e w1 ⟨rfl, hB1⟩
  go_wp2_with fail
  refine (below_calls _ _ (by omega) (by omega)).mono ?_
  rintro e w2 ⟨rfl, hB2⟩
  have hB := hB1.trans (hB2.mono hB1.size)
  clear hB1 hB2
  rw [X.out, Y.out]
  go_wp2_with fail
  go_quiet (fail)
  go_wp2_with fail
  refine wp_loop_rounds 4 ?_
  rw [rounds_succ]
  go_wp2_with fail
  rw [rounds_succ]
  go_wp2_with fail
  rw [rounds_succ]
  go_wp2_with fail
  rw [rounds_succ]
  go_wp2_with fail
  go_ret2
  refine ⟨rfl, ?_⟩
  exact below_draws (hB.alloc hB.size _) _

theorem turn_calls (k : Int) (w : World) (h0 : -9223372036854775808 ≤ k) (h1 : k ≤ 9223372036854775807) :
    Calls Try.prog 29 #[.int .i64 k] w fun e w' => e = .returned (.tuple #[.int .i64 (trigT k).1, .int .i64 (trigT k).2]) ∧ Below w.heap.size w w' := by
  have hq : k % 512 / 128 = 0 ∨ k % 512 / 128 = 1 ∨ k % 512 / 128 = 2 ∨ k % 512 / 128 = 3 := by omega
  rcases hq with hq | hq | hq | hq
  · refine (turn_q0 k w h0 h1 hq).mono fun e w' h => ?_
    rw [show trigT k = _ from trigT_0 hq]; exact h
  · refine (turn_q1 k w h0 h1 hq).mono fun e w' h => ?_
    rw [show trigT k = _ from trigT_1 hq]; exact h
  · refine (turn_q2 k w h0 h1 hq).mono fun e w' h => ?_
    rw [show trigT k = _ from trigT_2 hq]; exact h
  · refine (turn_q3 k w h0 h1 hq).mono fun e w' h => ?_
    rw [show trigT k = _ from trigT_3 hq]; exact h

theorem cos_calls (k : Int) (w : World) (h0 : -9223372036854775808 ≤ k) (h1 : k ≤ 9223372036854775807) :
    Calls Try.prog 31 #[.int .i64 k] w fun e w' => e = .returned (.int .i64 (trigT k).1) ∧ Below w.heap.size w w' := by
  go_enter Try.func31, Try.ntmps31
  go_wp2_with fail
  refine (turn_calls _ _ h0 h1).mono ?_
  rintro e w1 ⟨rfl, hB⟩
  go_wp2_with fail
  go_ret
  exact ⟨rfl, hB⟩

theorem sin_calls (k : Int) (w : World) (h0 : -9223372036854775808 ≤ k) (h1 : k ≤ 9223372036854775807) :
    Calls Try.prog 32 #[.int .i64 k] w fun e w' => e = .returned (.int .i64 (trigT k).2) ∧ Below w.heap.size w w' := by
  go_enter Try.func32, Try.ntmps32
  go_wp2_with fail
  refine (turn_calls _ _ h0 h1).mono ?_
  rintro e w1 ⟨rfl, hB⟩
  go_wp2_with fail
  go_ret
  exact ⟨rfl, hB⟩

end Go.Proofs.Ytlfiaaoegeodnaa
