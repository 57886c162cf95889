/- The contracts of lift.Turn and lift.Back. -/
import Derived.Test.YtlfiaaoegeodnaaLiftB
namespace Go.Proofs.Ytlfiaaoegeodnaa
open Go.RowKit

set_option maxHeartbeats 1000000 in
theorem turnq0s (a b k m : Int) (w : World) (ha : -1099511627776 ≤ a) (ha1 : a ≤ 1099511627776) (hb : -1099511627776 ≤ b) (hb1 : b ≤ 1099511627776) (h0 : -9223372036854775808 ≤ k) (h1 : k ≤ 9223372036854775807) (hm : k % 512 = m) (hq : m / 128 = 0) (hr : m % 128 ≤ 64) :
    Calls Try.prog 37 #[.int .i64 a, .int .i64 b, .int .i64 k] w fun e w' => e = .returned (.tuple #[.int .i64 (rots 0 (small a b (m % 128) false)).1, .int .i64 (rots 0 (small a b (m % 128) false)).2]) ∧ Below w.heap.size w w' := by
  have hm0 : 0 ≤ m := by omega
  have hm1 : m < 512 := by omega
  have hsb := small_bd (a := a) (b := b) (k := (m % 128)) false (c := 1099511627776) (by omega) (by omega) ha ha1 hb hb1
  generalize hS : small a b (m % 128) false = p at *
  obtain ⟨x, y⟩ := p
  have HS := Lib.hid hS
  clear hS
  dsimp only at hsb
  simp only [rots]
  have HM := Lib.hid hm
  clear hm
  go_enter Try.func37, Try.ntmps37
  go_wp2_with fail
  refine (may_yes _ _ _ ha ha1 hb hb1).mono ?_
  rintro e w1 ⟨rfl, rfl⟩
  go_wp2_with fail
  refine (rest_calls k _ h0 h1).mono ?_
  rintro e w1 ⟨rfl, rfl⟩
  rw [HM.out]
  go_wp2_with fail
  refine (small_calls a b (m % 128) false _ (by omega) (by omega) (by omega) (by omega) (by omega) (by omega)).mono ?_
  rintro e w1 ⟨rfl, hB⟩
  rw [HS.out]
  dsimp only
  go_wp2_with fail
  refine wp_loop_rounds 1 ?_
  rw [rounds_succ]
  go_wp2_with fail
  go_ret2
  exact ⟨rfl, hB⟩

set_option maxHeartbeats 1000000 in
theorem turnq0g (a b k m : Int) (w : World) (ha : -1099511627776 ≤ a) (ha1 : a ≤ 1099511627776) (hb : -1099511627776 ≤ b) (hb1 : b ≤ 1099511627776) (h0 : -9223372036854775808 ≤ k) (h1 : k ≤ 9223372036854775807) (hm : k % 512 = m) (hq : m / 128 = 0) (hr : 64 < m % 128) :
    Calls Try.prog 37 #[.int .i64 a, .int .i64 b, .int .i64 k] w fun e w' => e = .returned (.tuple #[.int .i64 (rots 1 (small a b (128 - m % 128) true)).1, .int .i64 (rots 1 (small a b (128 - m % 128) true)).2]) ∧ Below w.heap.size w w' := by
  have hm0 : 0 ≤ m := by omega
  have hm1 : m < 512 := by omega
  have hsb := small_bd (a := a) (b := b) (k := (128 - m % 128)) true (c := 1099511627776) (by omega) (by omega) ha ha1 hb hb1
  generalize hS : small a b (128 - m % 128) true = p at *
  obtain ⟨x, y⟩ := p
  have HS := Lib.hid hS
  clear hS
  dsimp only at hsb
  simp only [rots]
  have HM := Lib.hid hm
  clear hm
  go_enter Try.func37, Try.ntmps37
  go_wp2_with fail
  refine (may_yes _ _ _ ha ha1 hb hb1).mono ?_
  rintro e w1 ⟨rfl, rfl⟩
  go_wp2_with fail
  refine (rest_calls k _ h0 h1).mono ?_
  rintro e w1 ⟨rfl, rfl⟩
  rw [HM.out]
  go_wp2_with fail
  refine (small_calls a b (128 - m % 128) true _ (by omega) (by omega) (by omega) (by omega) (by omega) (by omega)).mono ?_
  rintro e w1 ⟨rfl, hB⟩
  rw [HS.out]
  dsimp only
  go_wp2_with fail
  refine wp_loop_rounds 2 ?_
  rw [rounds_succ]
  go_wp2_with fail
  rw [rounds_succ]
  go_wp2_with fail
  go_ret2
  exact ⟨rfl, hB⟩

set_option maxHeartbeats 1000000 in
theorem turnq1s (a b k m : Int) (w : World) (ha : -1099511627776 ≤ a) (ha1 : a ≤ 1099511627776) (hb : -1099511627776 ≤ b) (hb1 : b ≤ 1099511627776) (h0 : -9223372036854775808 ≤ k) (h1 : k ≤ 9223372036854775807) (hm : k % 512 = m) (hq : m / 128 = 1) (hr : m % 128 ≤ 64) :
    Calls Try.prog 37 #[.int .i64 a, .int .i64 b, .int .i64 k] w fun e w' => e = .returned (.tuple #[.int .i64 (rots 1 (small a b (m % 128) false)).1, .int .i64 (rots 1 (small a b (m % 128) false)).2]) ∧ Below w.heap.size w w' := by
  have hm0 : 0 ≤ m := by omega
  have hm1 : m < 512 := by omega
  have hsb := small_bd (a := a) (b := b) (k := (m % 128)) false (c := 1099511627776) (by omega) (by omega) ha ha1 hb hb1
  generalize hS : small a b (m % 128) false = p at *
  obtain ⟨x, y⟩ := p
  have HS := Lib.hid hS
  clear hS
  dsimp only at hsb
  simp only [rots]
  have HM := Lib.hid hm
  clear hm
  go_enter Try.func37, Try.ntmps37
  go_wp2_with fail
  refine (may_yes _ _ _ ha ha1 hb hb1).mono ?_
  rintro e w1 ⟨rfl, rfl⟩
  go_wp2_with fail
  refine (rest_calls k _ h0 h1).mono ?_
  rintro e w1 ⟨rfl, rfl⟩
  rw [HM.out]
  go_wp2_with fail
  refine (small_calls a b (m % 128) false _ (by omega) (by omega) (by omega) (by omega) (by omega) (by omega)).mono ?_
  rintro e w1 ⟨rfl, hB⟩
  rw [HS.out]
  dsimp only
  go_wp2_with fail
  refine wp_loop_rounds 2 ?_
  rw [rounds_succ]
  go_wp2_with fail
  rw [rounds_succ]
  go_wp2_with fail
  go_ret2
  exact ⟨rfl, hB⟩

set_option maxHeartbeats 1000000 in
theorem turnq1g (a b k m : Int) (w : World) (ha : -1099511627776 ≤ a) (ha1 : a ≤ 1099511627776) (hb : -1099511627776 ≤ b) (hb1 : b ≤ 1099511627776) (h0 : -9223372036854775808 ≤ k) (h1 : k ≤ 9223372036854775807) (hm : k % 512 = m) (hq : m / 128 = 1) (hr : 64 < m % 128) :
    Calls Try.prog 37 #[.int .i64 a, .int .i64 b, .int .i64 k] w fun e w' => e = .returned (.tuple #[.int .i64 (rots 2 (small a b (128 - m % 128) true)).1, .int .i64 (rots 2 (small a b (128 - m % 128) true)).2]) ∧ Below w.heap.size w w' := by
  have hm0 : 0 ≤ m := by omega
  have hm1 : m < 512 := by omega
  have hsb := small_bd (a := a) (b := b) (k := (128 - m % 128)) true (c := 1099511627776) (by omega) (by omega) ha ha1 hb hb1
  generalize hS : small a b (128 - m % 128) true = p at *
  obtain ⟨x, y⟩ := p
  have HS := Lib.hid hS
  clear hS
  dsimp only at hsb
  simp only [rots, Int.neg_neg]
  have HM := Lib.hid hm
  clear hm
  go_enter Try.func37, Try.ntmps37
  go_wp2_with fail
  refine (may_yes _ _ _ ha ha1 hb hb1).mono ?_
  rintro e w1 ⟨rfl, rfl⟩
  go_wp2_with fail
  refine (rest_calls k _ h0 h1).mono ?_
  rintro e w1 ⟨rfl, rfl⟩
  rw [HM.out]
  go_wp2_with fail
  refine (small_calls a b (128 - m % 128) true _ (by omega) (by omega) (by omega) (by omega) (by omega) (by omega)).mono ?_
  rintro e w1 ⟨rfl, hB⟩
  rw [HS.out]
  dsimp only
  go_wp2_with fail
  refine wp_loop_rounds 3 ?_
  rw [rounds_succ]
  go_wp2_with fail
  rw [rounds_succ]
  go_wp2_with fail
  rw [rounds_succ]
  go_wp2_with fail
  go_ret2
  exact ⟨rfl, hB⟩

set_option maxHeartbeats 1000000 in
theorem turnq2s (a b k m : Int) (w : World) (ha : -1099511627776 ≤ a) (ha1 : a ≤ 1099511627776) (hb : -1099511627776 ≤ b) (hb1 : b ≤ 1099511627776) (h0 : -9223372036854775808 ≤ k) (h1 : k ≤ 9223372036854775807) (hm : k % 512 = m) (hq : m / 128 = 2) (hr : m % 128 ≤ 64) :
    Calls Try.prog 37 #[.int .i64 a, .int .i64 b, .int .i64 k] w fun e w' => e = .returned (.tuple #[.int .i64 (rots 2 (small a b (m % 128) false)).1, .int .i64 (rots 2 (small a b (m % 128) false)).2]) ∧ Below w.heap.size w w' := by
  have hm0 : 0 ≤ m := by omega
  have hm1 : m < 512 := by omega
  have hsb := small_bd (a := a) (b := b) (k := (m % 128)) false (c := 1099511627776) (by omega) (by omega) ha ha1 hb hb1
  generalize hS : small a b (m % 128) false = p at *
  obtain ⟨x, y⟩ := p
  have HS := Lib.hid hS
  clear hS
  dsimp only at hsb
  simp only [rots, Int.neg_neg]
  have HM := Lib.hid hm
  clear hm
  go_enter Try.func37, Try.ntmps37
  go_wp2_with fail
  refine (may_yes _ _ _ ha ha1 hb hb1).mono ?_
  rintro e w1 ⟨rfl, rfl⟩
  go_wp2_with fail
  refine (rest_calls k _ h0 h1).mono ?_
  rintro e w1 ⟨rfl, rfl⟩
  rw [HM.out]
  go_wp2_with fail
  refine (small_calls a b (m % 128) false _ (by omega) (by omega) (by omega) (by omega) (by omega) (by omega)).mono ?_
  rintro e w1 ⟨rfl, hB⟩
  rw [HS.out]
  dsimp only
  go_wp2_with fail
  refine wp_loop_rounds 3 ?_
  rw [rounds_succ]
  go_wp2_with fail
  rw [rounds_succ]
  go_wp2_with fail
  rw [rounds_succ]
  go_wp2_with fail
  go_ret2
  exact ⟨rfl, hB⟩

set_option maxHeartbeats 1000000 in
theorem turnq2g (a b k m : Int) (w : World) (ha : -1099511627776 ≤ a) (ha1 : a ≤ 1099511627776) (hb : -1099511627776 ≤ b) (hb1 : b ≤ 1099511627776) (h0 : -9223372036854775808 ≤ k) (h1 : k ≤ 9223372036854775807) (hm : k % 512 = m) (hq : m / 128 = 2) (hr : 64 < m % 128) :
    Calls Try.prog 37 #[.int .i64 a, .int .i64 b, .int .i64 k] w fun e w' => e = .returned (.tuple #[.int .i64 (rots 3 (small a b (128 - m % 128) true)).1, .int .i64 (rots 3 (small a b (128 - m % 128) true)).2]) ∧ Below w.heap.size w w' := by
  have hm0 : 0 ≤ m := by omega
  have hm1 : m < 512 := by omega
  have hsb := small_bd (a := a) (b := b) (k := (128 - m % 128)) true (c := 1099511627776) (by omega) (by omega) ha ha1 hb hb1
  generalize hS : small a b (128 - m % 128) true = p at *
  obtain ⟨x, y⟩ := p
  have HS := Lib.hid hS
  clear hS
  dsimp only at hsb
  simp only [rots, Int.neg_neg]
  have HM := Lib.hid hm
  clear hm
  go_enter Try.func37, Try.ntmps37
  go_wp2_with fail
  refine (may_yes _ _ _ ha ha1 hb hb1).mono ?_
  rintro e w1 ⟨rfl, rfl⟩
  go_wp2_with fail
  refine (rest_calls k _ h0 h1).mono ?_
  rintro e w1 ⟨rfl, rfl⟩
  rw [HM.out]
  go_wp2_with fail
  refine (small_calls a b (128 - m % 128) true _ (by omega) (by omega) (by omega) (by omega) (by omega) (by omega)).mono ?_
  rintro e w1 ⟨rfl, hB⟩
  rw [HS.out]
  dsimp only
  go_wp2_with fail
  refine wp_loop_rounds 4 ?_
  rw [rounds_succ]
  go_wp2_with fail
  rw [rounds_succ]
  go_wp2_with fail
  rw [rounds_succ]
  go_wp2_with fail
  rw [rounds_succ]
  go_wp2_with fail
  go_ret2
  exact ⟨rfl, hB⟩

set_option maxHeartbeats 1000000 in
theorem turnq3s (a b k m : Int) (w : World) (ha : -1099511627776 ≤ a) (ha1 : a ≤ 1099511627776) (hb : -1099511627776 ≤ b) (hb1 : b ≤ 1099511627776) (h0 : -9223372036854775808 ≤ k) (h1 : k ≤ 9223372036854775807) (hm : k % 512 = m) (hq : m / 128 = 3) (hr : m % 128 ≤ 64) :
    Calls Try.prog 37 #[.int .i64 a, .int .i64 b, .int .i64 k] w fun e w' => e = .returned (.tuple #[.int .i64 (rots 3 (small a b (m % 128) false)).1, .int .i64 (rots 3 (small a b (m % 128) false)).2]) ∧ Below w.heap.size w w' := by
  have hm0 : 0 ≤ m := by omega
  have hm1 : m < 512 := by omega
  have hsb := small_bd (a := a) (b := b) (k := (m % 128)) false (c := 1099511627776) (by omega) (by omega) ha ha1 hb hb1
  generalize hS : small a b (m % 128) false = p at *
  obtain ⟨x, y⟩ := p
  have HS := Lib.hid hS
  clear hS
  dsimp only at hsb
  simp only [rots, Int.neg_neg]
  have HM := Lib.hid hm
  clear hm
  go_enter Try.func37, Try.ntmps37
  go_wp2_with fail
  refine (may_yes _ _ _ ha ha1 hb hb1).mono ?_
  rintro e w1 ⟨rfl, rfl⟩
  go_wp2_with fail
  refine (rest_calls k _ h0 h1).mono ?_
  rintro e w1 ⟨rfl, rfl⟩
  rw [HM.out]
  go_wp2_with fail
  refine (small_calls a b (m % 128) false _ (by omega) (by omega) (by omega) (by omega) (by omega) (by omega)).mono ?_
  rintro e w1 ⟨rfl, hB⟩
  rw [HS.out]
  dsimp only
  go_wp2_with fail
  refine wp_loop_rounds 4 ?_
  rw [rounds_succ]
  go_wp2_with fail
  rw [rounds_succ]
  go_wp2_with fail
  rw [rounds_succ]
  go_wp2_with fail
  rw [rounds_succ]
  go_wp2_with fail
  go_ret2
  exact ⟨rfl, hB⟩

set_option maxHeartbeats 1000000 in
theorem turnq3g (a b k m : Int) (w : World) (ha : -1099511627776 ≤ a) (ha1 : a ≤ 1099511627776) (hb : -1099511627776 ≤ b) (hb1 : b ≤ 1099511627776) (h0 : -9223372036854775808 ≤ k) (h1 : k ≤ 9223372036854775807) (hm : k % 512 = m) (hq : m / 128 = 3) (hr : 64 < m % 128) :
    Calls Try.prog 37 #[.int .i64 a, .int .i64 b, .int .i64 k] w fun e w' => e = .returned (.tuple #[.int .i64 (rots 4 (small a b (128 - m % 128) true)).1, .int .i64 (rots 4 (small a b (128 - m % 128) true)).2]) ∧ Below w.heap.size w w' := by
  have hm0 : 0 ≤ m := by omega
  have hm1 : m < 512 := by omega
  have hsb := small_bd (a := a) (b := b) (k := (128 - m % 128)) true (c := 1099511627776) (by omega) (by omega) ha ha1 hb hb1
  generalize hS : small a b (128 - m % 128) true = p at *
  obtain ⟨x, y⟩ := p
  have HS := Lib.hid hS
  clear hS
  dsimp only at hsb
  simp only [rots, Int.neg_neg]
  have HM := Lib.hid hm
  clear hm
  go_enter Try.func37, Try.ntmps37
  go_wp2_with fail
  refine (may_yes _ _ _ ha ha1 hb hb1).mono ?_
  rintro e w1 ⟨rfl, rfl⟩
  go_wp2_with fail
  refine (rest_calls k _ h0 h1).mono ?_
  rintro e w1 ⟨rfl, rfl⟩
  rw [HM.out]
  go_wp2_with fail
  refine (small_calls a b (128 - m % 128) true _ (by omega) (by omega) (by omega) (by omega) (by omega) (by omega)).mono ?_
  rintro e w1 ⟨rfl, hB⟩
  rw [HS.out]
  dsimp only
  go_wp2_with fail
  refine wp_loop_rounds 5 ?_
  rw [rounds_succ]
  go_wp2_with fail
  rw [rounds_succ]
  go_wp2_with fail
  rw [rounds_succ]
  go_wp2_with fail
  rw [rounds_succ]
  go_wp2_with fail
  rw [rounds_succ]
  go_wp2_with fail
  go_ret2
  exact ⟨rfl, hB⟩

set_option maxHeartbeats 1000000 in
theorem backq0s (a b k m : Int) (w : World) (ha : -1099511627776 ≤ a) (ha1 : a ≤ 1099511627776) (hb : -1099511627776 ≤ b) (hb1 : b ≤ 1099511627776) (h0 : -9223372036854775808 ≤ k) (h1 : k ≤ 9223372036854775807) (hm : k % 512 = m) (hq : m / 128 = 0) (hr : m % 128 ≤ 64) :
    Calls Try.prog 40 #[.int .i64 a, .int .i64 b, .int .i64 k] w fun e w' => e = .returned (.tuple #[.int .i64 (small (unrots 0 (a, b)).1 (unrots 0 (a, b)).2 (m % 128) true).1, .int .i64 (small (unrots 0 (a, b)).1 (unrots 0 (a, b)).2 (m % 128) true).2]) ∧ Below w.heap.size w w' := by
  have hm0 : 0 ≤ m := by omega
  have hm1 : m < 512 := by omega
  simp only [unrots]
  have HM := Lib.hid hm
  clear hm
  go_enter Try.func40, Try.ntmps40
  go_wp2_with fail
  refine (may_yes _ _ _ ha ha1 hb hb1).mono ?_
  rintro e w1 ⟨rfl, rfl⟩
  go_wp2_with fail
  refine (rest_calls k _ h0 h1).mono ?_
  rintro e w1 ⟨rfl, rfl⟩
  rw [HM.out]
  go_wp2_with fail
  refine wp_loop_rounds 1 ?_
  rw [rounds_succ]
  go_wp2_with fail
  refine (small_calls _ _ (m % 128) true _ (by omega) (by omega) (by omega) (by omega) (by omega) (by omega)).mono ?_
  rintro e w1 ⟨rfl, hB⟩
  go_wp2_with fail
  go_ret2
  exact ⟨rfl, hB⟩

set_option maxHeartbeats 1000000 in
theorem backq0g (a b k m : Int) (w : World) (ha : -1099511627776 ≤ a) (ha1 : a ≤ 1099511627776) (hb : -1099511627776 ≤ b) (hb1 : b ≤ 1099511627776) (h0 : -9223372036854775808 ≤ k) (h1 : k ≤ 9223372036854775807) (hm : k % 512 = m) (hq : m / 128 = 0) (hr : 64 < m % 128) :
    Calls Try.prog 40 #[.int .i64 a, .int .i64 b, .int .i64 k] w fun e w' => e = .returned (.tuple #[.int .i64 (small (unrots 1 (a, b)).1 (unrots 1 (a, b)).2 (128 - m % 128) false).1, .int .i64 (small (unrots 1 (a, b)).1 (unrots 1 (a, b)).2 (128 - m % 128) false).2]) ∧ Below w.heap.size w w' := by
  have hm0 : 0 ≤ m := by omega
  have hm1 : m < 512 := by omega
  simp only [unrots]
  have HM := Lib.hid hm
  clear hm
  go_enter Try.func40, Try.ntmps40
  go_wp2_with fail
  refine (may_yes _ _ _ ha ha1 hb hb1).mono ?_
  rintro e w1 ⟨rfl, rfl⟩
  go_wp2_with fail
  refine (rest_calls k _ h0 h1).mono ?_
  rintro e w1 ⟨rfl, rfl⟩
  rw [HM.out]
  go_wp2_with fail
  refine wp_loop_rounds 2 ?_
  rw [rounds_succ]
  go_wp2_with fail
  rw [rounds_succ]
  go_wp2_with fail
  refine (small_calls _ _ (128 - m % 128) false _ (by omega) (by omega) (by omega) (by omega) (by omega) (by omega)).mono ?_
  rintro e w1 ⟨rfl, hB⟩
  go_wp2_with fail
  go_ret2
  exact ⟨rfl, hB⟩

set_option maxHeartbeats 1000000 in
theorem backq1s (a b k m : Int) (w : World) (ha : -1099511627776 ≤ a) (ha1 : a ≤ 1099511627776) (hb : -1099511627776 ≤ b) (hb1 : b ≤ 1099511627776) (h0 : -9223372036854775808 ≤ k) (h1 : k ≤ 9223372036854775807) (hm : k % 512 = m) (hq : m / 128 = 1) (hr : m % 128 ≤ 64) :
    Calls Try.prog 40 #[.int .i64 a, .int .i64 b, .int .i64 k] w fun e w' => e = .returned (.tuple #[.int .i64 (small (unrots 1 (a, b)).1 (unrots 1 (a, b)).2 (m % 128) true).1, .int .i64 (small (unrots 1 (a, b)).1 (unrots 1 (a, b)).2 (m % 128) true).2]) ∧ Below w.heap.size w w' := by
  have hm0 : 0 ≤ m := by omega
  have hm1 : m < 512 := by omega
  simp only [unrots]
  have HM := Lib.hid hm
  clear hm
  go_enter Try.func40, Try.ntmps40
  go_wp2_with fail
  refine (may_yes _ _ _ ha ha1 hb hb1).mono ?_
  rintro e w1 ⟨rfl, rfl⟩
  go_wp2_with fail
  refine (rest_calls k _ h0 h1).mono ?_
  rintro e w1 ⟨rfl, rfl⟩
  rw [HM.out]
  go_wp2_with fail
  refine wp_loop_rounds 2 ?_
  rw [rounds_succ]
  go_wp2_with fail
  rw [rounds_succ]
  go_wp2_with fail
  refine (small_calls _ _ (m % 128) true _ (by omega) (by omega) (by omega) (by omega) (by omega) (by omega)).mono ?_
  rintro e w1 ⟨rfl, hB⟩
  go_wp2_with fail
  go_ret2
  exact ⟨rfl, hB⟩

set_option maxHeartbeats 1000000 in
theorem backq1g (a b k m : Int) (w : World) (ha : -1099511627776 ≤ a) (ha1 : a ≤ 1099511627776) (hb : -1099511627776 ≤ b) (hb1 : b ≤ 1099511627776) (h0 : -9223372036854775808 ≤ k) (h1 : k ≤ 9223372036854775807) (hm : k % 512 = m) (hq : m / 128 = 1) (hr : 64 < m % 128) :
    Calls Try.prog 40 #[.int .i64 a, .int .i64 b, .int .i64 k] w fun e w' => e = .returned (.tuple #[.int .i64 (small (unrots 2 (a, b)).1 (unrots 2 (a, b)).2 (128 - m % 128) false).1, .int .i64 (small (unrots 2 (a, b)).1 (unrots 2 (a, b)).2 (128 - m % 128) false).2]) ∧ Below w.heap.size w w' := by
  have hm0 : 0 ≤ m := by omega
  have hm1 : m < 512 := by omega
  simp only [unrots, Int.neg_neg]
  have HM := Lib.hid hm
  clear hm
  go_enter Try.func40, Try.ntmps40
  go_wp2_with fail
  refine (may_yes _ _ _ ha ha1 hb hb1).mono ?_
  rintro e w1 ⟨rfl, rfl⟩
  go_wp2_with fail
  refine (rest_calls k _ h0 h1).mono ?_
  rintro e w1 ⟨rfl, rfl⟩
  rw [HM.out]
  go_wp2_with fail
  refine wp_loop_rounds 3 ?_
  rw [rounds_succ]
  go_wp2_with fail
  rw [rounds_succ]
  go_wp2_with fail
  rw [rounds_succ]
  go_wp2_with fail
  refine (small_calls _ _ (128 - m % 128) false _ (by omega) (by omega) (by omega) (by omega) (by omega) (by omega)).mono ?_
  rintro e w1 ⟨rfl, hB⟩
  go_wp2_with fail
  go_ret2
  exact ⟨rfl, hB⟩

set_option maxHeartbeats 1000000 in
theorem backq2s (a b k m : Int) (w : World) (ha : -1099511627776 ≤ a) (ha1 : a ≤ 1099511627776) (hb : -1099511627776 ≤ b) (hb1 : b ≤ 1099511627776) (h0 : -9223372036854775808 ≤ k) (h1 : k ≤ 9223372036854775807) (hm : k % 512 = m) (hq : m / 128 = 2) (hr : m % 128 ≤ 64) :
    Calls Try.prog 40 #[.int .i64 a, .int .i64 b, .int .i64 k] w fun e w' => e = .returned (.tuple #[.int .i64 (small (unrots 2 (a, b)).1 (unrots 2 (a, b)).2 (m % 128) true).1, .int .i64 (small (unrots 2 (a, b)).1 (unrots 2 (a, b)).2 (m % 128) true).2]) ∧ Below w.heap.size w w' := by
  have hm0 : 0 ≤ m := by omega
  have hm1 : m < 512 := by omega
  simp only [unrots, Int.neg_neg]
  have HM := Lib.hid hm
  clear hm
  go_enter Try.func40, Try.ntmps40
  go_wp2_with fail
  refine (may_yes _ _ _ ha ha1 hb hb1).mono ?_
  rintro e w1 ⟨rfl, rfl⟩
  go_wp2_with fail
  refine (rest_calls k _ h0 h1).mono ?_
  rintro e w1 ⟨rfl, rfl⟩
  rw [HM.out]
  go_wp2_with fail
  refine wp_loop_rounds 3 ?_
  rw [rounds_succ]
  go_wp2_with fail
  rw [rounds_succ]
  go_wp2_with fail
  rw [rounds_succ]
  go_wp2_with fail
  refine (small_calls _ _ (m % 128) true _ (by omega) (by omega) (by omega) (by omega) (by omega) (by omega)).mono ?_
  rintro e w1 ⟨rfl, hB⟩
  go_wp2_with fail
  go_ret2
  exact ⟨rfl, hB⟩

set_option maxHeartbeats 1000000 in
theorem backq2g (a b k m : Int) (w : World) (ha : -1099511627776 ≤ a) (ha1 : a ≤ 1099511627776) (hb : -1099511627776 ≤ b) (hb1 : b ≤ 1099511627776) (h0 : -9223372036854775808 ≤ k) (h1 : k ≤ 9223372036854775807) (hm : k % 512 = m) (hq : m / 128 = 2) (hr : 64 < m % 128) :
    Calls Try.prog 40 #[.int .i64 a, .int .i64 b, .int .i64 k] w fun e w' => e = .returned (.tuple #[.int .i64 (small (unrots 3 (a, b)).1 (unrots 3 (a, b)).2 (128 - m % 128) false).1, .int .i64 (small (unrots 3 (a, b)).1 (unrots 3 (a, b)).2 (128 - m % 128) false).2]) ∧ Below w.heap.size w w' := by
  have hm0 : 0 ≤ m := by omega
  have hm1 : m < 512 := by omega
  simp only [unrots, Int.neg_neg]
  have HM := Lib.hid hm
  clear hm
  go_enter Try.func40, Try.ntmps40
  go_wp2_with fail
  refine (may_yes _ _ _ ha ha1 hb hb1).mono ?_
  rintro e w1 ⟨rfl, rfl⟩
  go_wp2_with fail
  refine (rest_calls k _ h0 h1).mono ?_
  rintro e w1 ⟨rfl, rfl⟩
  rw [HM.out]
  go_wp2_with fail
  refine wp_loop_rounds 4 ?_
  rw [rounds_succ]
  go_wp2_with fail
  rw [rounds_succ]
  go_wp2_with fail
  rw [rounds_succ]
  go_wp2_with fail
  rw [rounds_succ]
  go_wp2_with fail
  refine (small_calls _ _ (128 - m % 128) false _ (by omega) (by omega) (by omega) (by omega) (by omega) (by omega)).mono ?_
  rintro e w1 ⟨rfl, hB⟩
  go_wp2_with fail
  go_ret2
  exact ⟨rfl, hB⟩

set_option maxHeartbeats 1000000 in
theorem backq3s (a b k m : Int) (w : World) (ha : -1099511627776 ≤ a) (ha1 : a ≤ 1099511627776) (hb : -1099511627776 ≤ b) (hb1 : b ≤ 1099511627776) (h0 : -9223372036854775808 ≤ k) (h1 : k ≤ 9223372036854775807) (hm : k % 512 = m) (hq : m / 128 = 3) (hr : m % 128 ≤ 64) :
    Calls Try.prog 40 #[.int .i64 a, .int .i64 b, .int .i64 k] w fun e w' => e = .returned (.tuple #[.int .i64 (small (unrots 3 (a, b)).1 (unrots 3 (a, b)).2 (m % 128) true).1, .int .i64 (small (unrots 3 (a, b)).1 (unrots 3 (a, b)).2 (m % 128) true).2]) ∧ Below w.heap.size w w' := by
  have hm0 : 0 ≤ m := by omega
  have hm1 : m < 512 := by omega
  simp only [unrots, Int.neg_neg]
  have HM := Lib.hid hm
  clear hm
  go_enter Try.func40, Try.ntmps40
  go_wp2_with fail
  refine (may_yes _ _ _ ha ha1 hb hb1).mono ?_
  rintro e w1 ⟨rfl, rfl⟩
  go_wp2_with fail
  refine (rest_calls k _ h0 h1).mono ?_
  rintro e w1 ⟨rfl, rfl⟩
  rw [HM.out]
  go_wp2_with fail
  refine wp_loop_rounds 4 ?_
  rw [rounds_succ]
  go_wp2_with fail
  rw [rounds_succ]
  go_wp2_with fail
  rw [rounds_succ]
  go_wp2_with fail
  rw [rounds_succ]
  go_wp2_with fail
  refine (small_calls _ _ (m % 128) true _ (by omega) (by omega) (by omega) (by omega) (by omega) (by omega)).mono ?_
  rintro e w1 ⟨rfl, hB⟩
  go_wp2_with fail
  go_ret2
  exact ⟨rfl, hB⟩

set_option maxHeartbeats 1000000 in
theorem backq3g (a b k m : Int) (w : World) (ha : -1099511627776 ≤ a) (ha1 : a ≤ 1099511627776) (hb : -1099511627776 ≤ b) (hb1 : b ≤ 1099511627776) (h0 : -9223372036854775808 ≤ k) (h1 : k ≤ 9223372036854775807) (hm : k % 512 = m) (hq : m / 128 = 3) (hr : 64 < m % 128) :
    Calls Try.prog 40 #[.int .i64 a, .int .i64 b, .int .i64 k] w fun e w' => e = .returned (.tuple #[.int .i64 (small (unrots 4 (a, b)).1 (unrots 4 (a, b)).2 (128 - m % 128) false).1, .int .i64 (small (unrots 4 (a, b)).1 (unrots 4 (a, b)).2 (128 - m % 128) false).2]) ∧ Below w.heap.size w w' := by
  have hm0 : 0 ≤ m := by omega
  have hm1 : m < 512 := by omega
  simp only [unrots, Int.neg_neg]
  have HM := Lib.hid hm
  clear hm
  go_enter Try.func40, Try.ntmps40
  go_wp2_with fail
  refine (may_yes _ _ _ ha ha1 hb hb1).mono ?_
  rintro e w1 ⟨rfl, rfl⟩
  go_wp2_with fail
  refine (rest_calls k _ h0 h1).mono ?_
  rintro e w1 ⟨rfl, rfl⟩
  rw [HM.out]
  go_wp2_with fail
  refine wp_loop_rounds 5 ?_
  rw [rounds_succ]
  go_wp2_with fail
  rw [rounds_succ]
  go_wp2_with fail
  rw [rounds_succ]
  go_wp2_with fail
  rw [rounds_succ]
  go_wp2_with fail
  rw [rounds_succ]
  go_wp2_with fail
  refine (small_calls _ _ (128 - m % 128) false _ (by omega) (by omega) (by omega) (by omega) (by omega) (by omega)).mono ?_
  rintro e w1 ⟨rfl, hB⟩
  go_wp2_with fail
  go_ret2
  exact ⟨rfl, hB⟩

theorem turnL_calls (a b k : Int) (w : World) (ha : -1099511627776 ≤ a) (ha1 : a ≤ 1099511627776) (hb : -1099511627776 ≤ b) (hb1 : b ≤ 1099511627776) (h0 : -9223372036854775808 ≤ k) (h1 : k ≤ 9223372036854775807) :
    Calls Try.prog 37 #[.int .i64 a, .int .i64 b, .int .i64 k] w fun e w' => e = .returned (.tuple #[.int .i64 (turnL a b k).1, .int .i64 (turnL a b k).2]) ∧ Below w.heap.size w w' := by
  have hq : k % 512 / 128 = 0 ∨ k % 512 / 128 = 1 ∨ k % 512 / 128 = 2 ∨ k % 512 / 128 = 3 := by omega
  unfold turnL quarts
  by_cases hr : k % 512 % 128 ≤ 64
  · simp only [if_pos hr]
    rcases hq with hq | hq | hq | hq <;> simp only [hq]
    · exact turnq0s a b k _ w ha ha1 hb hb1 h0 h1 rfl hq hr
    · exact turnq1s a b k _ w ha ha1 hb hb1 h0 h1 rfl hq hr
    · exact turnq2s a b k _ w ha ha1 hb hb1 h0 h1 rfl hq hr
    · exact turnq3s a b k _ w ha ha1 hb hb1 h0 h1 rfl hq hr
  · simp only [if_neg hr]
    rcases hq with hq | hq | hq | hq <;> simp only [hq]
    · exact turnq0g a b k _ w ha ha1 hb hb1 h0 h1 rfl hq (by omega)
    · exact turnq1g a b k _ w ha ha1 hb hb1 h0 h1 rfl hq (by omega)
    · exact turnq2g a b k _ w ha ha1 hb hb1 h0 h1 rfl hq (by omega)
    · exact turnq3g a b k _ w ha ha1 hb hb1 h0 h1 rfl hq (by omega)

theorem turnL_stays (a b k : Int) (w : World) (h : a < -1099511627776 ∨ 1099511627776 < a ∨ b < -1099511627776 ∨ 1099511627776 < b) :
    Calls Try.prog 37 #[.int .i64 a, .int .i64 b, .int .i64 k] w fun e w' => e = .returned (.tuple #[.int .i64 a, .int .i64 b]) ∧ Below w.heap.size w w' := by
  go_enter Try.func37, Try.ntmps37
  go_wp2_with fail
  refine (may_no _ _ _ h).mono ?_
  rintro e w1 ⟨rfl, rfl⟩
  go_wp2_with fail
  go_ret2
  exact ⟨rfl, Below.refl _ _⟩

theorem backL_calls (a b k : Int) (w : World) (ha : -1099511627776 ≤ a) (ha1 : a ≤ 1099511627776) (hb : -1099511627776 ≤ b) (hb1 : b ≤ 1099511627776) (h0 : -9223372036854775808 ≤ k) (h1 : k ≤ 9223372036854775807) :
    Calls Try.prog 40 #[.int .i64 a, .int .i64 b, .int .i64 k] w fun e w' => e = .returned (.tuple #[.int .i64 (backL a b k).1, .int .i64 (backL a b k).2]) ∧ Below w.heap.size w w' := by
  have hq : k % 512 / 128 = 0 ∨ k % 512 / 128 = 1 ∨ k % 512 / 128 = 2 ∨ k % 512 / 128 = 3 := by omega
  unfold backL quarts
  by_cases hr : k % 512 % 128 ≤ 64
  · simp only [if_pos hr]
    rcases hq with hq | hq | hq | hq <;> simp only [hq]
    · exact backq0s a b k _ w ha ha1 hb hb1 h0 h1 rfl hq hr
    · exact backq1s a b k _ w ha ha1 hb hb1 h0 h1 rfl hq hr
    · exact backq2s a b k _ w ha ha1 hb hb1 h0 h1 rfl hq hr
    · exact backq3s a b k _ w ha ha1 hb hb1 h0 h1 rfl hq hr
  · simp only [if_neg hr]
    rcases hq with hq | hq | hq | hq <;> simp only [hq]
    · exact backq0g a b k _ w ha ha1 hb hb1 h0 h1 rfl hq (by omega)
    · exact backq1g a b k _ w ha ha1 hb hb1 h0 h1 rfl hq (by omega)
    · exact backq2g a b k _ w ha ha1 hb hb1 h0 h1 rfl hq (by omega)
    · exact backq3g a b k _ w ha ha1 hb hb1 h0 h1 rfl hq (by omega)

theorem backL_stays (a b k : Int) (w : World) (h : a < -1099511627776 ∨ 1099511627776 < a ∨ b < -1099511627776 ∨ 1099511627776 < b) :
    Calls Try.prog 40 #[.int .i64 a, .int .i64 b, .int .i64 k] w fun e w' => e = .returned (.tuple #[.int .i64 a, .int .i64 b]) ∧ Below w.heap.size w w' := by
  go_enter Try.func40, Try.ntmps40
  go_wp2_with fail
  refine (may_no _ _ _ h).mono ?_
  rintro e w1 ⟨rfl, rfl⟩
  go_wp2_with fail
  go_ret2
  exact ⟨rfl, Below.refl _ _⟩

end Go.Proofs.Ytlfiaaoegeodnaa
