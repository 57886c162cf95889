/- Contracts of the document's turns that can be undone (layer 9). -/
import Derived.Test.YtlfiaaoegeodnaaRefT
import Derived.Test.YtlfiaaoegeodnaaLiftPlain
namespace Go.Proofs.Ytlfiaaoegeodnaa
open Go.RowKit

theorem downB_calls (n m : Int) (w : World) (h0 : -4611686018427387904 ≤ n) (h1 : n ≤ 4611686018427387904) (hm : 0 < m) (hm1 : m ≤ 4611686018427387904) :
    Calls Try.prog 69 #[.int .i64 n, .int .i64 m] w fun e w' => e = .returned (.int .i64 (n / m)) ∧ w = w' := by
  by_cases h : 0 ≤ n
  · have hq : 0 ≤ n / m := Int.ediv_nonneg h (by omega)
    have hq1 : n / m ≤ n := Int.ediv_le_self _ h
    have hr : 0 ≤ n % m := Int.emod_nonneg _ (by omega)
    have hr1 : n % m < m := Int.emod_lt_of_pos _ hm
    go_enter Try.func69, Try.ntmps69
    go_wp2
    go_ret
    exact ⟨rfl, rfl⟩
  · obtain ⟨e1, e2⟩ := tdiv_of_neg (n := n) (m := m) (by omega) hm
    have hq : 0 ≤ (-n) / m := Int.ediv_nonneg (by omega) (by omega)
    have hq1 : (-n) / m ≤ -n := Int.ediv_le_self _ (by omega)
    have hr0 : 0 ≤ (-n) % m := Int.emod_nonneg _ (by omega)
    have hr1 : (-n) % m < m := Int.emod_lt_of_pos _ hm
    have hid : m * ((-n) / m) + (-n) % m = -n := Int.mul_ediv_add_emod (-n) m
    by_cases hr : (-n) % m = 0
    · have hz : n / m = n.tdiv m := by
        rw [e1]
        have : n = m * (-((-n) / m)) := by rw [Int.mul_neg]; omega
        rw [this, Int.mul_ediv_cancel_left _ (by omega), ← this]
      have hb : -4611686018427387904 ≤ n.tdiv m ∧ n.tdiv m ≤ 0 := by omega
      have hc : 0 ≤ n.tmod m ∧ n.tmod m ≤ 0 := by omega
      rw [hz]
      clear e1 e2 hz hr hid hq hq1 hr0 hr1
      go_enter Try.func69, Try.ntmps69
      go_wp2
      go_ret
      exact ⟨rfl, rfl⟩
    · have hz : n / m = n.tdiv m - 1 := by
        rw [e1]
        have : n = (m - (-n) % m) + m * (-((-n) / m) - 1) := by rw [Int.mul_sub, Int.mul_neg]; omega
        rw [this, Int.add_mul_ediv_left _ _ (by omega), Int.ediv_eq_zero_of_lt (by omega) (by omega), ← this]
        omega
      have hb : -4611686018427387904 ≤ n.tdiv m ∧ n.tdiv m ≤ 0 := by omega
      have hc : -4611686018427387904 ≤ n.tmod m ∧ n.tmod m < 0 := by omega
      rw [hz]
      clear e1 e2 hz hr hid hq hq1 hr0 hr1
      go_enter Try.func69, Try.ntmps69
      go_wp2
      go_ret
      exact ⟨rfl, rfl⟩

theorem rpart_calls (x m : Int) (w : World) (hx : -70368744177664 ≤ x) (hx1 : x ≤ 70368744177664) (hm : 0 ≤ m) (hm1 : m ≤ 32768) :
    Calls Try.prog 42 #[.int .i64 x, .int .i64 m] w fun e w' => e = .returned (.int .i64 (part x m)) ∧ w = w' := by
  have hb := mul_bd (b := 70368744177664) hm hm1 hx hx1
  go_enter Try.func42, Try.ntmps42
  go_wp2_with fail
  refine (downB_calls _ _ _ (by omega) (by omega) (by omega) (by omega)).mono ?_
  rintro e w' ⟨rfl, rfl⟩
  go_wp2_with fail
  go_ret
  exact ⟨rfl, rfl⟩

theorem rfactors_calls (k : Int) (w : World) (h0 : 0 ≤ k) (h1 : k ≤ 64) :
    Calls Try.prog 44 #[.int .i64 k] w fun e w' => e = .returned (.tuple #[.int .i64 (facP k), .int .i64 (facQ k)]) ∧ w = w' := by
  by_cases hk : 1 ≤ k
  · have hf := fac_bd h0 h1
    have ht := trigT_bd k
    have hs := hf.2.2.2.2 hk
    have hz : (k == 0) = false := by rw [beq_eq_false_iff_ne]; omega
    unfold facP facQ at *
    generalize hxy : trigT k = p at *
    obtain ⟨x, y⟩ := p
    dsimp only at *
    have H := Lib.hid hxy
    clear hxy
    go_enter Try.func44, Try.ntmps44
    go_wp2_with fail
    refine (rturn_calls _ _).mono ?_
    rintro e w1 ⟨rfl, rfl⟩
    rw [H.out]
    dsimp only
    go_wp2_with fail
    refine (downB_calls _ _ _ (by omega) (by omega) (by omega) (by omega)).mono ?_
    rintro e w' ⟨rfl, rfl⟩
    go_wp2_with fail
    refine (downB_calls _ _ _ (by omega) (by omega) (by omega) (by omega)).mono ?_
    rintro e w' ⟨rfl, rfl⟩
    go_wp2_with fail
    refine (downB_calls _ _ _ (by omega) (by omega) (by omega) (by omega)).mono ?_
    rintro e w' ⟨rfl, rfl⟩
    go_wp2_with fail
    go_ret2
    exact ⟨rfl, rfl⟩
  · obtain rfl : k = 0 := by omega
    rw [facP_0, facQ_0]
    go_enter Try.func44, Try.ntmps44
    go_wp2_with fail
    go_ret2
    exact ⟨rfl, rfl⟩

set_option maxHeartbeats 1000000 in
theorem rsmall_no (a b k : Int) (w : World) (ha : -8796093022208 ≤ a) (ha1 : a ≤ 8796093022208) (hb : -8796093022208 ≤ b) (hb1 : b ≤ 8796093022208) (h0 : 0 ≤ k) (h1 : k ≤ 64) :
    Calls Try.prog 68 #[.int .i64 a, .int .i64 b, .int .i64 k, .int .i64 1] w fun e w' => e = .returned (.tuple #[.int .i64 (small a b k false).1, .int .i64 (small a b k false).2]) ∧ w = w' := by
  have hf := fac_bd h0 h1
  have e0 : small a b k false = (a - part b (facP k) - part (b + part (a - part b (facP k)) (facQ k)) (facP k), b + part (a - part b (facP k)) (facQ k)) := rfl
  rw [e0]
  clear e0
  dsimp only
  generalize hP : facP k = p at *
  generalize hQ : facQ k = q at *
  have HP := Lib.hid hP
  have HQ := Lib.hid hQ
  clear hP hQ
  have b1 := part_bd (x := b) (m := p) (b := 8796093022208) (by omega) (by omega) hb hb1
  have b2 := part_bd (x := a - part b p) (m := q) (b := 17592186044416) (by omega) (by omega) (by omega) (by omega)
  have b3 := part_bd (x := b + part (a - part b p) q) (m := p) (b := 26388279066624) (by omega) (by omega) (by omega) (by omega)
  go_enter Try.func68, Try.ntmps68
  go_wp2_with fail
  refine (rfactors_calls _ _ h0 h1).mono ?_
  rintro e w1 ⟨rfl, rfl⟩
  rw [HP.out, HQ.out]
  go_wp2_with fail
  refine (rpart_calls _ _ _ (by omega) (by omega) (by omega) (by omega)).mono ?_
  rintro e w' ⟨rfl, rfl⟩
  go_wp2_with fail
  refine (rpart_calls _ _ _ (by omega) (by omega) (by omega) (by omega)).mono ?_
  rintro e w' ⟨rfl, rfl⟩
  go_wp2_with fail
  refine (rpart_calls _ _ _ (by omega) (by omega) (by omega) (by omega)).mono ?_
  rintro e w' ⟨rfl, rfl⟩
  go_wp2_with fail
  go_ret2
  exact ⟨rfl, rfl⟩

set_option maxHeartbeats 1000000 in
theorem rsmall_yes (a b k : Int) (w : World) (ha : -8796093022208 ≤ a) (ha1 : a ≤ 8796093022208) (hb : -8796093022208 ≤ b) (hb1 : b ≤ 8796093022208) (h0 : 0 ≤ k) (h1 : k ≤ 64) :
    Calls Try.prog 68 #[.int .i64 a, .int .i64 b, .int .i64 k, .int .i64 (-1)] w fun e w' => e = .returned (.tuple #[.int .i64 (small a b k true).1, .int .i64 (small a b k true).2]) ∧ w = w' := by
  have hf := fac_bd h0 h1
  have e0 : small a b k true = (a + part b (facP k) + part (b + -part (a + part b (facP k)) (facQ k)) (facP k), b + -part (a + part b (facP k)) (facQ k)) := rfl
  rw [e0]
  clear e0
  dsimp only
  generalize hP : facP k = p at *
  generalize hQ : facQ k = q at *
  have HP := Lib.hid hP
  have HQ := Lib.hid hQ
  clear hP hQ
  have b1 := part_bd (x := b) (m := p) (b := 8796093022208) (by omega) (by omega) hb hb1
  have b2 := part_bd (x := a + part b p) (m := q) (b := 17592186044416) (by omega) (by omega) (by omega) (by omega)
  have b3 := part_bd (x := b + -part (a + part b p) q) (m := p) (b := 26388279066624) (by omega) (by omega) (by omega) (by omega)
  go_enter Try.func68, Try.ntmps68
  go_wp2_with fail
  refine (rfactors_calls _ _ h0 h1).mono ?_
  rintro e w1 ⟨rfl, rfl⟩
  rw [HP.out, HQ.out]
  go_wp2_with fail
  refine (rpart_calls _ _ _ (by omega) (by omega) (by omega) (by omega)).mono ?_
  rintro e w' ⟨rfl, rfl⟩
  go_wp2_with fail
  refine (rpart_calls _ _ _ (by omega) (by omega) (by omega) (by omega)).mono ?_
  rintro e w' ⟨rfl, rfl⟩
  go_wp2_with fail
  refine (rpart_calls _ _ _ (by omega) (by omega) (by omega) (by omega)).mono ?_
  rintro e w' ⟨rfl, rfl⟩
  go_wp2_with fail
  go_ret2
  exact ⟨rfl, rfl⟩

set_option maxHeartbeats 1000000 in
theorem rturnq0s (a b k m : Int) (w : World) (ha : -1099511627776 ≤ a) (ha1 : a ≤ 1099511627776) (hb : -1099511627776 ≤ b) (hb1 : b ≤ 1099511627776) (hm0 : 0 ≤ m) (hm1 : m < 512) (he : k.tmod 512 + (if k.tmod 512 < 0 then 512 else 0) = m) (hq : m / 128 = 0) (hr : m % 128 ≤ 64) :
    Calls Try.prog 41 #[.int .i64 a, .int .i64 b, .int .i64 k] w fun e w' => e = .returned (.tuple #[.int .i64 (rots 0 (small a b (m % 128) false)).1, .int .i64 (rots 0 (small a b (m % 128) false)).2]) ∧ w = w' := by
  have hrb := tmod_bd k (m := 511) (by omega)
  simp only [Int.reduceAdd] at hrb
  have hsb := small_bd (a := a) (b := b) (k := (m % 128)) false (c := 1099511627776) (by omega) (by omega) ha ha1 hb hb1
  generalize hS : small a b (m % 128) false = p at *
  obtain ⟨x, y⟩ := p
  have HS := Lib.hid hS
  clear hS
  dsimp only at hsb
  simp only [rots]
  have HQ := Lib.hid hq
  clear hq
  by_cases hneg : k.tmod 512 < 0
  · rw [if_pos hneg] at he
    have ht : -512 ≤ m - 512 ∧ m - 512 < 0 := by omega
    go_enter Try.func41, Try.ntmps41
    have hq := HQ.out
    go_wp2_with fail
    refine (rsmall_no a b (m % 128) _ (by omega) (by omega) (by omega) (by omega) (by omega) (by omega)).mono ?_
    rintro e w1 ⟨rfl, rfl⟩
    rw [HS.out]
    dsimp only
    go_wp2_with fail
    refine wp_loop_rounds 1 ?_
    rw [rounds_succ]
    go_wp2_with fail
    go_ret2
    exact ⟨rfl, rfl⟩
  · rw [if_neg hneg, Int.add_zero] at he
    rw [he] at hrb hneg
    go_enter Try.func41, Try.ntmps41
    have hq := HQ.out
    go_wp2_with fail
    refine (rsmall_no a b (m % 128) _ (by omega) (by omega) (by omega) (by omega) (by omega) (by omega)).mono ?_
    rintro e w1 ⟨rfl, rfl⟩
    rw [HS.out]
    dsimp only
    go_wp2_with fail
    refine wp_loop_rounds 1 ?_
    rw [rounds_succ]
    go_wp2_with fail
    go_ret2
    exact ⟨rfl, rfl⟩
set_option maxHeartbeats 1000000 in
theorem rturnq0g (a b k m : Int) (w : World) (ha : -1099511627776 ≤ a) (ha1 : a ≤ 1099511627776) (hb : -1099511627776 ≤ b) (hb1 : b ≤ 1099511627776) (hm0 : 0 ≤ m) (hm1 : m < 512) (he : k.tmod 512 + (if k.tmod 512 < 0 then 512 else 0) = m) (hq : m / 128 = 0) (hr : 64 < m % 128) :
    Calls Try.prog 41 #[.int .i64 a, .int .i64 b, .int .i64 k] w fun e w' => e = .returned (.tuple #[.int .i64 (rots 1 (small a b (128 - m % 128) true)).1, .int .i64 (rots 1 (small a b (128 - m % 128) true)).2]) ∧ w = w' := by
  have hrb := tmod_bd k (m := 511) (by omega)
  simp only [Int.reduceAdd] at hrb
  have hsb := small_bd (a := a) (b := b) (k := (128 - m % 128)) true (c := 1099511627776) (by omega) (by omega) ha ha1 hb hb1
  generalize hS : small a b (128 - m % 128) true = p at *
  obtain ⟨x, y⟩ := p
  have HS := Lib.hid hS
  clear hS
  dsimp only at hsb
  simp only [rots]
  have HQ := Lib.hid hq
  clear hq
  by_cases hneg : k.tmod 512 < 0
  · rw [if_pos hneg] at he
    have ht : -512 ≤ m - 512 ∧ m - 512 < 0 := by omega
    go_enter Try.func41, Try.ntmps41
    have hq := HQ.out
    go_wp2_with fail
    refine (rsmall_yes a b (128 - m % 128) _ (by omega) (by omega) (by omega) (by omega) (by omega) (by omega)).mono ?_
    rintro e w1 ⟨rfl, rfl⟩
    rw [HS.out]
    dsimp only
    go_wp2_with fail
    refine wp_loop_rounds 2 ?_
    rw [rounds_succ]
    go_wp2_with fail
    rw [rounds_succ]
    go_wp2_with fail
    go_ret2
    exact ⟨rfl, rfl⟩
  · rw [if_neg hneg, Int.add_zero] at he
    rw [he] at hrb hneg
    go_enter Try.func41, Try.ntmps41
    have hq := HQ.out
    go_wp2_with fail
    refine (rsmall_yes a b (128 - m % 128) _ (by omega) (by omega) (by omega) (by omega) (by omega) (by omega)).mono ?_
    rintro e w1 ⟨rfl, rfl⟩
    rw [HS.out]
    dsimp only
    go_wp2_with fail
    refine wp_loop_rounds 2 ?_
    rw [rounds_succ]
    go_wp2_with fail
    rw [rounds_succ]
    go_wp2_with fail
    go_ret2
    exact ⟨rfl, rfl⟩
set_option maxHeartbeats 1000000 in
theorem rturnq1s (a b k m : Int) (w : World) (ha : -1099511627776 ≤ a) (ha1 : a ≤ 1099511627776) (hb : -1099511627776 ≤ b) (hb1 : b ≤ 1099511627776) (hm0 : 0 ≤ m) (hm1 : m < 512) (he : k.tmod 512 + (if k.tmod 512 < 0 then 512 else 0) = m) (hq : m / 128 = 1) (hr : m % 128 ≤ 64) :
    Calls Try.prog 41 #[.int .i64 a, .int .i64 b, .int .i64 k] w fun e w' => e = .returned (.tuple #[.int .i64 (rots 1 (small a b (m % 128) false)).1, .int .i64 (rots 1 (small a b (m % 128) false)).2]) ∧ w = w' := by
  have hrb := tmod_bd k (m := 511) (by omega)
  simp only [Int.reduceAdd] at hrb
  have hsb := small_bd (a := a) (b := b) (k := (m % 128)) false (c := 1099511627776) (by omega) (by omega) ha ha1 hb hb1
  generalize hS : small a b (m % 128) false = p at *
  obtain ⟨x, y⟩ := p
  have HS := Lib.hid hS
  clear hS
  dsimp only at hsb
  simp only [rots]
  have HQ := Lib.hid hq
  clear hq
  by_cases hneg : k.tmod 512 < 0
  · rw [if_pos hneg] at he
    have ht : -512 ≤ m - 512 ∧ m - 512 < 0 := by omega
    go_enter Try.func41, Try.ntmps41
    have hq := HQ.out
    go_wp2_with fail
    refine (rsmall_no a b (m % 128) _ (by omega) (by omega) (by omega) (by omega) (by omega) (by omega)).mono ?_
    rintro e w1 ⟨rfl, rfl⟩
    rw [HS.out]
    dsimp only
    go_wp2_with fail
    refine wp_loop_rounds 2 ?_
    rw [rounds_succ]
    go_wp2_with fail
    rw [rounds_succ]
    go_wp2_with fail
    go_ret2
    exact ⟨rfl, rfl⟩
  · rw [if_neg hneg, Int.add_zero] at he
    rw [he] at hrb hneg
    go_enter Try.func41, Try.ntmps41
    have hq := HQ.out
    go_wp2_with fail
    refine (rsmall_no a b (m % 128) _ (by omega) (by omega) (by omega) (by omega) (by omega) (by omega)).mono ?_
    rintro e w1 ⟨rfl, rfl⟩
    rw [HS.out]
    dsimp only
    go_wp2_with fail
    refine wp_loop_rounds 2 ?_
    rw [rounds_succ]
    go_wp2_with fail
    rw [rounds_succ]
    go_wp2_with fail
    go_ret2
    exact ⟨rfl, rfl⟩
set_option maxHeartbeats 1000000 in
theorem rturnq1g (a b k m : Int) (w : World) (ha : -1099511627776 ≤ a) (ha1 : a ≤ 1099511627776) (hb : -1099511627776 ≤ b) (hb1 : b ≤ 1099511627776) (hm0 : 0 ≤ m) (hm1 : m < 512) (he : k.tmod 512 + (if k.tmod 512 < 0 then 512 else 0) = m) (hq : m / 128 = 1) (hr : 64 < m % 128) :
    Calls Try.prog 41 #[.int .i64 a, .int .i64 b, .int .i64 k] w fun e w' => e = .returned (.tuple #[.int .i64 (rots 2 (small a b (128 - m % 128) true)).1, .int .i64 (rots 2 (small a b (128 - m % 128) true)).2]) ∧ w = w' := by
  have hrb := tmod_bd k (m := 511) (by omega)
  simp only [Int.reduceAdd] at hrb
  have hsb := small_bd (a := a) (b := b) (k := (128 - m % 128)) true (c := 1099511627776) (by omega) (by omega) ha ha1 hb hb1
  generalize hS : small a b (128 - m % 128) true = p at *
  obtain ⟨x, y⟩ := p
  have HS := Lib.hid hS
  clear hS
  dsimp only at hsb
  simp only [rots, Int.neg_neg]
  have HQ := Lib.hid hq
  clear hq
  by_cases hneg : k.tmod 512 < 0
  · rw [if_pos hneg] at he
    have ht : -512 ≤ m - 512 ∧ m - 512 < 0 := by omega
    go_enter Try.func41, Try.ntmps41
    have hq := HQ.out
    go_wp2_with fail
    refine (rsmall_yes a b (128 - m % 128) _ (by omega) (by omega) (by omega) (by omega) (by omega) (by omega)).mono ?_
    rintro e w1 ⟨rfl, rfl⟩
    rw [HS.out]
    dsimp only
    go_wp2_with fail
    refine wp_loop_rounds 3 ?_
    rw [rounds_succ]
    go_wp2_with fail
    rw [rounds_succ]
    go_wp2_with fail
    rw [rounds_succ]
    go_wp2_with fail
    go_ret2
    exact ⟨rfl, rfl⟩
  · rw [if_neg hneg, Int.add_zero] at he
    rw [he] at hrb hneg
    go_enter Try.func41, Try.ntmps41
    have hq := HQ.out
    go_wp2_with fail
    refine (rsmall_yes a b (128 - m % 128) _ (by omega) (by omega) (by omega) (by omega) (by omega) (by omega)).mono ?_
    rintro e w1 ⟨rfl, rfl⟩
    rw [HS.out]
    dsimp only
    go_wp2_with fail
    refine wp_loop_rounds 3 ?_
    rw [rounds_succ]
    go_wp2_with fail
    rw [rounds_succ]
    go_wp2_with fail
    rw [rounds_succ]
    go_wp2_with fail
    go_ret2
    exact ⟨rfl, rfl⟩
set_option maxHeartbeats 1000000 in
theorem rturnq2s (a b k m : Int) (w : World) (ha : -1099511627776 ≤ a) (ha1 : a ≤ 1099511627776) (hb : -1099511627776 ≤ b) (hb1 : b ≤ 1099511627776) (hm0 : 0 ≤ m) (hm1 : m < 512) (he : k.tmod 512 + (if k.tmod 512 < 0 then 512 else 0) = m) (hq : m / 128 = 2) (hr : m % 128 ≤ 64) :
    Calls Try.prog 41 #[.int .i64 a, .int .i64 b, .int .i64 k] w fun e w' => e = .returned (.tuple #[.int .i64 (rots 2 (small a b (m % 128) false)).1, .int .i64 (rots 2 (small a b (m % 128) false)).2]) ∧ w = w' := by
  have hrb := tmod_bd k (m := 511) (by omega)
  simp only [Int.reduceAdd] at hrb
  have hsb := small_bd (a := a) (b := b) (k := (m % 128)) false (c := 1099511627776) (by omega) (by omega) ha ha1 hb hb1
  generalize hS : small a b (m % 128) false = p at *
  obtain ⟨x, y⟩ := p
  have HS := Lib.hid hS
  clear hS
  dsimp only at hsb
  simp only [rots, Int.neg_neg]
  have HQ := Lib.hid hq
  clear hq
  by_cases hneg : k.tmod 512 < 0
  · rw [if_pos hneg] at he
    have ht : -512 ≤ m - 512 ∧ m - 512 < 0 := by omega
    go_enter Try.func41, Try.ntmps41
    have hq := HQ.out
    go_wp2_with fail
    refine (rsmall_no a b (m % 128) _ (by omega) (by omega) (by omega) (by omega) (by omega) (by omega)).mono ?_
    rintro e w1 ⟨rfl, rfl⟩
    rw [HS.out]
    dsimp only
    go_wp2_with fail
    refine wp_loop_rounds 3 ?_
    rw [rounds_succ]
    go_wp2_with fail
    rw [rounds_succ]
    go_wp2_with fail
    rw [rounds_succ]
    go_wp2_with fail
    go_ret2
    exact ⟨rfl, rfl⟩
  · rw [if_neg hneg, Int.add_zero] at he
    rw [he] at hrb hneg
    go_enter Try.func41, Try.ntmps41
    have hq := HQ.out
    go_wp2_with fail
    refine (rsmall_no a b (m % 128) _ (by omega) (by omega) (by omega) (by omega) (by omega) (by omega)).mono ?_
    rintro e w1 ⟨rfl, rfl⟩
    rw [HS.out]
    dsimp only
    go_wp2_with fail
    refine wp_loop_rounds 3 ?_
    rw [rounds_succ]
    go_wp2_with fail
    rw [rounds_succ]
    go_wp2_with fail
    rw [rounds_succ]
    go_wp2_with fail
    go_ret2
    exact ⟨rfl, rfl⟩
set_option maxHeartbeats 1000000 in
theorem rturnq2g (a b k m : Int) (w : World) (ha : -1099511627776 ≤ a) (ha1 : a ≤ 1099511627776) (hb : -1099511627776 ≤ b) (hb1 : b ≤ 1099511627776) (hm0 : 0 ≤ m) (hm1 : m < 512) (he : k.tmod 512 + (if k.tmod 512 < 0 then 512 else 0) = m) (hq : m / 128 = 2) (hr : 64 < m % 128) :
    Calls Try.prog 41 #[.int .i64 a, .int .i64 b, .int .i64 k] w fun e w' => e = .returned (.tuple #[.int .i64 (rots 3 (small a b (128 - m % 128) true)).1, .int .i64 (rots 3 (small a b (128 - m % 128) true)).2]) ∧ w = w' := by
  have hrb := tmod_bd k (m := 511) (by omega)
  simp only [Int.reduceAdd] at hrb
  have hsb := small_bd (a := a) (b := b) (k := (128 - m % 128)) true (c := 1099511627776) (by omega) (by omega) ha ha1 hb hb1
  generalize hS : small a b (128 - m % 128) true = p at *
  obtain ⟨x, y⟩ := p
  have HS := Lib.hid hS
  clear hS
  dsimp only at hsb
  simp only [rots, Int.neg_neg]
  have HQ := Lib.hid hq
  clear hq
  by_cases hneg : k.tmod 512 < 0
  · rw [if_pos hneg] at he
    have ht : -512 ≤ m - 512 ∧ m - 512 < 0 := by omega
    go_enter Try.func41, Try.ntmps41
    have hq := HQ.out
    go_wp2_with fail
    refine (rsmall_yes a b (128 - m % 128) _ (by omega) (by omega) (by omega) (by omega) (by omega) (by omega)).mono ?_
    rintro e w1 ⟨rfl, rfl⟩
    rw [HS.out]
    dsimp only
    go_wp2_with fail
    refine wp_loop_rounds 4 ?_
    rw [rounds_succ]
    go_wp2_with fail
    rw [rounds_succ]
    go_wp2_with fail
    rw [rounds_succ]
    go_wp2_with fail
    rw [rounds_succ]
    go_wp2_with fail
    go_ret2
    exact ⟨rfl, rfl⟩
  · rw [if_neg hneg, Int.add_zero] at he
    rw [he] at hrb hneg
    go_enter Try.func41, Try.ntmps41
    have hq := HQ.out
    go_wp2_with fail
    refine (rsmall_yes a b (128 - m % 128) _ (by omega) (by omega) (by omega) (by omega) (by omega) (by omega)).mono ?_
    rintro e w1 ⟨rfl, rfl⟩
    rw [HS.out]
    dsimp only
    go_wp2_with fail
    refine wp_loop_rounds 4 ?_
    rw [rounds_succ]
    go_wp2_with fail
    rw [rounds_succ]
    go_wp2_with fail
    rw [rounds_succ]
    go_wp2_with fail
    rw [rounds_succ]
    go_wp2_with fail
    go_ret2
    exact ⟨rfl, rfl⟩
set_option maxHeartbeats 1000000 in
theorem rturnq3s (a b k m : Int) (w : World) (ha : -1099511627776 ≤ a) (ha1 : a ≤ 1099511627776) (hb : -1099511627776 ≤ b) (hb1 : b ≤ 1099511627776) (hm0 : 0 ≤ m) (hm1 : m < 512) (he : k.tmod 512 + (if k.tmod 512 < 0 then 512 else 0) = m) (hq : m / 128 = 3) (hr : m % 128 ≤ 64) :
    Calls Try.prog 41 #[.int .i64 a, .int .i64 b, .int .i64 k] w fun e w' => e = .returned (.tuple #[.int .i64 (rots 3 (small a b (m % 128) false)).1, .int .i64 (rots 3 (small a b (m % 128) false)).2]) ∧ w = w' := by
  have hrb := tmod_bd k (m := 511) (by omega)
  simp only [Int.reduceAdd] at hrb
  have hsb := small_bd (a := a) (b := b) (k := (m % 128)) false (c := 1099511627776) (by omega) (by omega) ha ha1 hb hb1
  generalize hS : small a b (m % 128) false = p at *
  obtain ⟨x, y⟩ := p
  have HS := Lib.hid hS
  clear hS
  dsimp only at hsb
  simp only [rots, Int.neg_neg]
  have HQ := Lib.hid hq
  clear hq
  by_cases hneg : k.tmod 512 < 0
  · rw [if_pos hneg] at he
    have ht : -512 ≤ m - 512 ∧ m - 512 < 0 := by omega
    go_enter Try.func41, Try.ntmps41
    have hq := HQ.out
    go_wp2_with fail
    refine (rsmall_no a b (m % 128) _ (by omega) (by omega) (by omega) (by omega) (by omega) (by omega)).mono ?_
    rintro e w1 ⟨rfl, rfl⟩
    rw [HS.out]
    dsimp only
    go_wp2_with fail
    refine wp_loop_rounds 4 ?_
    rw [rounds_succ]
    go_wp2_with fail
    rw [rounds_succ]
    go_wp2_with fail
    rw [rounds_succ]
    go_wp2_with fail
    rw [rounds_succ]
    go_wp2_with fail
    go_ret2
    exact ⟨rfl, rfl⟩
  · rw [if_neg hneg, Int.add_zero] at he
    rw [he] at hrb hneg
    go_enter Try.func41, Try.ntmps41
    have hq := HQ.out
    go_wp2_with fail
    refine (rsmall_no a b (m % 128) _ (by omega) (by omega) (by omega) (by omega) (by omega) (by omega)).mono ?_
    rintro e w1 ⟨rfl, rfl⟩
    rw [HS.out]
    dsimp only
    go_wp2_with fail
    refine wp_loop_rounds 4 ?_
    rw [rounds_succ]
    go_wp2_with fail
    rw [rounds_succ]
    go_wp2_with fail
    rw [rounds_succ]
    go_wp2_with fail
    rw [rounds_succ]
    go_wp2_with fail
    go_ret2
    exact ⟨rfl, rfl⟩
set_option maxHeartbeats 1000000 in
theorem rturnq3g (a b k m : Int) (w : World) (ha : -1099511627776 ≤ a) (ha1 : a ≤ 1099511627776) (hb : -1099511627776 ≤ b) (hb1 : b ≤ 1099511627776) (hm0 : 0 ≤ m) (hm1 : m < 512) (he : k.tmod 512 + (if k.tmod 512 < 0 then 512 else 0) = m) (hq : m / 128 = 3) (hr : 64 < m % 128) :
    Calls Try.prog 41 #[.int .i64 a, .int .i64 b, .int .i64 k] w fun e w' => e = .returned (.tuple #[.int .i64 (rots 4 (small a b (128 - m % 128) true)).1, .int .i64 (rots 4 (small a b (128 - m % 128) true)).2]) ∧ w = w' := by
  have hrb := tmod_bd k (m := 511) (by omega)
  simp only [Int.reduceAdd] at hrb
  have hsb := small_bd (a := a) (b := b) (k := (128 - m % 128)) true (c := 1099511627776) (by omega) (by omega) ha ha1 hb hb1
  generalize hS : small a b (128 - m % 128) true = p at *
  obtain ⟨x, y⟩ := p
  have HS := Lib.hid hS
  clear hS
  dsimp only at hsb
  simp only [rots, Int.neg_neg]
  have HQ := Lib.hid hq
  clear hq
  by_cases hneg : k.tmod 512 < 0
  · rw [if_pos hneg] at he
    have ht : -512 ≤ m - 512 ∧ m - 512 < 0 := by omega
    go_enter Try.func41, Try.ntmps41
    have hq := HQ.out
    go_wp2_with fail
    refine (rsmall_yes a b (128 - m % 128) _ (by omega) (by omega) (by omega) (by omega) (by omega) (by omega)).mono ?_
    rintro e w1 ⟨rfl, rfl⟩
    rw [HS.out]
    dsimp only
    go_wp2_with fail
    refine wp_loop_rounds 5 ?_
    rw [rounds_succ]
    go_wp2_with fail
    rw [rounds_succ]
    go_wp2_with fail
    rw [rounds_succ]
    go_wp2_with fail
    rw [rounds_succ]
    go_wp2_with fail
    rw [rounds_succ]
    go_wp2_with fail
    go_ret2
    exact ⟨rfl, rfl⟩
  · rw [if_neg hneg, Int.add_zero] at he
    rw [he] at hrb hneg
    go_enter Try.func41, Try.ntmps41
    have hq := HQ.out
    go_wp2_with fail
    refine (rsmall_yes a b (128 - m % 128) _ (by omega) (by omega) (by omega) (by omega) (by omega) (by omega)).mono ?_
    rintro e w1 ⟨rfl, rfl⟩
    rw [HS.out]
    dsimp only
    go_wp2_with fail
    refine wp_loop_rounds 5 ?_
    rw [rounds_succ]
    go_wp2_with fail
    rw [rounds_succ]
    go_wp2_with fail
    rw [rounds_succ]
    go_wp2_with fail
    rw [rounds_succ]
    go_wp2_with fail
    rw [rounds_succ]
    go_wp2_with fail
    go_ret2
    exact ⟨rfl, rfl⟩
theorem rturnL_calls (a b k : Int) (w : World) (ha : -1099511627776 ≤ a) (ha1 : a ≤ 1099511627776) (hb : -1099511627776 ≤ b) (hb1 : b ≤ 1099511627776) :
    Calls Try.prog 41 #[.int .i64 a, .int .i64 b, .int .i64 k] w fun e w' => e = .returned (.tuple #[.int .i64 (turnL a b k).1, .int .i64 (turnL a b k).2]) ∧ w = w' := by
  have he : k.tmod 512 + (if k.tmod 512 < 0 then 512 else 0) = k % 512 := by
    have h1 := tmod_bd k (m := 511) (by omega)
    simp only [Int.reduceAdd] at h1
    have e : k.tmod 512 = k % 512 ∨ k.tmod 512 = k % 512 - 512 := by
      rw [Int.tmod_eq_emod]
      split
      · left; omega
      · right; omega
    split <;> omega
  have hq : k % 512 / 128 = 0 ∨ k % 512 / 128 = 1 ∨ k % 512 / 128 = 2 ∨ k % 512 / 128 = 3 := by omega
  unfold turnL quarts
  by_cases hr : k % 512 % 128 ≤ 64
  · simp only [if_pos hr]
    rcases hq with hq | hq | hq | hq <;> simp only [hq]
    · exact rturnq0s a b k _ w ha ha1 hb hb1 (by omega) (by omega) he hq hr
    · exact rturnq1s a b k _ w ha ha1 hb hb1 (by omega) (by omega) he hq hr
    · exact rturnq2s a b k _ w ha ha1 hb hb1 (by omega) (by omega) he hq hr
    · exact rturnq3s a b k _ w ha ha1 hb hb1 (by omega) (by omega) he hq hr
  · simp only [if_neg hr]
    rcases hq with hq | hq | hq | hq <;> simp only [hq]
    · exact rturnq0g a b k _ w ha ha1 hb hb1 (by omega) (by omega) he hq (by omega)
    · exact rturnq1g a b k _ w ha ha1 hb hb1 (by omega) (by omega) he hq (by omega)
    · exact rturnq2g a b k _ w ha ha1 hb hb1 (by omega) (by omega) he hq (by omega)
    · exact rturnq3g a b k _ w ha ha1 hb hb1 (by omega) (by omega) he hq (by omega)

end Go.Proofs.Ytlfiaaoegeodnaa
