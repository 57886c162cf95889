/- The contract of lift.small: a turn by an angle from 0 to 64, or its undoing. -/
import Derived.Test.YtlfiaaoegeodnaaLift
namespace Go.Proofs.Ytlfiaaoegeodnaa
open Go.RowKit

theorem factors_any (k : Int) (w : World) (h0 : 0 ≤ k) (h1 : k ≤ 64) :
    Calls Try.prog 43 #[.int .i64 k] w fun e w' => e = .returned (.tuple #[.int .i64 (facP k), .int .i64 (facQ k)]) ∧ Below w.heap.size w w' := by
  by_cases h : 1 ≤ k
  · exact factors_calls k w h h1
  · obtain rfl : k = 0 := by omega
    rw [facP_0, facQ_0]
    exact factors_zero 0 w (by omega)

set_option maxHeartbeats 1000000 in
theorem small_no (a b k : Int) (w : World) (ha : -8796093022208 ≤ a) (ha1 : a ≤ 8796093022208) (hb : -8796093022208 ≤ b) (hb1 : b ≤ 8796093022208) (h0 : 0 ≤ k) (h1 : k ≤ 64) :
    Calls Try.prog 67 #[.int .i64 a, .int .i64 b, .int .i64 k, .bool false] w fun e w' => e = .returned (.tuple #[.int .i64 (small a b k false).1, .int .i64 (small a b k false).2]) ∧ Below w.heap.size w w' := by
  have hf := fac_bd h0 h1
  have e0 : small a b k false = (a - part b (facP k) - part (b + part (a - part b (facP k)) (facQ k)) (facP k), b + part (a - part b (facP k)) (facQ k)) := rfl
  rw [e0]
  clear e0
  dsimp only
  generalize hP : facP k = p at *
  generalize hQ : facQ k = q at *
  have HP := Lib.hid hP
  have HQ := Lib.hid hQ
  clear hP hQ
  have b1 := part_bd (x := b) (m := p) (b := 8796093022208) (by omega) (by omega) hb hb1
  have b2 := part_bd (x := a - part b p) (m := q) (b := 17592186044416) (by omega) (by omega) (by omega) (by omega)
  have b3 := part_bd (x := b + part (a - part b p) q) (m := p) (b := 26388279066624) (by omega) (by omega) (by omega) (by omega)
  go_enter Try.func67, Try.ntmps67
  go_wp2_with fail
  refine (factors_any _ _ h0 h1).mono ?_
  rintro e w1 ⟨rfl, hB⟩
  rw [HP.out, HQ.out]
  go_wp2_with fail
  refine (lose_calls _ a b p q _ (by unfold Pair; simp [go_sem]) (by omega) (by omega) (by omega) (by omega) (by omega) (by omega)).mono ?_
  rintro e w2 ⟨rfl, rfl⟩
  go_wp2_with fail
  refine (gain_calls _ _ b p q _ (by unfold Pair; simp [go_sem]; rfl) (by omega) (by omega) (by omega) (by omega) (by omega) (by omega)).mono ?_
  rintro e w2 ⟨rfl, rfl⟩
  go_wp2_with fail
  refine (lose_calls _ _ _ p q _ (by unfold Pair; simp [go_sem]; exact ⟨rfl, rfl⟩) (by omega) (by omega) (by omega) (by omega) (by omega) (by omega)).mono ?_
  rintro e w2 ⟨rfl, rfl⟩
  go_wp2_with fail
  go_quiet (fail)
  go_wp2_with fail
  go_ret2
  exact ⟨rfl, below_draws (((hB.alloc hB.size _).drew).drew).drew _⟩

set_option maxHeartbeats 1000000 in
theorem small_yes (a b k : Int) (w : World) (ha : -8796093022208 ≤ a) (ha1 : a ≤ 8796093022208) (hb : -8796093022208 ≤ b) (hb1 : b ≤ 8796093022208) (h0 : 0 ≤ k) (h1 : k ≤ 64) :
    Calls Try.prog 67 #[.int .i64 a, .int .i64 b, .int .i64 k, .bool true] w fun e w' => e = .returned (.tuple #[.int .i64 (small a b k true).1, .int .i64 (small a b k true).2]) ∧ Below w.heap.size w w' := by
  have hf := fac_bd h0 h1
  have e0 : small a b k true = (a + part b (facP k) + part (b - part (a + part b (facP k)) (facQ k)) (facP k), b - part (a + part b (facP k)) (facQ k)) := rfl
  rw [e0]
  clear e0
  dsimp only
  generalize hP : facP k = p at *
  generalize hQ : facQ k = q at *
  have HP := Lib.hid hP
  have HQ := Lib.hid hQ
  clear hP hQ
  have b1 := part_bd (x := b) (m := p) (b := 8796093022208) (by omega) (by omega) hb hb1
  have b2 := part_bd (x := a + part b p) (m := q) (b := 17592186044416) (by omega) (by omega) (by omega) (by omega)
  have b3 := part_bd (x := b - part (a + part b p) q) (m := p) (b := 26388279066624) (by omega) (by omega) (by omega) (by omega)
  go_enter Try.func67, Try.ntmps67
  go_wp2_with fail
  refine (factors_any _ _ h0 h1).mono ?_
  rintro e w1 ⟨rfl, hB⟩
  rw [HP.out, HQ.out]
  go_wp2_with fail
  refine (unlose_calls _ a b p q _ (by unfold Pair; simp [go_sem]) (by omega) (by omega) (by omega) (by omega) (by omega) (by omega)).mono ?_
  rintro e w2 ⟨rfl, rfl⟩
  go_wp2_with fail
  refine (ungain_calls _ _ b p q _ (by unfold Pair; simp [go_sem]; rfl) (by omega) (by omega) (by omega) (by omega) (by omega) (by omega)).mono ?_
  rintro e w2 ⟨rfl, rfl⟩
  go_wp2_with fail
  refine (unlose_calls _ _ _ p q _ (by unfold Pair; simp [go_sem]; exact ⟨rfl, rfl⟩) (by omega) (by omega) (by omega) (by omega) (by omega) (by omega)).mono ?_
  rintro e w2 ⟨rfl, rfl⟩
  go_wp2_with fail
  go_quiet (fail)
  go_wp2_with fail
  go_ret2
  exact ⟨rfl, below_draws (((hB.alloc hB.size _).drew).drew).drew _⟩

theorem small_calls (a b k : Int) (s : Bool) (w : World) (ha : -8796093022208 ≤ a) (ha1 : a ≤ 8796093022208) (hb : -8796093022208 ≤ b) (hb1 : b ≤ 8796093022208) (h0 : 0 ≤ k) (h1 : k ≤ 64) :
    Calls Try.prog 67 #[.int .i64 a, .int .i64 b, .int .i64 k, .bool s] w fun e w' => e = .returned (.tuple #[.int .i64 (small a b k s).1, .int .i64 (small a b k s).2]) ∧ Below w.heap.size w w' := by
  cases s
  · exact small_no a b k w ha ha1 hb hb1 h0 h1
  · exact small_yes a b k w ha ha1 hb hb1 h0 h1

theorem may_yes (a b : Int) (w : World) (ha : -1099511627776 ≤ a) (ha1 : a ≤ 1099511627776) (hb : -1099511627776 ≤ b) (hb1 : b ≤ 1099511627776) :
    Calls Try.prog 65 #[.int .i64 a, .int .i64 b] w fun e w' => e = .returned (.bool true) ∧ w = w' := by
  go_enter Try.func65, Try.ntmps65
  go_wp2
  go_ret
  exact ⟨rfl, rfl⟩

theorem may_no (a b : Int) (w : World) (h : a < -1099511627776 ∨ 1099511627776 < a ∨ b < -1099511627776 ∨ 1099511627776 < b) :
    Calls Try.prog 65 #[.int .i64 a, .int .i64 b] w fun e w' => e = .returned (.bool false) ∧ w = w' := by
  go_enter Try.func65, Try.ntmps65
  by_cases h1 : -1099511627776 ≤ a <;> by_cases h2 : a ≤ 1099511627776 <;> by_cases h3 : -1099511627776 ≤ b <;> by_cases h4 : b ≤ 1099511627776 <;>
    first
    | (exfalso; omega)
    | (clear h; go_wp2; go_ret; exact ⟨rfl, rfl⟩)

theorem rest_calls (k : Int) (w : World) (_h0 : -9223372036854775808 ≤ k) (_h1 : k ≤ 9223372036854775807) :
    Calls Try.prog 66 #[.int .i64 k] w fun e w' => e = .returned (.int .i64 (k % 512)) ∧ w = w' := by
  have hr := tmod_bd k (m := 511) (by omega)
  have he := (rest512 k).2
  have hm : 0 ≤ k % 512 ∧ k % 512 < 512 := by omega
  simp only [Int.reduceAdd] at hr
  generalize k % 512 = m at *
  go_enter Try.func66, Try.ntmps66
  go_wp2
  go_ret
  exact ⟨rfl, rfl⟩

end Go.Proofs.Ytlfiaaoegeodnaa
