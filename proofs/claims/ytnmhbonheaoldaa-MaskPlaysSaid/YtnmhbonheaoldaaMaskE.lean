/- Contracts of the references that layer 17 asks: gains, sizes. -/
import Derived.Test.YtnmhbonheaoldaaMaskC
namespace Go.Proofs.Ytnmhbonheaoldaa
open Go.RowKit

set_option maxHeartbeats 400000 in
theorem refGain_calls (n : Nat) (w : World) (hn : n ≤ 15) : Calls Try.prog 36 #[.int .i64 n] w fun e w' => e = .returned (.int .i64 (2 ^ n)) ∧ w = w' := by
  have hn2 : (n : Int) ≤ 15 := by omega
  go_enter Try.func36, Try.ntmps36
  go_wp2_with fail
  go_loopg [3, 4] n (fun gg s3 s4 wr => ∃ kk : Nat, kk ≤ n ∧ n - kk ≤ gg ∧ s4 = .int .i64 kk ∧ s3 = .int .i64 (2 ^ kk) ∧ Aside (wr = w))
  case atStart => exact ⟨0, Nat.zero_le _, by omega, rfl, rfl, rfl⟩
  case round =>
    obtain ⟨kk, hkk, hgk, rfl, rfl, hW⟩ := hrel
    obtain rfl := hW.out
    clear hW
    by_cases hlt : kk < n
    · have hltz : (kk : Int) < n := by omega
      have hp := pow_le15 (s := kk) (by omega)
      have HF := Lib.hid (show (2 : Int) ^ (kk + 1) = 2 * 2 ^ kk by rw [Int.pow_succ]; omega)
      generalize (2 : Int) ^ kk = p at *
      go_wp2_with fail
      go_roundg (n - (kk + 1))
      case measure => omega
      case rel => exact ⟨kk + 1, by omega, by omega, by go_num, by rw [HF.out], rfl⟩
    · have hltz : ¬ (kk : Int) < n := by omega
      obtain rfl : kk = n := by omega
      go_wp2_with fail
      go_ret
      exact ⟨rfl, rfl⟩

theorem refSize_calls (x : Int) (w : World) (h0 : -4611686018427387904 ≤ x) (h1 : x ≤ 4611686018427387904) : Calls Try.prog 54 #[.int .i64 x] w fun e w' => e = .returned (.int .i64 (max x (-x))) ∧ w = w' := by
  by_cases h : x < 0
  · go_enter Try.func54, Try.ntmps54
    go_wp2
    go_ret
    exact ⟨ret_i64 (by omega), rfl⟩
  · go_enter Try.func54, Try.ntmps54
    go_wp2
    go_ret
    exact ⟨ret_i64 (by omega), rfl⟩
end Go.Proofs.Ytnmhbonheaoldaa
