/- The contract of layer 10's squares: the squares' sum of a frame and its greatest number. -/
import Derived.Test.YtlfiaaoegeodnaaDctA
import Derived.Test.YtlfiaaoegeodnaaMax
import Derived.Deep.QuietTactic
namespace Go.Proofs.Ytlfiaaoegeodnaa
open Go.RowKit

@[go_sem] theorem run_max_three {P : Program} (w : World) (ts : Array TypeId) (t : TypeId) (k k1 k2 : IntKind) (x y z : Int) :
    (Builtin.max_ ts t #[.int k x, .int k1 y, .int k2 z]).run P w = .ok (.int k (max (max x y) z)) w := by
  simp [Builtin.max_, Builtin.max2, max_word]

/-- the greatest of the first n numbers, without their signs -/
def mostN (zs : List Int) : Nat → Int
  | 0 => 0
  | n + 1 => max (max (mostN zs n) (zs.getD n 0)) (-zs.getD n 0)
theorem mostN_nonneg (zs : List Int) : ∀ n, 0 ≤ mostN zs n
  | 0 => Int.le_refl 0
  | n + 1 => by have := mostN_nonneg zs n; rw [mostN]; omega
theorem mostN_ge (zs : List Int) : ∀ n i, i < n → -mostN zs n ≤ zs.getD i 0 ∧ zs.getD i 0 ≤ mostN zs n
  | n + 1, i, h => by
    rw [mostN]
    by_cases e : i = n
    · subst e; omega
    · have := mostN_ge zs n i (by omega); omega
theorem mostN_le {zs : List Int} {c : Int} (h : AllIn c zs) (hc : 0 ≤ c) : ∀ n, mostN zs n ≤ c
  | 0 => hc
  | n + 1 => by
    have h1 := mostN_le h hc n
    have h2 := allIn_get h n
    rw [mostN]; omega
theorem mostN_in {zs : List Int} (hl : zs.length = 32) : AllIn (mostN zs 32) zs := by
  intro z hz
  obtain ⟨i, hi, rfl⟩ := List.mem_iff_getElem.1 hz
  have h := mostN_ge zs 32 i (by omega)
  rw [List.getD_eq_getElem?_getD, List.getElem?_eq_getElem hi] at h
  exact h
theorem mul_self_in {x c : Int} (h0 : -c ≤ x) (h1 : x ≤ c) : 0 ≤ x * x ∧ x * x ≤ c * c := by
  refine ⟨mul_self_nn x, ?_⟩
  rcases Int.le_total 0 x with h | h
  · exact Int.mul_le_mul h1 h1 h (by omega)
  · have := Int.mul_le_mul (a := -x) (b := -x) (c := c) (d := c) (by omega) (by omega) (by omega) (by omega)
    rwa [Int.neg_mul_neg] at this

set_option maxHeartbeats 4000000 in
theorem squares_calls (zs : List Int) (w : World) (hl : zs.length = 32) (hz : AllIn 268435456 zs) :
    Calls Try.prog 50 #[.agg (ints zs)] w fun e w' => e = .returned (.tuple #[.int .i64 (T zs), .int .i64 (mostN zs 32)]) ∧ Below w.heap.size w w' := by
  have b0 := blk_new w 44 (ints zs)
  have hA := (Below.refl _ w).alloc (Nat.le_refl _) (.cells (ints zs) 44)
  have B0 := Lib.hid b0
  have HA := Lib.hid hA
  have hsum : ∀ n, n ≤ 32 → 0 ≤ sumN (sq zs) n ∧ sumN (sq zs) n ≤ n * 72057594037927936 := fun n _ => ⟨sumN_nonneg (sqz_nonneg zs) n, sumN_le_const (fun i => (mul_self_in (allIn_get hz i).1 (allIn_get hz i).2).2) n⟩
  have HS := Lib.hid hsum
  have HZ := Lib.hid hz
  clear b0 hA hsum hz
  unfold T
  go_enter Try.func50, Try.ntmps50
  go_wp2_with fail
  go_loopg [4, 5, 6] 32 (fun gg a b c wr => ∃ n : Nat, n ≤ 32 ∧ 32 - n ≤ gg ∧ c = .int .i64 n ∧ a = .int .i64 (sumN (sq zs) n) ∧ b = .int .i64 (mostN zs n) ∧ Aside (Blk wr w.heap.size 44 (ints zs)) ∧ Aside (Below w.heap.size w wr))
  case atStart => exact ⟨0, by omega, by omega, rfl, rfl, rfl, B0.out, HA.out⟩
  case round =>
    obtain ⟨n, hn, hgg, rfl, rfl, rfl, RB, RW⟩ := hrel
    clear B0 HA
    by_cases hlt : n < 32
    · have c0 := blk_int RB.out (i := n) (by omega)
      have hx := allIn_get HZ.out n
      have hp := mul_self_in hx.1 hx.2
      have h1 := HS.out n hn
      have h2 := mostN_le HZ.out (by omega) n
      have h3 := mostN_nonneg zs n
      have es : sumN (sq zs) (n + 1) = sumN (sq zs) n + zs.getD n 0 * zs.getD n 0 := rfl
      have em : mostN zs (n + 1) = max (max (mostN zs n) (zs.getD n 0)) (-zs.getD n 0) := rfl
      have ES := Lib.hid es
      have EM := Lib.hid em
      clear es em
      generalize zs.getD n 0 = x at *
      generalize sumN (sq zs) n = s at *
      generalize mostN zs n = m at *
      go_wp2_with fail
      go_region
      go_wp2_with fail
      go_region
      go_wp2_with fail
      go_roundg (32 - (n + 1))
      case measure => omega
      case rel => exact ⟨n + 1, by omega, by omega, by go_num, by rw [ES.out], by rw [EM.out, Int.max_assoc], RB.out, RW.out.drew.drew⟩
    · obtain rfl : n = 32 := by omega
      go_wp2_with fail
      go_ret2
      exact ⟨rfl, RW.out⟩
end Go.Proofs.Ytlfiaaoegeodnaa
