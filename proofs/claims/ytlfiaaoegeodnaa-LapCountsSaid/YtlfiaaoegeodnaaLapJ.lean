/- The walk of layer 11's statement LapCounts. -/
import Derived.Test.YtlfiaaoegeodnaaLapI
namespace Go.Proofs.Ytlfiaaoegeodnaa
open Go.RowKit
attribute [local go_sem ↓] Go.wp_at_zero Go.wp_at_succ

set_option maxHeartbeats 1000000 in
theorem lapCounts_walk (a0 : Int) (w0 : (Lit.int .u32 a0).wf = true) (w : World) : Calls Try.prog 26 #[.int .u32 a0] w (LawTrue w) := by
  have u0 : 0 ≤ a0 ∧ a0 ≤ 4294967295 := by simp [Lit.wf, IntKind.min, IntKind.max, IntKind.signed, IntKind.bits] at w0; omega
  have c1 := fun W => count_calls a0 W (by omega) (by omega)
  have c2 := fun W => count_calls (a0 + 32) W (by omega) (by omega)
  have c3 := fun W => count_neg (-1 - a0) W (by omega)
  have h1 : (a0 + 32) / 32 + min ((a0 + 32) % 32) 1 + 1 = a0 / 32 + min (a0 % 32) 1 + 1 + 1 := by omega
  rw [h1] at c2
  have h2 : a0 ≤ 32 * (a0 / 32 + min (a0 % 32) 1 + 1 - 1) := by omega
  have h3 : 32 * (a0 / 32 + min (a0 % 32) 1 + 1 - 2) < a0 := by omega
  have h4 : 0 ≤ a0 / 32 + min (a0 % 32) 1 + 1 ∧ a0 / 32 + min (a0 % 32) 1 + 1 ≤ 200000000 := by omega
  clear h1 w0
  generalize a0 / 32 + min (a0 % 32) 1 + 1 = c at *
  go_enter Try.func26, Try.ntmps26
  go_wp2_with fail
  refine (c1 _).mono ?_
  rintro e w' ⟨rfl, rfl⟩
  go_wp2_with fail
  refine (awake11_calls _).mono ?_
  rintro e w1 ⟨rfl, hB⟩
  go_wp2_with fail
  refine (c2 _).mono ?_
  rintro e w' ⟨rfl, rfl⟩
  go_wp2_with fail
  refine (c3 _).mono ?_
  rintro e w' ⟨rfl, rfl⟩
  go_wp2_with fail
  go_ret
  exact ⟨rfl, hB⟩
end Go.Proofs.Ytlfiaaoegeodnaa
