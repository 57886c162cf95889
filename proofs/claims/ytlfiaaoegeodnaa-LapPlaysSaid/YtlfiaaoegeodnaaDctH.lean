/- The contract of dct.Held. -/
import Derived.Test.YtlfiaaoegeodnaaDctP
import Derived.Test.YtlfiaaoegeodnaaFuncs
namespace Go.Proofs.Ytlfiaaoegeodnaa
open Go.RowKit

theorem great_calls (x : Int) (W : World) (_h0 : -9223372036854775808 ≤ x) (_h1 : x ≤ 9223372036854775807) :
    Calls Try.prog 77 #[.int .i64 x] W fun e w' => e = .returned (.bool (decide (x < -1073741824) || decide (1073741824 < x))) ∧ Below W.heap.size W w' := by
  by_cases h : x < -1073741824
  · go_enter Try.func77, Try.ntmps77
    go_wp2
    go_ret
    exact ⟨by simp [h], by first | exact Below.refl _ _ | exact (Below.refl _ _).drew | exact below_draws (Below.refl _ _) _⟩
  · by_cases h2 : 1073741824 < x
    · go_enter Try.func77, Try.ntmps77
      go_wp2
      go_ret
      exact ⟨by simp, by first | exact Below.refl _ _ | exact (Below.refl _ _).drew | exact below_draws (Below.refl _ _) _⟩
    · go_enter Try.func77, Try.ntmps77
      go_wp2
      go_ret
      exact ⟨by simp [h, h2], by first | exact Below.refl _ _ | exact (Below.refl _ _).drew | exact below_draws (Below.refl _ _) _⟩

theorem great_tells (w : World) : Tells 77 #[] (fun x => decide (x < -1073741824) || decide (1073741824 < x)) w :=
  fun W x hb h0 h1 => (great_calls x W h0 h1).mono fun _ _ h => ⟨h.1, bnext hb h.2⟩

theorem held_calls (zs : List Int) (w : World) (hl : zs.length = 32) (hi : ∀ z ∈ zs, -9223372036854775808 ≤ z ∧ z ≤ 9223372036854775807) :
    Calls Try.prog 49 #[.agg (ints zs)] w fun e w' => e = .returned (.bool (heldB zs)) ∧ Below w.heap.size w w' := by
  have hg := blk_new w 44 (ints zs)
  have eg : ∀ args w, (callFunc 77 args).run Try.prog w = .ok (.enter 77 args) w := enters_at Try.func77 (by kernel_rfl) rfl
  have hcall := containsf_calls 77 #[] (fun x => decide (x < -1073741824) || decide (1073741824 < x)) w.heap.size 0 32 32 zs (w.alloc (.cells (ints zs) 44)) hl (by omega) (by simp)
    (fun j hj => by rw [Nat.zero_add]; exact blk_int hg (by omega)) hi eg (great_tells _)
  unfold heldB
  clear eg hg hi
  generalize zs.any (fun x => decide (x < -1073741824) || decide (1073741824 < x)) = r at *
  go_enter Try.func49, Try.ntmps49
  go_wp2_with fail
  refine hcall.mono ?_
  rintro e w1 ⟨rfl, hB⟩
  go_wp2_with fail
  go_ret
  exact ⟨rfl, bnext ((Below.refl _ w).alloc (Nat.le_refl _) _) hB⟩
end Go.Proofs.Ytlfiaaoegeodnaa
