/- The contracts of lap.Count and lap.Frames. -/
import Derived.Test.YtlfiaaoegeodnaaLapM
import Derived.Test.YtlfiaaoegeodnaaLapS
import Derived.Test.YtlfiaaoegeodnaaFuncsA
import Derived.Test.YtlfiaaoegeodnaaDctA
import Derived.Lib.MinMax
import Derived.Laws.MakeOwn
import Derived.OwnWalk
namespace Go.Proofs.Ytlfiaaoegeodnaa
open Go.RowKit
attribute [local go_sem ↓] Go.wp_at_zero Go.wp_at_succ

theorem count_calls (n : Int) (w : World) (h0 : 0 ≤ n) (h1 : n ≤ 9223372036854775807) : Calls Try.prog 58 #[.int .i64 n] w fun e w' => e = .returned (.int .i64 (n / 32 + min (n % 32) 1 + 1)) ∧ w = w' := by
  go_enter Try.func58, Try.ntmps58
  go_wp2
  go_ret
  exact ⟨rfl, rfl⟩
theorem count_neg (n : Int) (w : World) (h0 : n < 0) : Calls Try.prog 58 #[.int .i64 n] w fun e w' => e = .returned (.int .i64 0) ∧ w = w' := by
  go_enter Try.func58, Try.ntmps58
  go_wp2
  go_ret
  exact ⟨rfl, rfl⟩
theorem countN_cast (n : Nat) : (n : Int) / 32 + min ((n : Int) % 32) 1 + 1 = (countN n : Int) := by unfold countN; omega

theorem lgreat_calls (m : Int) (w : World) : Calls Try.prog 78 #[.int .i64 m] w fun e w' => e = .returned (.func (.func 87) #[] #[.pointer (some ⟨w.heap.size, 0, none⟩)]) ∧ w.alloc (.cells #[.int .i64 m] 3) = w' := by
  go_enter Try.func78, Try.ntmps78
  go_wp2
  go_ret
  exact ⟨rfl, rfl⟩

theorem lgreatf_calls (x m : Int) (b : Nat) (W : World) (hm0 : 0 ≤ m) (hm : m ≤ 1099511627776) (hc : W.cell? ⟨b, 0, none⟩ = some (.int .i64 m)) :
    Calls Try.prog 87 #[.int .i64 x, .pointer (some ⟨b, 0, none⟩)] W fun e w' => e = .returned (.bool (decide (x < -m) || decide (m < x))) ∧ Below W.heap.size W w' := by
  by_cases h : x < -m
  · go_enter Try.func87, Try.ntmps87
    go_wp2
    go_ret
    exact ⟨by simp [h], by first | exact Below.refl _ _ | exact (Below.refl _ _).drew | exact below_draws (Below.refl _ _) _⟩
  · by_cases h2 : m < x
    · go_enter Try.func87, Try.ntmps87
      go_wp2
      go_ret
      exact ⟨by simp, by first | exact Below.refl _ _ | exact (Below.refl _ _).drew | exact below_draws (Below.refl _ _) _⟩
    · go_enter Try.func87, Try.ntmps87
      go_wp2
      go_ret
      exact ⟨by simp [h, h2], by first | exact Below.refl _ _ | exact (Below.refl _ _).drew | exact below_draws (Below.refl _ _) _⟩

/-- what is too great is found -/
theorem lcontains (m : Int) (a : Option Addr) (n c : Nat) (zs : List Int) (w : World) (hm0 : 0 ≤ m) (hm : m ≤ 1099511627776) (hz : zs.length = n) (hbig : n ≤ 9223372036854775807) (h : SlA w a zs) (hi : ∀ z ∈ zs, -9223372036854775808 ≤ z ∧ z ≤ 9223372036854775807) :
    Calls Try.prog 76 #[.slice a n c, .func (.func 87) #[] #[.pointer (some ⟨w.heap.size, 0, none⟩)]] (w.alloc (.cells #[.int .i64 m] 3)) fun e w' => e = .returned (.bool (zs.any fun x => decide (x < -m) || decide (m < x))) ∧ Below (w.alloc (.cells #[.int .i64 m] 3)).heap.size (w.alloc (.cells #[.int .i64 m] 3)) w' :=
  containsf_any 87 #[.pointer (some ⟨w.heap.size, 0, none⟩)] _ a n c zs _ hz hbig (slA_below h ((Below.refl _ w).alloc (Nat.le_refl _) _)) hi
    (enters_at Try.func87 (by kernel_rfl) rfl)
    (fun W x hb _ _ => (lgreatf_calls x m w.heap.size W hm0 hm ((hb.cell (p := ⟨w.heap.size, 0, none⟩) (by simp)).trans (by simp))).mono fun _ _ h => ⟨h.1, bnext hb h.2⟩)

def greatL (m : Int) (zs : List Int) : Bool := zs.any fun x => decide (x < -m) || decide (m < x)
theorem greatL_in {m : Int} {zs : List Int} : greatL m zs = false ↔ AllIn m zs := by
  simp only [greatL, List.any_eq_false, Bool.not_eq_true, Bool.or_eq_false_iff, decide_eq_false_iff_not, AllIn]
  constructor <;> intro h z hz <;> have := h z hz <;> omega

theorem frames_great (a : Option Addr) (n c : Nat) (l : List Int) (w : World) (hz : l.length = n) (hn : n ≤ 100000) (h : SlA w a l) (hi : ∀ z ∈ l, -9223372036854775808 ≤ z ∧ z ≤ 9223372036854775807) (hg : greatL 1048576 l = true) :
    Calls Try.prog 56 #[.slice a n c] w fun e w' => e = .returned (.tuple #[.slice none 0 0, .int .i64 7]) ∧ Below w.heap.size w w' := by
  have hc := lcontains 1048576 a n c l w (by omega) (by omega) hz (by omega) h hi
  have hA := (Below.refl _ w).alloc (Nat.le_refl _) (.cells #[.int .i64 1048576] 3)
  rw [show (l.any fun x => decide (x < -1048576) || decide (1048576 < x)) = true from hg] at hc
  clear hi hg
  go_enter Try.func56, Try.ntmps56
  go_wp2_with fail
  refine (lgreat_calls _ _).mono ?_
  rintro e w1 ⟨rfl, rfl⟩
  go_wp2_with fail
  refine hc.mono ?_
  rintro e w2 ⟨rfl, hB⟩
  have hE := bnext hA hB
  go_wp2_with fail
  go_ret2
  exact ⟨rfl, hE⟩
end Go.Proofs.Ytlfiaaoegeodnaa
