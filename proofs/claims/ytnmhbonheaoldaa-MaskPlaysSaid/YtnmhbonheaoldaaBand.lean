/- Contracts of the package band: whether there is a band, the step of coefficients. -/
import Derived.Test.YtnmhbonheaoldaaChecked
import Derived.Test.YtnmhbonheaoldaaFuncs
import Derived.Test.YtnmhbonheaoldaaBandP
import Derived.Deep.LoopGhost
import Derived.IntWalk
namespace Go.Proofs.Ytnmhbonheaoldaa
open Go.RowKit


theorem bandMay_calls (b : Int) (w : World) : Calls Try.prog 50 #[.int .i64 b] w fun e w' => e = .returned (.bool (decide (0 ≤ b) && decide (b < 8))) ∧ w = w' := by
  by_cases h : 0 ≤ b
  · by_cases h2 : b < 8
    · go_enter Try.func50, Try.ntmps50
      go_wp2
      go_ret
      exact ⟨by simp [h, h2], rfl⟩
    · go_enter Try.func50, Try.ntmps50
      go_wp2
      go_ret
      exact ⟨by simp [h2], rfl⟩
  · go_enter Try.func50, Try.ntmps50
    go_wp2
    go_ret
    exact ⟨by simp; omega, rfl⟩

theorem stepf_calls (x m : Int) (b : Nat) (W : World) (hm0 : 0 ≤ m) (hm : m ≤ 1099511627776) (hc : W.cell? ⟨b, 0, none⟩ = some (.int .i64 m)) :
    Calls Try.prog 49 #[.int .i64 x, .pointer (some ⟨b, 0, none⟩)] W fun e w' => e = .returned (.bool (decide (x < -m) || decide (m < x))) ∧ Below W.heap.size W w' := by
  by_cases h : x < -m
  · go_enter Try.func49, Try.ntmps49
    go_wp2
    go_ret
    exact ⟨by simp [h], by first | exact Below.refl _ _ | exact (Below.refl _ _).drew | exact below_draws (Below.refl _ _) _⟩
  · by_cases h2 : m < x
    · go_enter Try.func49, Try.ntmps49
      go_wp2
      go_ret
      exact ⟨by simp, by first | exact Below.refl _ _ | exact (Below.refl _ _).drew | exact below_draws (Below.refl _ _) _⟩
    · go_enter Try.func49, Try.ntmps49
      go_wp2
      go_ret
      exact ⟨by simp [h, h2], by first | exact Below.refl _ _ | exact (Below.refl _ _).drew | exact below_draws (Below.refl _ _) _⟩

set_option maxHeartbeats 1000000 in
theorem step_calls (zs : List Int) (w : World) (hl : zs.length = 4) (hi : ∀ z ∈ zs, -9223372036854775808 ≤ z ∧ z ≤ 9223372036854775807) :
    Calls Try.prog 22 #[.agg (ints zs)] w fun e w' => e = .returned (.int .i64 (stepL zs)) ∧ Below w.heap.size w w' := by
  have hg := blk_new w 28 (ints zs)
  have hA := (Below.refl _ w).alloc (Nat.le_refl _) (.cells (ints zs) 28)
  have eg : ∀ args w, (callFunc 49 args).run Try.prog w = .ok (.enter 49 args) w := enters_at Try.func49 (by kernel_rfl) rfl
  have EG := Lib.hid eg
  clear eg
  have HI := Lib.hid hi
  clear hi
  have HB := Lib.hid hg
  clear hg
  go_enter Try.func22, Try.ntmps22
  go_wp2_with fail
  go_loopg [5] 15 (fun gg s5 wr => ∃ kk : Nat, kk ≤ 15 ∧ 15 - kk ≤ gg ∧ s5 = .int .i64 kk ∧ Aside (Below w.heap.size w wr) ∧ Aside (Blk wr w.heap.size 28 (ints zs)) ∧ Aside (∀ j, j < kk → fitsB (6 * 2 ^ j) zs = false))
  case atStart => exact ⟨0, Nat.zero_le _, by omega, rfl, hA, HB.out, fun j hj => absurd hj (Nat.not_lt_zero _)⟩
  case round =>
    obtain ⟨kk, hkk, hg, rfl, B, K, A⟩ := hrel
    by_cases hlt : kk < 15
    · have hltz : (kk : Int) < 15 := by omega
      have hk0 : 0 ≤ (kk : Int) := by omega
      have hp := pow_le15 (s := kk) (by omega)
      have hw : wrap64 (6 * 2 ^ kk) = 6 * 2 ^ kk := IntWalk.wrap64_in _ ⟨by omega, by omega⟩
      have B1 := B.out.alloc (B.out.size) (.cells #[.int .i64 (6 * 2 ^ kk)] 3)
      have K1 := blk_alloc K.out (.cells #[.int .i64 (6 * 2 ^ kk)] 3)
      have hcall := containsf_calls 49 #[.pointer (some ⟨wr.heap.size, 0, none⟩)] (fun x => decide (x < -(6 * 2 ^ kk)) || decide (6 * 2 ^ kk < x)) w.heap.size 0 4 4 zs (wr.alloc (.cells #[.int .i64 (6 * 2 ^ kk)] 3)) hl (by omega) (blk_lt K1)
        (fun j hj => by rw [Nat.zero_add]; exact blk_int K1 (by omega)) HI.out EG.out (fun W x hb _ _ => (stepf_calls x (6 * 2 ^ kk) wr.heap.size W (by omega) (by omega) ((hb.cell (p := ⟨wr.heap.size, 0, none⟩) (by simp)).trans (by simp))).mono fun _ _ h => ⟨h.1, bnext hb h.2⟩)
      have HF := Lib.hid (show fitsB (6 * 2 ^ kk) zs = !(zs.any (fun x => decide (x < -(6 * 2 ^ kk)) || decide (6 * 2 ^ kk < x))) from rfl)
      clear hp
      generalize (zs.any (fun x => decide (x < -(6 * 2 ^ kk)) || decide (6 * 2 ^ kk < x))) = r at *
      cases r
      all_goals
        go_wp2_with fail
        refine hcall.mono ?_
        rintro e w1 ⟨rfl, hC⟩
        clear hcall
        go_wp2_with fail
      · go_ret
        have hz := HF.out
        exact ⟨ret_i64 (by rw [stepL_of ⟨by omega, A.out, fun _ => hz⟩]), bnext B1 hC⟩
      · go_roundg (15 - (kk + 1))
        case measure => omega
        case rel =>
          refine ⟨kk + 1, by omega, by omega, by go_num, bnext B1 hC, blk_below K1 hC (blk_lt K1), (show Aside _ from fun j hj => ?_)⟩
          by_cases e : j = kk
          · subst e; exact HF.out
          · exact A.out j (by omega)
    · have hltz : ¬ (kk : Int) < 15 := by omega
      have : kk = 15 := by omega
      subst this
      go_wp2_with fail
      go_ret
      exact ⟨ret_i64 (by rw [stepL_of ⟨Nat.le_refl _, A.out, fun hc => absurd hc (by omega)⟩]; rfl), B.out⟩
end Go.Proofs.Ytnmhbonheaoldaa
