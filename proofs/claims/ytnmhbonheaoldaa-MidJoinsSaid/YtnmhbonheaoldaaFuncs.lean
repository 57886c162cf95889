/- Contracts of slices.IndexFunc and slices.ContainsFunc at []int, over any predicate that turns nothing. -/
import Derived.Test.YtnmhbonheaoldaaChecked
import Derived.Test.YtnmhbonheaoldaaNum
import Derived.Test.YtnmhbonheaoldaaBlk
import Derived.Deep.LoopGhost
namespace Go.Proofs.Ytnmhbonheaoldaa
open Go.RowKit

/-- a function with a body is entered -/
theorem enters_at {P : Program} {f : FuncId} {fn : Func} {c : Code} (hf : P.funcs[f]? = some fn) (hn : (fn.name == "runtime.NumGoroutine") = false) (hb : fn.body = some c) (args : Array Value) (w : World) :
    (callFunc f args).run P w = .ok (.enter f args) w := by
  have h1 : fn.name ≠ "runtime.NumGoroutine" := by simpa using hn
  simp [callFunc, hf, h1, hb, mark]

/-- what is asked of a predicate -/
def Tells (fd : Nat) (lb : Array Value) (p : Int → Bool) (w : World) : Prop :=
  ∀ (W : World) (x : Int), Below w.heap.size w W → -9223372036854775808 ≤ x → x ≤ 9223372036854775807 → Calls Try.prog fd (#[.int .i64 x] ++ lb) W fun e w' => e = .returned (.bool (p x)) ∧ Below w.heap.size w w'

theorem any_hit {p : Int → Bool} {zs : List Int} {k : Nat} (hk : k < zs.length) (h : p (zs.getD k 0) = true) : zs.any p = true := by
  rw [List.any_eq_true]
  refine ⟨zs.getD k 0, ?_, h⟩
  rw [List.getD_eq_getElem?_getD, List.getElem?_eq_getElem hk]
  exact List.getElem_mem hk
theorem any_miss {p : Int → Bool} {zs : List Int} (h : ∀ k, k < zs.length → p (zs.getD k 0) = false) : zs.any p = false := by
  rw [List.any_eq_false]
  intro x hx
  obtain ⟨k, hk, rfl⟩ := List.mem_iff_getElem.1 hx
  have := h k hk
  rw [List.getD_eq_getElem?_getD, List.getElem?_eq_getElem hk] at this
  simpa using this

set_option maxHeartbeats 4000000 in
theorem indexf_calls (fd : Nat) (lb : Array Value) (p : Int → Bool) (b off n c : Nat) (zs : List Int) (w : World) (hz : zs.length = n) (hbig : n ≤ 9223372036854775807) (hb : b < w.heap.size)
    (hc : ∀ j, j < n → w.cell? ⟨b, off + j, none⟩ = some (.int .i64 (zs.getD j 0))) (hi : ∀ z ∈ zs, -9223372036854775808 ≤ z ∧ z ≤ 9223372036854775807)
    (eg : ∀ args w, (callFunc fd args).run Try.prog w = .ok (.enter fd args) w) (hp : Tells fd lb p w) :
    Calls Try.prog 58 #[.slice (some ⟨b, off, none⟩) n c, .func (.func fd) #[] lb] w fun e w' => ∃ r : Int, -1 ≤ r ∧ r ≤ 9223372036854775807 ∧ (zs.any p = decide (0 ≤ r)) ∧ e = .returned (.int .i64 r) ∧ Below w.heap.size w w' := by
  have HP := Lib.hid hp
  have HC := Lib.hid hc
  have HI := Lib.hid hi
  clear hp hc hi
  go_enter Try.func58, Try.ntmps58
  go_wp2_with fail
  go_loopg [5, 8] n (fun gg _ s8 wr => ∃ kk : Nat, kk ≤ n ∧ n - kk ≤ gg ∧ s8 = .int .i64 kk ∧ Aside (Below w.heap.size w wr) ∧ Aside (∀ j, j < kk → p (zs.getD j 0) = false))
  case atStart => exact ⟨0, Nat.zero_le _, by omega, rfl, Below.refl _ w, fun j hj => absurd hj (Nat.not_lt_zero _)⟩
  case round =>
    obtain ⟨kk, hkk, hg, rfl, B, A⟩ := hrel
    by_cases hlt : kk < n
    · have hltz : (kk : Int) < (n : Int) := by omega
      have hx := HI.out (zs.getD kk 0) (by rw [List.getD_eq_getElem?_getD, List.getElem?_eq_getElem (by omega)]; exact List.getElem_mem (by omega))
      have l2 := (B.out.cell (p := ⟨b, off + kk, none⟩) hb).trans (HC.out kk hlt)
      have hcall := HP.out wr (zs.getD kk 0) B.out hx.1 hx.2
      generalize hy : zs.getD kk 0 = y at *
      have Y := Lib.hid hy
      clear hy
      cases hq : p y with
      | true =>
        rw [hq] at hcall
        go_wp2_with fail
        refine hcall.mono ?_
        rintro e w' ⟨rfl, hb'⟩
        go_wp2_with fail
        go_ret
        exact ⟨kk, by omega, by omega, by rw [any_hit (hz ▸ hlt) (by rw [Y.out]; exact hq)]; simp, rfl, hb'⟩
      | false =>
        rw [hq] at hcall
        go_wp2_with fail
        refine hcall.mono ?_
        rintro e w' ⟨rfl, hb'⟩
        go_wp2_with fail
        go_roundg (n - (kk + 1))
        case measure => omega
        case rel =>
          refine ⟨kk + 1, by omega, by omega, by go_num, hb', (show Aside _ from fun j hj => ?_)⟩
          by_cases e : j = kk
          · subst e
            rw [Y.out]; exact hq
          · exact A.out j (by omega)
    · have hltz : ¬ (kk : Int) < (n : Int) := by omega
      have : kk = n := by omega
      subst this
      go_wp2_with fail
      go_ret
      exact ⟨-1, by omega, by omega, by rw [any_miss (hz ▸ A.out)]; rfl, rfl, B.out⟩

theorem containsf_calls (fd : Nat) (lb : Array Value) (p : Int → Bool) (b off n c : Nat) (zs : List Int) (w : World) (hz : zs.length = n) (hbig : n ≤ 9223372036854775807) (hb : b < w.heap.size)
    (hc : ∀ j, j < n → w.cell? ⟨b, off + j, none⟩ = some (.int .i64 (zs.getD j 0))) (hi : ∀ z ∈ zs, -9223372036854775808 ≤ z ∧ z ≤ 9223372036854775807)
    (eg : ∀ args w, (callFunc fd args).run Try.prog w = .ok (.enter fd args) w) (hp : Tells fd lb p w) :
    Calls Try.prog 48 #[.slice (some ⟨b, off, none⟩) n c, .func (.func fd) #[] lb] w fun e w' => e = .returned (.bool (zs.any p)) ∧ Below w.heap.size w w' := by
  have hcall := indexf_calls fd lb p b off n c zs w hz hbig hb hc hi eg hp
  clear hc hi hp eg
  go_enter Try.func48, Try.ntmps48
  go_wp2_with fail
  refine hcall.mono ?_
  rintro e w1 ⟨r, h0, h1, h2, rfl, hB⟩
  have HR := Lib.hid h2
  clear h2
  go_wp2_with fail
  go_ret
  exact ⟨by rw [HR.out]; rfl, hB⟩
end Go.Proofs.Ytnmhbonheaoldaa
