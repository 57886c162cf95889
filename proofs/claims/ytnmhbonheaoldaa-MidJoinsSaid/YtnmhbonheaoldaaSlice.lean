/- A slice of whole numbers that came in: its numbers. -/
import Derived.Test.YtnmhbonheaoldaaFrame
import Derived.Test.YtnmhbonheaoldaaFuncsA
import Derived.ChangeSlices
namespace Go.Proofs.Ytnmhbonheaoldaa
open Go.ChangeShapes Go.WideShapes Go.ChangeAt Go.RowKit

section
variable {H : Type} {enc : TypeId × Value → H} {P : Program}
theorem open_sl {w : World} {base b0 : Nat} {held : Bool} {r : Reach} {t e : TypeId} {v : Value} {d : DataW H} {ps : List MemPlace}
    (ht : P.underlying t = some (.slice e)) (he : P.underlying e = some (.int .i64)) (hc : P.cellsOf e = 1)
    (hval : Value.okWide P w r b0 t v) (hd : DataW.Trod enc P w base (fun _ => true) held t v d ps) :
    ∃ (a : Option Addr) (n c : Nat) (zs : List Int), v = .slice a n c ∧ zs.length = n ∧ n ≤ maxLen ∧ SlA w a zs ∧ ∀ z ∈ zs, (Lit.int .i64 z).wf = true := by
  obtain ⟨a, n, c, rfl⟩ := okWide_slice ht hval
  obtain ⟨fuel, hf⟩ := hd
  rcases open_ints ht he hc hf with ⟨hcs, hx⟩ | ⟨a', len', cap', zs, hcs, _, hl, hm, hz, hx, hcell, hwz⟩
  · simp [Value.cells] at hcs
    obtain ⟨rfl, rfl, rfl⟩ := hcs
    exact ⟨none, 0, 0, [], rfl, rfl, Nat.zero_le _, Or.inl rfl, fun z hz => by simp at hz⟩
  · simp [Value.cells] at hcs
    obtain ⟨rfl, rfl, rfl⟩ := hcs
    simp only [if_true] at hz
    have hzt : (zs.take n).length = n := by rw [List.length_take]; omega
    refine ⟨some a', n, c, zs.take n, rfl, hzt, by omega, ?_, fun z hz' => hwz z (List.mem_of_mem_take hz')⟩
    by_cases h0 : n = 0
    · subst h0
      exact Or.inl (by simp)
    · obtain ⟨b, o, spot⟩ := a'
      have hspot : spot = none := by simpa [Addr.add] using World.cell?_spot (hcell 0 (by omega))
      subst hspot
      have hc' : ∀ j, j < zs.length → w.cell? ⟨b, o + j, none⟩ = some (.int .i64 (zs.getD j 0)) := fun j hj => by
        have := hcell j hj
        rwa [Addr.add_mid] at this
      refine Or.inr ⟨b, o, rfl, ?_, fun j hj => ?_⟩
      · have := hc' 0 (by omega)
        exact World.block_lt_of_cell? w _ this
      · rw [hzt] at hj
        rw [hc' j (by omega), List.getD_eq_getElem?_getD, List.getD_eq_getElem?_getD, List.getElem?_take, if_pos hj]
end
end Go.Proofs.Ytnmhbonheaoldaa
