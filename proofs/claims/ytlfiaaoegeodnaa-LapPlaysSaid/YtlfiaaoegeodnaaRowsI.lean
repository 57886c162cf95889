/- A slice of arrays of whole numbers that came in ([][32]int): its rows. -/
import Derived.Test.YtlfiaaoegeodnaaSlice
import Derived.Deep.Slices
namespace Go.Proofs.Ytlfiaaoegeodnaa
open Go.ChangeShapes Go.WideShapes Go.ChangeAt Go.RowKit

/-- what a slice's address must be, that these rows are read from it -/
def RowsA (w : World) (a : Option Addr) (rs : List (List Int)) : Prop := rs = [] ∨ ∃ g o, a = some ⟨g, o, none⟩ ∧ g < w.heap.size ∧ ∀ i, i < rs.length → w.rangeAt g (o + i * 32) ((rs.getD i []).map (Value.int .i64))
theorem rowsA_below {w w' : World} {a : Option Addr} {rs : List (List Int)} (h : RowsA w a rs) (hb : Below w.heap.size w w') : RowsA w' a rs := by
  rcases h with h | ⟨g, o, rfl, hg, hc⟩
  · exact Or.inl h
  · exact Or.inr ⟨g, o, rfl, Nat.lt_of_lt_of_le hg hb.size, fun i hi j v hv => (hb.cell (p := ⟨g, o + i * 32 + j, none⟩) hg).trans (hc i hi j v hv)⟩

section
variable {H : Type} {enc : TypeId × Value → H} {P : Program}
/-- an array's cells: its numbers -/
theorem trod_ints {w : World} {base : Nat} {sp : Nat → Bool} {held : Bool} {n fuel : Nat} {t e : TypeId} {k : IntKind} {l : List Value} {x : DataW H × List MemPlace}
    (ht : P.underlying t = some (.array n e)) (he : P.underlying e = some (.int k)) (hc : P.cellsOf t = n) (hce : P.cellsOf e = 1)
    (hf : DataW.trod enc P w base sp held fuel t l = some x) : ∃ zs : List Int, zs.length = n ∧ l = zs.map (Value.int k) ∧ ∀ z ∈ zs, (Lit.int k z).wf = true := by
  obtain ⟨xs, m, rfl, hx, hl, hlen, hel⟩ := DataW.trod_array ht hf
  rw [hc] at hl
  simp only [hce, Nat.mul_one] at hel
  have key : ∀ i, (h : i < l.length) → ∃ z, l[i] = .int k z ∧ (Lit.int k z).wf = true := by
    intro i h
    have h' : i < n := by omega
    have hi := hel i h'
    rw [List.getElem?_eq_getElem (by omega)] at hi
    obtain ⟨z, hz, _, hw⟩ := DataW.trod_int he hi
    rw [List.drop_eq_getElem_cons h] at hz
    simp only [List.take_succ_cons, List.take_zero, List.cons.injEq, and_true] at hz
    exact ⟨z, hz, hw⟩
  have key2 : ∀ l : List Value, (∀ i, (h : i < l.length) → ∃ z, l[i] = .int k z ∧ (Lit.int k z).wf = true) → ∃ zs : List Int, zs.length = l.length ∧ l = zs.map (Value.int k) ∧ ∀ z ∈ zs, (Lit.int k z).wf = true := by
    intro l
    induction l with
    | nil => exact fun _ => ⟨[], rfl, rfl, fun z hz => by cases hz⟩
    | cons a l ih =>
      intro hk
      obtain ⟨z, hz, hw⟩ := hk 0 (by simp)
      obtain ⟨zs, h1, h2, h3⟩ := ih (fun i h => by
        have h' : i + 1 < (a :: l).length := by simpa using h
        obtain ⟨z, hz, hw⟩ := hk (i + 1) h'
        exact ⟨z, by rw [← hz]; rfl, hw⟩)
      refine ⟨z :: zs, by simp [h1], by simp at hz; simp [hz, h2], ?_⟩
      intro y hy
      rcases List.mem_cons.1 hy with rfl | hy
      · exact hw
      · exact h3 y hy
  obtain ⟨zs, h1, h2, h3⟩ := key2 l key
  exact ⟨zs, by omega, h2, h3⟩

theorem open_rows {w : World} {base b0 : Nat} {held : Bool} {r : Reach} {t e q : TypeId} {v : Value} {d : DataW H} {ps : List MemPlace}
    (ht : P.underlying t = some (.slice e)) (he : P.underlying e = some (.array 32 q)) (hq : P.underlying q = some (.int .i64)) (hc : P.cellsOf e = 32) (hcq : P.cellsOf q = 1)
    (hval : Value.okWide P w r b0 t v) (hd : DataW.Trod enc P w base (fun _ => true) held t v d ps) :
    ∃ (a : Option Addr) (n c : Nat) (rs : List (List Int)), v = .slice a n c ∧ rs.length = n ∧ n ≤ maxLen ∧ RowsA w a rs ∧ ∀ i, i < n → (rs.getD i []).length = 32 ∧ ∀ z ∈ rs.getD i [], (Lit.int .i64 z).wf = true := by
  obtain ⟨a, n, c, rfl⟩ := okWide_slice ht hval
  obtain ⟨fuel, hf⟩ := hd
  rcases Deep.open_slice ht hf with ⟨hcs, hx⟩ | ⟨a', len', cap', m, n', D, Pl, hcs, _, hl, hm, hmm, hx, hrow⟩
  · simp [Value.cells] at hcs
    obtain ⟨rfl, rfl, rfl⟩ := hcs
    exact ⟨none, 0, 0, [], rfl, rfl, Nat.zero_le _, Or.inl rfl, fun i hi => absurd hi (Nat.not_lt_zero _)⟩
  · simp [Value.cells] at hcs
    obtain ⟨rfl, rfl, rfl⟩ := hcs
    simp only [if_true] at hmm
    have each : ∀ i, i < n → ∃ zs : List Int, zs.length = 32 ∧ (∀ j, j < 32 → w.cell? (a'.add (i * 32 + j)) = some (.int .i64 (zs.getD j 0))) ∧ ∀ z ∈ zs, (Lit.int .i64 z).wf = true := fun i hi => by
      obtain ⟨cs', h1, h2⟩ := hrow i (by omega)
      obtain ⟨zs, k1, rfl, k3⟩ := trod_ints he hq hc hcq h2
      rw [hc] at h1
      refine ⟨zs, k1, fun j hj => ?_, k3⟩
      have := (World.cells?_some h1).2.2 j hj
      rw [Deep.add_add] at this
      rw [this, List.getElem?_map, List.getElem?_eq_getElem (by omega), List.getD_eq_getElem?_getD, List.getElem?_eq_getElem (by omega)]
      rfl
    obtain ⟨f, hf2⟩ := Deep.choose_lt each
    have hget : ∀ i, i < n → ((List.range n).map f).getD i [] = f i := fun i hi => by
      simp [List.getD_eq_getElem?_getD, List.getElem?_map, List.getElem?_range hi]
    refine ⟨some a', n, c, (List.range n).map f, rfl, by simp, by omega, ?_, fun i hi => by rw [hget i hi]; exact ⟨(hf2 i hi).1, (hf2 i hi).2.2⟩⟩
    by_cases h0 : n = 0
    · subst h0
      exact Or.inl rfl
    · obtain ⟨b, o, spot⟩ := a'
      have h00 := (hf2 0 (by omega)).2.1 0 (by omega)
      have hspot : spot = none := by simpa [Addr.add] using World.cell?_spot h00
      subst hspot
      refine Or.inr ⟨b, o, rfl, World.block_lt_of_cell? w _ h00, fun i hi j u hu => ?_⟩
      have hi' : i < n := by simpa using hi
      rw [hget i hi'] at hu
      have hj := (List.getElem?_eq_some_iff.1 hu).1
      rw [List.length_map, (hf2 i hi').1] at hj
      have := (hf2 i hi').2.1 j hj
      rw [Addr.add_mid, ← Nat.add_assoc] at this
      rw [this]
      have hlen := (hf2 i hi').1
      rw [List.getElem?_map, List.getElem?_eq_getElem (by omega)] at hu
      simp only [Option.map_some, Option.some.injEq] at hu
      rw [← hu, List.getD_eq_getElem?_getD, List.getElem?_eq_getElem (by omega)]
      rfl
end
end Go.Proofs.Ytlfiaaoegeodnaa
