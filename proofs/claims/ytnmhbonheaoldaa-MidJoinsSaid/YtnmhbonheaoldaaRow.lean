/- Rows of one's own, and what an append may take. -/
import Derived.Test.YtnmhbonheaoldaaSlice
import Derived.Laws.AppendOwnNone
namespace Go.Proofs.Ytnmhbonheaoldaa
open Go.ChangeShapes Go.WideShapes Go.ChangeAt Go.RowKit

theorem ints_one1 (zs : List Int) : ∀ u ∈ zs.map (Value.int .i64), u.oneCell' = true := fun u hu => by
  obtain ⟨z, _, rfl⟩ := List.mem_map.1 hu
  rfl

/-- a row of one's own, in a world further on -/
theorem owns_below {w w' : World} {base n B : Nat} {v : Value} {t : TypeId} {xs : List Value} (h : w.ownsRow base t 1 v n xs) (hb : Below B w w') (hB : w.heap.size ≤ B) : w'.ownsRow base t 1 v n xs := by
  obtain ⟨hl, h | ⟨g, cap, cur, rfl, h1, h2, h3⟩⟩ := h
  · exact ⟨hl, Or.inl h⟩
  · have hg : g < w.heap.size := (Array.getElem?_eq_some_iff.1 h2).1
    exact ⟨hl, Or.inr ⟨g, cap, cur, rfl, h1, (hb.block g (by omega)).trans h2, h3⟩⟩
/-- numbers that an append may take: nil, or a row -/
def Src2 (w : World) (v : Value) (zs : List Int) : Prop := (v = .slice none 0 0 ∧ zs = []) ∨ ∃ ad c, v = .slice (some ad) zs.length c ∧ ∀ j u, (zs.map (Value.int .i64))[j]? = some u → w.cell? (ad.add j) = some u
theorem src2_of {w : World} {a : Option Addr} {n c : Nat} {zs : List Int} (hz : zs.length = n) (h : SlA w a zs) (h0 : a = none → c = 0) : Src2 w (.slice a n c) zs := by
  rcases a with _ | ad
  · rcases h with rfl | ⟨g, o, e, _⟩
    · refine Or.inl ⟨?_, rfl⟩
      rw [h0 rfl, ← hz]
      rfl
    · cases e
  · refine Or.inr ⟨ad, c, by rw [hz], fun j u hu => ?_⟩
    have hlt := (List.getElem?_eq_some_iff.1 hu).1
    rw [List.length_map] at hlt
    rcases h with rfl | ⟨g, o, e, _, hc⟩
    · simp at hlt
    · cases e
      rw [Addr.add_mid, hc j hlt]
      rw [List.getElem?_map, List.getElem?_eq_getElem hlt] at hu
      simp only [Option.map_some, Option.some.injEq] at hu
      rw [← hu, List.getD_eq_getElem?_getD, List.getElem?_eq_getElem hlt, Option.getD_some]
theorem src2_alloc {w : World} {v : Value} {zs : List Int} (h : Src2 w v zs) (o : Obj) : Src2 (w.alloc o) v zs := by
  rcases h with h | ⟨ad, c, rfl, hc⟩
  · exact Or.inl h
  · exact Or.inr ⟨ad, c, rfl, fun j u hu => by rw [World.cell?_alloc_lt _ _ _ (World.block_lt_of_cell? w _ (hc j u hu))]; exact hc j u hu⟩
theorem wpList_append_src2 (w : World) {ops : Array Oper} {rest : List Oper} {o : Oper} {a : Act} {Q : Exit → Act → World → Prop} (hgd : o.guard = none) (s x : Operand)
    (ho : o.op = .call { callee := .builtin .append, args := #[s, x], argTypes := #[55, 55] })
    (base : Nat) (v : Value) (n : Nat) (xs : List Int) (hs : a.eval s = v) (hown : w.ownsRow base 3 1 v n (xs.map (Value.int .i64)))
    (vx : Value) (zs : List Int) (hx : a.eval x = vx) (hz : Src2 w vx zs) (hsm : n + zs.length ≤ 1000000) (hbase : base ≤ w.heap.size)
    (h : ∀ v' w', w'.ownsRow base 3 1 v' (n + zs.length) ((xs ++ zs).map (Value.int .i64)) → w.grownBy w' v.ownBlock → wpList Try.prog ops Q rest (a.put o.dst v') w') :
    wpList Try.prog ops Q (o :: rest) a w := by
  obtain ⟨inf, hinf, hzr, hsz, hby⟩ := info_parts (P := Try.prog) (e := 3) (z := .int .i64 0) (size := 1) (bytes := 8) (by kernel_rfl)
  rcases hz with ⟨rfl, rfl⟩ | ⟨ad, c, rfl, hc⟩
  · refine wpList_append_own_none hgd s x 55 ho base 3 inf 1 Try.underlying55 hinf v n _ hs hown hx (h v w ?_ ⟨rfl, rfl, rfl, Nat.le_refl _, fun _ _ _ => rfl⟩)
    simpa using hown
  · refine wpList_append_own w hgd s x 55 ho base 3 inf (.int .i64 0) 1 8 Try.underlying55 hinf hzr hsz hby rfl (by decide) v n _ hs hown ad zs.length c (zs.map (Value.int .i64)) hx (by simp) hc (ints_one1 zs) (by unfold maxLen; omega) (by omega) hbase ?_
    intro v' w' h1 h2 _
    exact h v' w' (by rw [List.map_append]; exact h1) h2
/-- a slice of whole numbers that came in: nil has no room -/
theorem open_slz {H : Type} {enc : TypeId × Value → H} {P : Program} {w : World} {base b0 : Nat} {held : Bool} {r : Reach} {t e : TypeId} {v : Value} {d : DataW H} {ps : List MemPlace}
    (ht : P.underlying t = some (.slice e)) (he : P.underlying e = some (.int .i64)) (hc : P.cellsOf e = 1)
    (hval : Value.okWide P w r b0 t v) (hd : DataW.Trod enc P w base (fun _ => true) held t v d ps) :
    ∃ (a : Option Addr) (n c : Nat) (zs : List Int), v = .slice a n c ∧ zs.length = n ∧ n ≤ maxLen ∧ SlA w a zs ∧ (∀ z ∈ zs, (Lit.int .i64 z).wf = true) ∧ (a = none → c = 0) := by
  obtain ⟨a, n, c, zs, rfl, h1, h2, h3, h4⟩ := open_sl ht he hc hval hd
  refine ⟨a, n, c, zs, rfl, h1, h2, h3, h4, ?_⟩
  rintro rfl
  obtain ⟨fuel, hf⟩ := hd
  rcases open_ints ht he hc hf with ⟨hcs, hx⟩ | ⟨a', len', cap', zs, hcs, _⟩
  · simp [Value.cells] at hcs
    exact hcs.2
  · simp [Value.cells] at hcs

/-- a row of one's own as numbers that lie somewhere -/
theorem slA_row {w : World} {base n : Nat} {v : Value} {zs : List Int} (h : w.ownsRow base 3 1 v n (zs.map (Value.int .i64))) : ∃ a c, v = .slice a zs.length c ∧ zs.length = n ∧ SlA w a zs ∧ (a = none → c = 0) := by
  have hl := h.1
  rw [List.length_map] at hl
  obtain ⟨_, ⟨h1, h2⟩ | ⟨g, cap, cur, rfl, h1, h2, h3, h4, h5, h6⟩⟩ := h
  · have e : zs = [] := List.length_eq_zero_iff.1 (by omega)
    subst e
    exact ⟨none, 0, h1, h2.symm, Or.inl rfl, fun _ => rfl⟩
  · refine ⟨some ⟨g, 0, none⟩, cap, by rw [show zs.length = n by omega], by omega, Or.inr ⟨g, 0, rfl, (Array.getElem?_eq_some_iff.1 h2).1, fun j hj => ?_⟩, fun e => by cases e⟩
    have h7 := congrArg (fun l : List Value => l[j]?) h6
    simp only [List.getElem?_take, List.getElem?_map, Array.getElem?_toList] at h7
    rw [if_pos (by omega), List.getElem?_eq_getElem hj] at h7
    rw [Nat.zero_add, List.getD_eq_getElem?_getD, List.getElem?_eq_getElem hj]
    simpa [World.cell?, h2] using h7
theorem src2_below {w w' : World} {v : Value} {zs : List Int} (h : Src2 w v zs) (hb : Below w.heap.size w w') : Src2 w' v zs := by
  rcases h with h | ⟨ad, c, rfl, hc⟩
  · exact Or.inl h
  · exact Or.inr ⟨ad, c, rfl, fun j u hu => by
      have h1 := hc j u hu
      have h2 := World.block_lt_of_cell? w _ h1
      exact (hb.cell h2).trans h1⟩
/-- a slice that came in, with its room -/
theorem open_slc {H : Type} {enc : TypeId × Value → H} {P : Program} {w : World} {base b0 : Nat} {held : Bool} {r : Reach} {t e : TypeId} {v : Value} {d : DataW H} {ps : List MemPlace}
    (ht : P.underlying t = some (.slice e)) (he : P.underlying e = some (.int .i64)) (hc : P.cellsOf e = 1)
    (hval : Value.okWide P w r b0 t v) (hd : DataW.Trod enc P w base (fun _ => true) held t v d ps) :
    ∃ (a : Option Addr) (n c : Nat) (zs : List Int), v = .slice a n c ∧ zs.length = n ∧ n ≤ maxLen ∧ SlA w a zs ∧ (∀ z ∈ zs, (Lit.int .i64 z).wf = true) ∧ (a = none → c = 0) ∧ n ≤ c ∧ c ≤ maxLen := by
  obtain ⟨a, n, c, zs, rfl, h1, h2, h3, h4⟩ := open_sl ht he hc hval hd
  refine ⟨a, n, c, zs, rfl, h1, h2, h3, h4, ?_⟩
  obtain ⟨fuel, hf⟩ := hd
  rcases open_ints ht he hc hf with ⟨hcs, hx⟩ | ⟨a', len', cap', zs', hcs, _, hl, hm, _⟩
  · simp [Value.cells] at hcs
    obtain ⟨rfl, rfl, rfl⟩ := hcs
    exact ⟨fun _ => rfl, Nat.le_refl _, Nat.zero_le _⟩
  · simp [Value.cells] at hcs
    obtain ⟨rfl, rfl, rfl⟩ := hcs
    exact ⟨fun e => by (cases e), hl, hm⟩
end Go.Proofs.Ytnmhbonheaoldaa
