/- Blocks that are known whole: their cells read, written one by one or all at once, and kept. -/
import Derived.Test.YtnmhbonheaoldaaFrame
import Derived.Deep.MidRow
import Derived.Deep.Draws
namespace Go.Proofs.Ytnmhbonheaoldaa
open Go.RowKit

/-- block g holds just these cells, none of them frozen -/
def Blk (w : World) (g : Nat) (t : TypeId) (cs : Array Value) : Prop := w.heap[g]? = some (.cells cs t (0, 0))
/-- whole numbers as cells -/
def ints (zs : List Int) : Array Value := (zs.map (Value.int .i64)).toArray

theorem ints_size (zs : List Int) : (ints zs).size = zs.length := by simp [ints]
theorem ints_get (zs : List Int) (i : Nat) : (ints zs)[i]? = (zs[i]?).map (Value.int .i64) := by simp [ints]
theorem ints_set (zs : List Int) (i : Nat) (v : Int) : (ints zs).setIfInBounds i (.int .i64 v) = ints (zs.set i v) := by
  simp [ints, List.map_set]
theorem ints_one (zs : List Int) : (ints zs).all (·.oneCell') = true := by
  simp [ints, Value.oneCell']

section
variable {w w' : World} {g : Nat} {t : TypeId} {cs : Array Value}
theorem blk_lt (h : Blk w g t cs) : g < w.heap.size := by
  rcases Nat.lt_or_ge g w.heap.size with hlt | hge
  · exact hlt
  · unfold Blk at h
    rw [Array.getElem?_eq_none hge] at h
    cases h
theorem blk_cell (h : Blk w g t cs) (i : Nat) : w.cell? ⟨g, i, none⟩ = cs[i]? := cell_of_row w g i cs t (0, 0) h
theorem blk_int {zs : List Int} (h : Blk w g t (ints zs)) {i : Nat} (hi : i < zs.length) : w.cell? ⟨g, i, none⟩ = some (.int .i64 (zs.getD i 0)) := by
  rw [blk_cell h, ints_get, List.getElem?_eq_getElem hi]
  simp [List.getD, List.getElem?_eq_getElem hi]
theorem blk_free (h : Blk w g t cs) (i : Nat) : w.frozen? ⟨g, i, none⟩ = false := by
  unfold Blk at h
  simp [World.frozen?, h]
theorem blk_new (w : World) (t : TypeId) (cs : Array Value) : Blk (w.alloc (.cells cs t)) w.heap.size t cs := heap_alloc_new w _
theorem blk_drew (h : Blk w g t cs) : Blk w.drew g t cs := h
theorem blk_draws (h : Blk w g t cs) (n : Nat) : Blk (w.drewN n) g t cs := h
theorem blk_alloc (h : Blk w g t cs) (o : Obj) : Blk (w.alloc o) g t cs := (Below.heap_alloc w o g (blk_lt h)).trans h
theorem blk_set (h : Blk w g t cs) (i : Nat) (u : Value) : Blk (w.setCell ⟨g, i, none⟩ u) g t (cs.setIfInBounds i u) := by
  unfold Blk at h ⊢
  simp [World.setCell, Array.getElem?_modify, h]
theorem blk_set_int {zs : List Int} (h : Blk w g t (ints zs)) (i : Nat) (v : Int) : Blk (w.setCell ⟨g, i, none⟩ (.int .i64 v)) g t (ints (zs.set i v)) := by
  rw [← ints_set]
  exact blk_set h i _
theorem blk_far (h : Blk w g t cs) {b i : Nat} (hb : g ≠ b) (u : Value) : Blk (w.setCell ⟨b, i, none⟩ u) g t cs := (Below.heap_setCell w ⟨b, i, none⟩ u g hb).trans h
theorem blk_below {B : Nat} (h : Blk w g t cs) (hb : Below B w w') (hg : g < B) : Blk w' g t cs := (hb.block g hg).trans h
theorem blk_grown {r : Option Nat} (h : Blk w g t cs) (hb : w.grownBy w' r) (hg : some g ≠ r) : Blk w' g t cs := (hb.block g (blk_lt h) hg).trans h
theorem blk_there (h : Blk w g t cs) : w.there g 0 cs.size := fun j hj => by
  rw [Nat.zero_add, blk_cell h, Array.getElem?_eq_getElem hj]
  exact ⟨rfl, blk_free h j⟩

theorem setCells_blk : ∀ (vs : List Value) (o : Nat) (w : World) {cs : Array Value}, Blk w g t cs → o + vs.length ≤ cs.size →
    ∃ cs', Blk (w.setCells g o vs) g t cs' ∧ w.grownBy (w.setCells g o vs) (some g) ∧ cs'.size = cs.size ∧ (∀ i, i < o → cs'[i]? = cs[i]?) ∧ (∀ i, i < vs.length → cs'[o + i]? = vs[i]?) ∧ (∀ i, o + vs.length ≤ i → cs'[i]? = cs[i]?)
  | [], o, w, cs, h, _ => ⟨cs, h, World.grownBy.refl w _, rfl, fun _ _ => rfl, fun _ hi => by simp at hi, fun _ _ => rfl⟩
  | v :: vs, o, w, cs, h, hs => by
    simp only [List.length_cons] at hs
    have h1 := blk_set h o v
    obtain ⟨cs', k1, k2, k3, k4, k5, k6⟩ := setCells_blk vs (o + 1) _ h1 (by simp; omega)
    have e : w.setCells g o (v :: vs) = (w.setCell ⟨g, o, none⟩ v).setCells g (o + 1) vs := rfl
    rw [e]
    refine ⟨cs', k1, ?_, by simpa using k3, ?_, ?_, ?_⟩
    · exact ⟨k2.os, k2.tape, k2.output, Nat.le_trans (by simp [World.setCell]) k2.size, fun i hi hne => (k2.block i (by simpa [World.setCell] using hi) hne).trans (Below.heap_setCell w _ _ i (fun e => hne (by rw [e])))⟩
    · intro i hi
      rw [k4 i (by omega), Array.getElem?_setIfInBounds, if_neg (by omega)]
    · intro i hi
      cases i with
      | zero =>
        rw [Nat.add_zero, k4 o (by omega), Array.getElem?_setIfInBounds, if_pos rfl, if_pos (by omega)]
        rfl
      | succ i =>
        simp only [List.length_cons] at hi
        rw [show o + (i + 1) = o + 1 + i by omega, k5 i (by omega)]
        rfl
    · intro i hi
      simp only [List.length_cons] at hi
      rw [k6 i (by omega), Array.getElem?_setIfInBounds, if_neg (by omega)]

/-- a whole block written at once -/
theorem setCells_whole {new : Array Value} (h : Blk w g t cs) (hs : new.size = cs.size) : Blk (w.setCells g 0 new.toList) g t new ∧ w.grownBy (w.setCells g 0 new.toList) (some g) := by
  obtain ⟨cs', k1, k2, k3, _, k5, _⟩ := setCells_blk new.toList 0 w h (by simp; omega)
  have e : cs' = new := by
    apply Array.ext_getElem?
    intro i
    rcases Nat.lt_or_ge i new.size with hi | hi
    · have := k5 i (by simpa using hi)
      rw [Nat.zero_add] at this
      rw [this]
      simp
    · rw [Array.getElem?_eq_none hi, Array.getElem?_eq_none (by omega)]
  rw [e] at k1
  exact ⟨k1, k2⟩
end

section
variable {P : Program}
/-- storing an array into a block that is known whole -/
theorem wpList_store_blk {ops : Array Oper} {rest : List Oper} {op : Oper} {a : Act} {w : World} {Q : Exit → Act → World → Prop} (hgd : op.guard = none) (ty : TypeId) (x y : Operand) (ho : op.op = .store ty x y)
    (g : Nat) (t : TypeId) (old new : Array Value) (hx : a.eval x = .pointer (some ⟨g, 0, none⟩)) (hy : a.eval y = .agg new)
    (hb : Blk w g t old) (hs : new.size = old.size) (hi : (P.info? ty).map (·.size) = some new.size) (h1 : new.all (·.oneCell') = true)
    (h : ∀ w', Blk w' g t new → w.grownBy w' (some g) → wpList P ops Q rest (a.put op.dst undef) w') : wpList P ops Q (op :: rest) a w :=
  wpList_store_mid hgd ty x y ho g 0 new hx hy (by rw [hs]; exact blk_there hb) hi h1 (h _ (setCells_whole hb hs).1 (setCells_whole hb hs).2)
end

/-- what was below B stays below B while a block from B on is written -/
theorem below_grown {B g : Nat} {a w w' : World} (h : Below B a w) (hg : w.grownBy w' (some g)) (hB : B ≤ w.heap.size) (hr : B ≤ g) : Below B a w' :=
  h.grown hg hB (fun k e => by injection e with e; omega)
end Go.Proofs.Ytnmhbonheaoldaa
