/- Go's == at arrays of whole numbers; what a block holds, as a range. -/
import Derived.Test.YtlfiaaoegeodnaaChecked
import Derived.Test.YtlfiaaoegeodnaaBlk
import Derived.Test.YtlfiaaoegeodnaaFill
import Derived.ChangeKeysEq
namespace Go.Proofs.Ytlfiaaoegeodnaa
open Go.RowKit

theorem eqI_items {P : Program} {e : TypeId} (he : P.underlying e = some (.int .i64)) (d : Nat) (xs ys : List Int) (w : World) : ∀ is : List Nat, (∀ i ∈ is, i < xs.length ∧ i < ys.length) →
    (Op.eqItems (d + 1) e 1 (ints xs) (ints ys) is).run P w = .ok (is.all fun i => xs.getD i 0 == ys.getD i 0) w
  | [], _ => by simp [Op.eqItems]
  | i :: is, h => by
    have hi := h i (by simp)
    have hx : (ints xs)[i * 1]? = some (.int .i64 (xs.getD i 0)) := by rw [Nat.mul_one, ints_get, List.getElem?_eq_getElem hi.1]; simp [List.getD, List.getElem?_eq_getElem hi.1]
    have hy : (ints ys)[i * 1]? = some (.int .i64 (ys.getD i 0)) := by rw [Nat.mul_one, ints_get, List.getElem?_eq_getElem hi.2]; simp [List.getD, List.getElem?_eq_getElem hi.2]
    have hp : P.plainKey e = true := by simp [Program.plainKey, he]
    have ih := eqI_items he d xs ys w is (fun j hj => h j (by simp [hj]))
    simp only [Op.eqItems, Sem.run_bind, run_part_plain w hp hx, run_part_plain w hp hy, Result.andThen_ok, run_equalIn_int w d e .i64 .i64 _ _ he]
    cases hq : (xs.getD i 0 == ys.getD i 0)
    · simp [-List.getD_eq_getElem?_getD, hq]
    · simp [-List.getD_eq_getElem?_getD, hq, ih]
theorem eqI_range {xs ys : List Int} (h : xs.length = ys.length) : ((List.range xs.length).all fun i => xs.getD i 0 == ys.getD i 0) = decide (xs = ys) := by
  by_cases e : xs = ys
  · subst e; simp
  · rw [decide_eq_false e, Bool.eq_false_iff]
    intro hc
    apply e
    apply list_getD_ext h
    intro i hi
    have := List.all_eq_true.1 hc i (by simpa using hi)
    simpa [-List.getD_eq_getElem?_getD] using this
theorem eqI_of {P : Program} {t e : TypeId} {n : Nat} {i : TypeInfo} (ht : P.underlying t = some (.array n e)) (he : P.underlying e = some (.int .i64)) (hi : P.info? e = some i) (h1 : P.cellsOf e = 1)
    (d : Nat) {xs ys : List Int} (hx : xs.length = n) (hy : ys.length = n) (w : World) : (Op.equalIn (d + 2) t (.agg (ints xs)) (.agg (ints ys))).run P w = .ok (decide (xs = ys)) w := by
  rw [run_equalIn_array w (d + 1) _ _ ht hi, h1, eqI_items he d xs ys w _ (fun i hi => by have := List.mem_range.1 hi; omega)]
  subst hx
  rw [eqI_range hy.symm]
theorem eq_frames {xs ys : List Int} (hx : xs.length = 32) (hy : ys.length = 32) (w : World) : (Op.equalIn 10000 44 (.agg (ints xs)) (.agg (ints ys))).run Try.prog w = .ok (decide (xs = ys)) w := by
  obtain ⟨i, hi⟩ := info_of_underlying (P := Try.prog) (t := 3) Try.underlying3
  exact eqI_of Try.underlying44 Try.underlying3 hi (by kernel_rfl) 9998 hx hy w
theorem range_whole {W : World} {g : Nat} {t : TypeId} {zs : List Int} (h : Blk W g t (ints zs)) : W.rangeAt g 0 (zs.map (Value.int .i64)) := fun j v hv => by
  rw [Nat.zero_add, blk_cell h, ints_get, ← List.getElem?_map]
  exact hv
theorem range_keep {B g : Nat} {w w' : World} {cs : List Value} (h : w.rangeAt g 0 cs) (hb : Below B w w') (hg : g < B) : w'.rangeAt g 0 cs := fun j v hv => (hb.cell (p := ⟨g, 0 + j, none⟩) hg).trans (h j v hv)
theorem range_set {g b i : Nat} {w : World} {cs : List Value} (h : w.rangeAt g 0 cs) (hne : g ≠ b) (u : Value) : (w.setCell ⟨b, i, none⟩ u).rangeAt g 0 cs := fun j v hv => by
  rw [← h j v hv]
  simp only [World.cell?, Below.heap_setCell w ⟨b, i, none⟩ u g hne]

/-- a whole block's numbers loaded, behind a guard that lets them be -/
theorem wpList_load_wanted {P : Program} {ops : Array Oper} {rest : List Oper} {op : Oper} {a : Act} {w : World} {Q : Exit → Act → World → Prop} (hgd : Region.wanted op (yielded ops a.tmps) = true) (ty : TypeId) (x : Operand) (ho : op.op = .load ty x)
    (g : Nat) (hx : a.eval x = .pointer (some ⟨g, 0, none⟩)) (t : TypeId) (zs : List Int) (d : TypeDesc) (hb : Blk w g t (ints zs))
    (hu : P.underlying ty = some d) (hd : d.isRow = true) (hi : (P.info? ty).map (·.size) = some zs.length)
    (h : wpList P ops Q rest (a.put op.dst (.agg (ints zs))) w) : wpList P ops Q (op :: rest) a w :=
  wpList_step fun _ hK => by
    rw [if_pos hgd]
    exact wp_load_mid ty x ho g 0 hx (zs.map (Value.int .i64)) d (range_whole hb) hu hd (by rw [List.length_map]; exact hi) (hK _ _ h)
end Go.Proofs.Ytlfiaaoegeodnaa
