/- The frame of every law of this seat: a call that returns true and leaves all that was there as it was pays the row's last step; arrays of integers by value, opened. Plain laws on whole numbers: Go's r -/
import Derived.WalkKit
import Derived.ProofKit
import Derived.OpenShut
import Derived.Lib.Hide
import Derived.Deep.QuietTactic
import Derived.BigQuiet
import Derived.Outline
import Derived.Deep.MidRow
import Derived.Deep.Draws
import Derived.Test.YtiigipnfnfpepaaGreatDoorChecked
import Derived.Deep.LoopGhost
import Derived.ChangeSlices
import Derived.Laws.AppendOwnNone
import Derived.RangeFuncBox
import Derived.RangeFuncNested
import Derived.RangeFuncBound
import Derived.RangeFuncCalls
import Derived.RangeFuncLeaves
import Derived.OrdersHeld
import Derived.OrdersIn
import Derived.Deep.RegionHeld
import Derived.Lib.AppendZeros
import Derived.ChangeKeysEq
import Derived.Lib.Hide
universe u
namespace Go.Proofs.YtiigipnfnfpepaaGreatDoor
theorem tA {α : Type u} {l : List α} {i : Nat} {a : α} : l.toArray.setIfInBounds i a = (l.set i a).toArray := List.setIfInBounds_toArray l i a
theorem hid {p : Prop} (h : p) : Go.RowKit.Hid p := Lib.hid h
theorem tB {α : Type u} {x a : α} {xs : List α} : (x :: xs).set 0 a = a :: xs := rfl
theorem tC {α : Type u} {x a : α} {xs : List α} {n : Nat} : (x :: xs).set (n + 1) a = x :: xs.set n a := rfl
open Go.ChangeShapes Go.WideShapes Go.ChangeAt Go.RowKit

section
variable {H : Type} {enc : TypeId × Value → H} {P : Program}

theorem all_stay (hl : laidOutB P = true) {W W' : World} (hB : Below W.heap.size W W') (sp : Nat → Bool) :
 ∀ {ts : List TypeId} {vs : List Value} {ds : List (DataW H)} {ps : List MemPlace}, (ts.all fun t => P.readableRec t && decide (t < P.types.size)) = true →
  DataW.TrodAll enc P W 0 (fun _ => true) true ts vs ds ps → (∀ x ∈ ps, x.block < W.heap.size) → (∀ x ∈ ps, sp x.block = true) → DataW.TrodAll enc P W' 0 sp true ts vs ds ps
 | [], vs, ds, ps, _, h, _, _ => by
  obtain ⟨rfl, rfl, rfl⟩ := trodAll_nil h
  exact trodAll_mk0
 | t :: ts, vs, ds, ps, ht, h, hlt, hsp => by
  obtain ⟨v, vs1, d, ds1, a, b, rfl, rfl, rfl, h1, h2⟩ := trodAll_cons h
  simp only [List.all_cons, Bool.and_eq_true, decide_eq_true_eq] at ht
  obtain ⟨⟨hr, hz⟩, hts⟩ := ht
  refine trodAll_cons_mk (WideElems.Trod_stays hl hr hz h1 (fun x hx => hB.same (hlt x (by simp [hx]))) (fun x hx => hsp x (by simp [hx]))) ?_
  exact all_stay hl hB sp hts h2 (fun x hx => hlt x (by simp [hx])) (fun x hx => hsp x (by simp [hx]))

theorem law_post {f : Func} {s : ChangeSpec} {apart again : Bool} {W W' : World} {args : Array Value} {ds gs : List (DataW H)} {before : List MemPlace} {tb : TypeId}
 (hl : laidOutB P = true) (hv : s.vars = []) (hts : (f.params.toList.all fun t => P.readableRec t && decide (t < P.types.size)) = true)
 (hrt : f.resultTypes = #[tb]) (hb : P.underlying tb = some .bool)
 (hW : DataW.Whole enc P f.params.toList s.vars apart W args.toList ds gs before)
 (hspec : (s.fn H ds).results = [.lit (.bool true)] ∧ (s.fn H ds).args = ds ∧ (s.fn H ds).vars = [])
 (hB : Below W.heap.size W W') : s.post enc P f apart true false again W args (.bool true) W' := by
 have hlt : ∀ p ∈ before, p.block < W.heap.size := fun p hp => hW.lt p hp
 have hW' := hW
 obtain ⟨p, q, hA, hV, rfl, hz, hn⟩ := hW
 rw [hv] at hV
 obtain ⟨rfl, rfl⟩ := trodVars_none hV
 simp only [List.append_nil] at *
 obtain ⟨h1, h2, h3⟩ := hspec
 have hargs : ∀ sp : Nat → Bool, (∀ x ∈ p, sp x.block = true) → DataW.TrodAll enc P W' 0 sp true f.params.toList args.toList ds p := fun sp hsp => all_stay hl hB sp hts hA hlt hsp
 have hres : ∀ (b : Nat) (sp : Nat → Bool) (hd : Bool), DataW.TrodAll enc P W' b sp hd f.resultTypes.toList ((Value.bool true).resultList f.resultTypes.size) [.lit (.bool true)] [] := by
  intro b sp hd
  rw [hrt]
  exact trodAll_mk1 (shut_bool hb _)
 have hvars : ∀ sp : Nat → Bool, DataW.TrodVars enc P W' sp s.vars [] [] := by
  intro sp
  rw [hv]
  rfl
 refine ⟨ds, [], p, [], p, [], hW', ?_, ?_, ?_, ?_, fun _ => ?_⟩
 · rw [List.append_nil, h1]; exact hres _ _ _
 · rw [List.append_nil, h2]; exact hargs _ (fun x hx => by simpa using hlt x hx)
 · rw [List.append_nil, h3]; exact hvars _
 · exact World.keptBut_mono (fun x hx => ⟨hx, Or.inr (Or.inl hx)⟩) (hB.frame (· ∈ p))
 · refine ⟨?_, _, _, ([] ++ p) ++ [], ⟨[] ++ p, [], trodAll_append (hargs _ (fun _ _ => rfl)) (hres _ _ _), hvars _, rfl, ?_, ?_⟩, ?_⟩
   · exact ok_one hrt rfl (okWide_bool_mk hb _)
   · intro b off hp
     simp only [List.nil_append, List.append_nil] at hp
     rw [hB.frozen (hlt _ hp)]
     exact hz b off hp
   · intro ha
     simpa using hn ha
   · intro x hx _
     simpa using hx

theorem open_arr {w : World} {base b0 : Nat} {sp : Nat → Bool} {held : Bool} {r : Reach} {n : Nat} {t e : TypeId} {k : IntKind} {v : Value} {d : DataW H} {ps : List MemPlace}
 (ht : P.underlying t = some (.array n e)) (he : P.underlying e = some (.int k)) (hc : P.cellsOf t = n) (hce : P.cellsOf e = 1)
 (hval : Value.okWide P w r b0 t v) (hd : DataW.Trod enc P w base sp held t v d ps) :
 ∃ zs : List Int, zs.length = n ∧ v = .agg (zs.map (Value.int k)).toArray ∧ ∀ z ∈ zs, (Lit.int k z).wf = true := by
 obtain ⟨cs, rfl, hsz, _⟩ : ∃ cs, v = .agg cs ∧ cs.size = P.cellsOf t ∧ Row.okWide P w r b0 t cs := by
  simpa [Value.okWide, ht] using hval
 obtain ⟨fuel, hf⟩ := hd
 obtain ⟨xs, m, rfl, hx, hl, hlen, hel⟩ := DataW.trod_array ht hf
 obtain ⟨l⟩ := cs
 simp only [Value.cells, hc, hce, Nat.mul_one] at hl hel hsz
 have key : ∀ i, (h : i < l.length) → ∃ z, l[i] = .int k z ∧ (Lit.int k z).wf = true := by
  intro i h
  have h' : i < n := by omega
  have hi := hel i h'
  rw [List.getElem?_eq_getElem (by omega)] at hi
  obtain ⟨z, hz, _, hw⟩ := DataW.trod_int he hi
  rw [List.drop_eq_getElem_cons h] at hz
  simp only [List.take_succ_cons, List.take_zero, List.cons.injEq, and_true] at hz
  exact ⟨z, hz, hw⟩
 have key2 : ∀ l : List Value, (∀ i, (h : i < l.length) → ∃ z, l[i] = .int k z ∧ (Lit.int k z).wf = true) → ∃ zs : List Int, zs.length = l.length ∧ l = zs.map (Value.int k) ∧ ∀ z ∈ zs, (Lit.int k z).wf = true := by
  intro l
  induction l with
  | nil => exact fun _ => ⟨[], rfl, rfl, fun z hz => by cases hz⟩
  | cons a l ih =>
   intro hk
   obtain ⟨z, hz, hw⟩ := hk 0 (by simp)
   obtain ⟨zs, h1, h2, h3⟩ := ih (fun i h => by
    have h' : i + 1 < (a :: l).length := by simpa using h
    obtain ⟨z, hz, hw⟩ := hk (i + 1) h'
    exact ⟨z, by rw [← hz]; rfl, hw⟩)
   refine ⟨z :: zs, by simp [h1], by simp at hz; simp [hz, h2], ?_⟩
   intro y hy
   rcases List.mem_cons.1 hy with rfl | hy
   · exact hw
   · exact h3 y hy
 obtain ⟨zs, h1, h2, h3⟩ := key2 l key
 refine ⟨zs, ?_, by rw [h2], h3⟩
 simp at hsz
 omega
end

theorem below_draws {B : Nat} {a w : World} (h : Below B a w) (n : Nat) : Below B a (w.drewN n) := ⟨h.os, h.tape, h.output, h.size, h.block⟩
theorem below_new {B : Nat} {a w : World} (h : Below B a w) (hB : B ≤ w.heap.size) (o : Obj) : Below B a (w.alloc o) := h.alloc hB o
theorem below_set {B b i : Nat} {a w : World} (h : Below B a w) (hB : B ≤ b) (v : Value) : Below B a (w.setCell ⟨b, i, none⟩ v) := h.setCell (p := ⟨b, i, none⟩) hB v

theorem bnext {a b c : World} (h : Below a.heap.size a b) (k : Below b.heap.size b c) : Below a.heap.size a c := h.trans (k.mono h.size)

def LawTrue (w : World) (e : Ending) (w' : World) : Prop := e = .returned (.bool true) ∧ Below w.heap.size w w'

theorem ret_true {b : Bool} (h : b = true) : Ending.returned (.bool b) = .returned (.bool true) := by rw [h]
theorem ret_bool {a b : Bool} (h : a = b) : Ending.returned (.bool a) = .returned (.bool b) := by rw [h]
theorem ret_i64 {a b : Int} (h : a = b) : Ending.returned (.int .i64 a) = .returned (.int .i64 b) := by rw [h]

theorem i64_bounds {n : Int} (h : (Lit.int .i64 n).wf = true) : -9223372036854775808 ≤ n ∧ n ≤ 9223372036854775807 := by
 simp [Lit.wf, IntKind.min, IntKind.max, IntKind.signed, IntKind.bits] at h
 omega
end Go.Proofs.YtiigipnfnfpepaaGreatDoor
namespace Go.Proofs.YtiigipnfnfpepaaGreatDoor

theorem tmod_bd (n : Int) {m : Int} (hm : 0 ≤ m) : -m ≤ n.tmod (m + 1) ∧ n.tmod (m + 1) ≤ m := by
 have h1 := Int.lt_tmod_of_pos n (b := m + 1) (by omega)
 have h2 := Int.tmod_lt_of_pos n (b := m + 1) (by omega)
 omega

theorem tmod_id {n m : Int} (h0 : -m ≤ n) (h1 : n ≤ m) : n.tmod (m + 1) = n := by
 rcases Int.le_total 0 n with h | h
 · exact Int.tmod_eq_of_lt h (by omega)
 · have h2 : (-n).tmod (m + 1) = -n := Int.tmod_eq_of_lt (by omega) (by omega)
   rw [Int.neg_tmod] at h2
   omega

def IsRoot (n r : Int) : Prop := 0 ≤ r ∧ r * r ≤ n ∧ n < (r + 1) * (r + 1)

theorem isRoot_le {n r s : Int} (hr : IsRoot n r) (hs : IsRoot n s) : r ≤ s := by
 obtain ⟨a0, a1, a2⟩ := hr
 obtain ⟨b0, b1, b2⟩ := hs
 rcases Int.lt_or_le s r with h | h
 · have : (s + 1) * (s + 1) ≤ r * r := Int.mul_le_mul (by omega) (by omega) (by omega) (by omega)
   omega
 · exact h

theorem isRoot_unique {n r s : Int} (hr : IsRoot n r) (hs : IsRoot n s) : r = s :=
 Int.le_antisymm (isRoot_le hr hs) (isRoot_le hs hr)

end Go.Proofs.YtiigipnfnfpepaaGreatDoor
namespace Go.Proofs.YtiigipnfnfpepaaGreatDoor
open Go.RowKit

def Blk (w : World) (g : Nat) (t : TypeId) (cs : Array Value) : Prop := w.heap[g]? = some (.cells cs t (0, 0))
def ints (zs : List Int) : Array Value := (zs.map (Value.int .i64)).toArray

theorem ints_size (zs : List Int) : (ints zs).size = zs.length := by simp [ints]
theorem ints_get (zs : List Int) (i : Nat) : (ints zs)[i]? = (zs[i]?).map (Value.int .i64) := by simp [ints]
theorem ints_set (zs : List Int) (i : Nat) (v : Int) : (ints zs).setIfInBounds i (.int .i64 v) = ints (zs.set i v) := by
 simp [ints, List.map_set]
theorem ints_one (zs : List Int) : (ints zs).all (·.oneCell') = true := by
 simp [ints, Value.oneCell']

section
variable {w w' : World} {g : Nat} {t : TypeId} {cs : Array Value}
theorem blk_lt (h : Blk w g t cs) : g < w.heap.size := by
 rcases Nat.lt_or_ge g w.heap.size with hlt | hge
 · exact hlt
 · unfold Blk at h
   rw [Array.getElem?_eq_none hge] at h
   cases h
theorem blk_cell (h : Blk w g t cs) (i : Nat) : w.cell? ⟨g, i, none⟩ = cs[i]? := cell_of_row w g i cs t (0, 0) h
theorem blk_int {zs : List Int} (h : Blk w g t (ints zs)) {i : Nat} (hi : i < zs.length) : w.cell? ⟨g, i, none⟩ = some (.int .i64 (zs.getD i 0)) := by
 rw [blk_cell h, ints_get, List.getElem?_eq_getElem hi]
 simp [List.getD, List.getElem?_eq_getElem hi]
theorem blk_free (h : Blk w g t cs) (i : Nat) : w.frozen? ⟨g, i, none⟩ = false := by
 unfold Blk at h
 simp [World.frozen?, h]
theorem blk_new (w : World) (t : TypeId) (cs : Array Value) : Blk (w.alloc (.cells cs t)) w.heap.size t cs := heap_alloc_new w _
theorem blk_drew (h : Blk w g t cs) : Blk w.drew g t cs := h
theorem blk_draws (h : Blk w g t cs) (n : Nat) : Blk (w.drewN n) g t cs := h
theorem blk_alloc (h : Blk w g t cs) (o : Obj) : Blk (w.alloc o) g t cs := (Below.heap_alloc w o g (blk_lt h)).trans h
theorem blk_set (h : Blk w g t cs) (i : Nat) (u : Value) : Blk (w.setCell ⟨g, i, none⟩ u) g t (cs.setIfInBounds i u) := by
 unfold Blk at h ⊢
 simp [World.setCell, Array.getElem?_modify, h]
theorem blk_set_int {zs : List Int} (h : Blk w g t (ints zs)) (i : Nat) (v : Int) : Blk (w.setCell ⟨g, i, none⟩ (.int .i64 v)) g t (ints (zs.set i v)) := by
 rw [← ints_set]
 exact blk_set h i _
theorem blk_far (h : Blk w g t cs) {b i : Nat} (hb : g ≠ b) (u : Value) : Blk (w.setCell ⟨b, i, none⟩ u) g t cs := (Below.heap_setCell w ⟨b, i, none⟩ u g hb).trans h
theorem blk_below {B : Nat} (h : Blk w g t cs) (hb : Below B w w') (hg : g < B) : Blk w' g t cs := (hb.block g hg).trans h
theorem blk_grown {r : Option Nat} (h : Blk w g t cs) (hb : w.grownBy w' r) (hg : some g ≠ r) : Blk w' g t cs := (hb.block g (blk_lt h) hg).trans h
theorem blk_there (h : Blk w g t cs) : w.there g 0 cs.size := fun j hj => by
 rw [Nat.zero_add, blk_cell h, Array.getElem?_eq_getElem hj]
 exact ⟨rfl, blk_free h j⟩

theorem setCells_blk : ∀ (vs : List Value) (o : Nat) (w : World) {cs : Array Value}, Blk w g t cs → o + vs.length ≤ cs.size →
 ∃ cs', Blk (w.setCells g o vs) g t cs' ∧ w.grownBy (w.setCells g o vs) (some g) ∧ cs'.size = cs.size ∧ (∀ i, i < o → cs'[i]? = cs[i]?) ∧ (∀ i, i < vs.length → cs'[o + i]? = vs[i]?) ∧ (∀ i, o + vs.length ≤ i → cs'[i]? = cs[i]?)
 | [], o, w, cs, h, _ => ⟨cs, h, World.grownBy.refl w _, rfl, fun _ _ => rfl, fun _ hi => by simp at hi, fun _ _ => rfl⟩
 | v :: vs, o, w, cs, h, hs => by
  simp only [List.length_cons] at hs
  have h1 := blk_set h o v
  obtain ⟨cs', k1, k2, k3, k4, k5, k6⟩ := setCells_blk vs (o + 1) _ h1 (by simp; omega)
  have e : w.setCells g o (v :: vs) = (w.setCell ⟨g, o, none⟩ v).setCells g (o + 1) vs := rfl
  rw [e]
  refine ⟨cs', k1, ?_, by simpa using k3, ?_, ?_, ?_⟩
  · exact ⟨k2.os, k2.tape, k2.output, Nat.le_trans (by simp [World.setCell]) k2.size, fun i hi hne => (k2.block i (by simpa [World.setCell] using hi) hne).trans (Below.heap_setCell w _ _ i (fun e => hne (by rw [e])))⟩
  · intro i hi
    rw [k4 i (by omega), Array.getElem?_setIfInBounds, if_neg (by omega)]
  · intro i hi
    cases i with
    | zero =>
     rw [Nat.add_zero, k4 o (by omega), Array.getElem?_setIfInBounds, if_pos rfl, if_pos (by omega)]
     rfl
    | succ i =>
     simp only [List.length_cons] at hi
     rw [show o + (i + 1) = o + 1 + i by omega, k5 i (by omega)]
     rfl
  · intro i hi
    simp only [List.length_cons] at hi
    rw [k6 i (by omega), Array.getElem?_setIfInBounds, if_neg (by omega)]

theorem setCells_whole {new : Array Value} (h : Blk w g t cs) (hs : new.size = cs.size) : Blk (w.setCells g 0 new.toList) g t new ∧ w.grownBy (w.setCells g 0 new.toList) (some g) := by
 obtain ⟨cs', k1, k2, k3, _, k5, _⟩ := setCells_blk new.toList 0 w h (by simp; omega)
 have e : cs' = new := by
  apply Array.ext_getElem?
  intro i
  rcases Nat.lt_or_ge i new.size with hi | hi
  · have := k5 i (by simpa using hi)
    rw [Nat.zero_add] at this
    rw [this]
    simp
  · rw [Array.getElem?_eq_none hi, Array.getElem?_eq_none (by omega)]
 rw [e] at k1
 exact ⟨k1, k2⟩
end

section
variable {P : Program}
theorem wpList_store_blk {ops : Array Oper} {rest : List Oper} {op : Oper} {a : Act} {w : World} {Q : Exit → Act → World → Prop} (hgd : op.guard = none) (ty : TypeId) (x y : Operand) (ho : op.op = .store ty x y)
 (g : Nat) (t : TypeId) (old new : Array Value) (hx : a.eval x = .pointer (some ⟨g, 0, none⟩)) (hy : a.eval y = .agg new)
 (hb : Blk w g t old) (hs : new.size = old.size) (hi : (P.info? ty).map (·.size) = some new.size) (h1 : new.all (·.oneCell') = true)
 (h : ∀ w', Blk w' g t new → w.grownBy w' (some g) → wpList P ops Q rest (a.put op.dst undef) w') : wpList P ops Q (op :: rest) a w :=
 wpList_store_mid hgd ty x y ho g 0 new hx hy (by rw [hs]; exact blk_there hb) hi h1 (h _ (setCells_whole hb hs).1 (setCells_whole hb hs).2)
end

theorem below_grown {B g : Nat} {a w w' : World} (h : Below B a w) (hg : w.grownBy w' (some g)) (hB : B ≤ w.heap.size) (hr : B ≤ g) : Below B a w' :=
 h.grown hg hB (fun k e => by injection e with e; omega)
end Go.Proofs.YtiigipnfnfpepaaGreatDoor
namespace Go.Proofs.YtiigipnfnfpepaaGreatDoor
open Go.RowKit

theorem enters_at {P : Program} {f : FuncId} {fn : Func} {c : Code} (hf : P.funcs[f]? = some fn) (hn : (fn.name == "runtime.NumGoroutine") = false) (hb : fn.body = some c) (args : Array Value) (w : World) :
 (callFunc f args).run P w = .ok (.enter f args) w := by
 have h1 : fn.name ≠ "runtime.NumGoroutine" := by simpa using hn
 simp [callFunc, hf, h1, hb, mark]

def Tells (fd : Nat) (lb : Array Value) (p : Int → Bool) (w : World) : Prop :=
 ∀ (W : World) (x : Int), Below w.heap.size w W → -9223372036854775808 ≤ x → x ≤ 9223372036854775807 → Calls Tryz.prog fd (#[.int .i64 x] ++ lb) W fun e w' => e = .returned (.bool (p x)) ∧ Below w.heap.size w w'

theorem any_hit {p : Int → Bool} {zs : List Int} {k : Nat} (hk : k < zs.length) (h : p (zs.getD k 0) = true) : zs.any p = true := by
 rw [List.any_eq_true]
 refine ⟨zs.getD k 0, ?_, h⟩
 rw [List.getD_eq_getElem?_getD, List.getElem?_eq_getElem hk]
 exact List.getElem_mem hk
theorem any_miss {p : Int → Bool} {zs : List Int} (h : ∀ k, k < zs.length → p (zs.getD k 0) = false) : zs.any p = false := by
 rw [List.any_eq_false]
 intro x hx
 obtain ⟨k, hk, rfl⟩ := List.mem_iff_getElem.1 hx
 have := h k hk
 rw [List.getD_eq_getElem?_getD, List.getElem?_eq_getElem hk] at this
 simpa using this

set_option maxRecDepth 100000 in
set_option maxHeartbeats 4000000 in
theorem indexf_calls (fd : Nat) (lb : Array Value) (p : Int → Bool) (b off n c : Nat) (zs : List Int) (w : World) (hz : zs.length = n) (hbig : n ≤ 9223372036854775807) (hb : b < w.heap.size)
 (hc : ∀ j, j < n → w.cell? ⟨b, off + j, none⟩ = some (.int .i64 (zs.getD j 0))) (hi : ∀ z ∈ zs, -9223372036854775808 ≤ z ∧ z ≤ 9223372036854775807)
 (eg : ∀ args w, (callFunc fd args).run Tryz.prog w = .ok (.enter fd args) w) (hp : Tells fd lb p w) :
 Calls Tryz.prog 110 #[.slice (some ⟨b, off, none⟩) n c, .func (.func fd) #[] lb] w fun e w' => ∃ r : Int, -1 ≤ r ∧ r ≤ 9223372036854775807 ∧ (zs.any p = decide (0 ≤ r)) ∧ e = .returned (.int .i64 r) ∧ Below w.heap.size w w' := by
 have HP := hid hp
 have HC := hid hc
 have HI := hid hi
 clear hp hc hi
 go_enter Tryz.func110, Tryz.ntmps110
 go_wp2_with fail
 go_loopg [5, 8] n (fun gg _ s8 wr => ∃ kk : Nat, kk ≤ n ∧ n - kk ≤ gg ∧ s8 = .int .i64 kk ∧ Aside (Below w.heap.size w wr) ∧ Aside (∀ j, j < kk → p (zs.getD j 0) = false))
 case atStart => exact ⟨0, Nat.zero_le _, by omega, rfl, Below.refl _ w, fun j hj => absurd hj (Nat.not_lt_zero _)⟩
 case round =>
  obtain ⟨kk, hkk, hg, rfl, B, A⟩ := hrel
  by_cases hlt : kk < n
  · have hltz : (kk : Int) < (n : Int) := by omega
    have hx := HI.out (zs.getD kk 0) (by rw [List.getD_eq_getElem?_getD, List.getElem?_eq_getElem (by omega)]; exact List.getElem_mem (by omega))
    have l2 := (B.out.cell (p := ⟨b, off + kk, none⟩) hb).trans (HC.out kk hlt)
    have hcall := HP.out wr (zs.getD kk 0) B.out hx.1 hx.2
    generalize hy : zs.getD kk 0 = y at *
    have Y := hid hy
    clear hy
    cases hq : p y with
    | true =>
     rw [hq] at hcall
     go_wp2_with fail
     refine hcall.mono ?_
     rintro e w' ⟨rfl, hb'⟩
     go_wp2_with fail
     go_ret
     exact ⟨kk, by omega, by omega, by rw [any_hit (hz ▸ hlt) (by rw [Y.out]; exact hq)]; simp, rfl, hb'⟩
    | false =>
     rw [hq] at hcall
     go_wp2_with fail
     refine hcall.mono ?_
     rintro e w' ⟨rfl, hb'⟩
     go_wp2_with fail
     go_roundg (n - (kk + 1))
     case measure => omega
     case rel =>
      refine ⟨kk + 1, by omega, by omega, by go_num, hb', (show Aside _ from fun j hj => ?_)⟩
      by_cases e : j = kk
      · subst e
        rw [Y.out]; exact hq
      · exact A.out j (by omega)
  · have hltz : ¬ (kk : Int) < (n : Int) := by omega
    have : kk = n := by omega
    subst this
    go_wp2_with fail
    go_ret
    exact ⟨-1, by omega, by omega, by rw [any_miss (hz ▸ A.out)]; rfl, rfl, B.out⟩

set_option maxRecDepth 100000 in
theorem containsf_calls (fd : Nat) (lb : Array Value) (p : Int → Bool) (b off n c : Nat) (zs : List Int) (w : World) (hz : zs.length = n) (hbig : n ≤ 9223372036854775807) (hb : b < w.heap.size)
 (hc : ∀ j, j < n → w.cell? ⟨b, off + j, none⟩ = some (.int .i64 (zs.getD j 0))) (hi : ∀ z ∈ zs, -9223372036854775808 ≤ z ∧ z ≤ 9223372036854775807)
 (eg : ∀ args w, (callFunc fd args).run Tryz.prog w = .ok (.enter fd args) w) (hp : Tells fd lb p w) :
 Calls Tryz.prog 73 #[.slice (some ⟨b, off, none⟩) n c, .func (.func fd) #[] lb] w fun e w' => e = .returned (.bool (zs.any p)) ∧ Below w.heap.size w w' := by
 have hcall := indexf_calls fd lb p b off n c zs w hz hbig hb hc hi eg hp
 clear hc hi hp eg
 go_enter Tryz.func73, Tryz.ntmps73
 go_wp2_with fail
 refine hcall.mono ?_
 rintro e w1 ⟨r, h0, h1, h2, rfl, hB⟩
 have HR := hid h2
 clear h2
 go_wp2_with fail
 go_ret
 exact ⟨by rw [HR.out]; rfl, hB⟩
end Go.Proofs.YtiigipnfnfpepaaGreatDoor
namespace Go.Proofs.YtiigipnfnfpepaaGreatDoor
open Go.RowKit

def SlA (w : World) (a : Option Addr) (zs : List Int) : Prop := zs = [] ∨ ∃ g o, a = some ⟨g, o, none⟩ ∧ g < w.heap.size ∧ ∀ j, j < zs.length → w.cell? ⟨g, o + j, none⟩ = some (.int .i64 (zs.getD j 0))
theorem slA_nil (w : World) (a : Option Addr) : SlA w a [] := Or.inl rfl
theorem slA_below {w w' : World} {a : Option Addr} {zs : List Int} (h : SlA w a zs) (hb : Below w.heap.size w w') : SlA w' a zs := by
 rcases h with h | ⟨g, o, rfl, hg, hc⟩
 · exact Or.inl h
 · exact Or.inr ⟨g, o, rfl, Nat.lt_of_lt_of_le hg hb.size, fun j hj => (hb.cell (p := ⟨g, o + j, none⟩) hg).trans (hc j hj)⟩
theorem slA_below2 {w w' : World} {a : Option Addr} {zs : List Int} (h : SlA w a zs) (hb : Below w.heap.size w w') : SlA w' a zs := slA_below h hb
theorem slA_draws {w : World} {a : Option Addr} {zs : List Int} (h : SlA w a zs) (n : Nat) : SlA (w.drewN n) a zs := h
theorem slA_blk {w : World} {g : Nat} {t : TypeId} {zs : List Int} (h : Blk w g t (ints zs)) : SlA w (some ⟨g, 0, none⟩) zs :=
 Or.inr ⟨g, 0, rfl, blk_lt h, fun j hj => by rw [Nat.zero_add]; exact blk_int h hj⟩
theorem slA_at {w : World} {a : Option Addr} {zs : List Int} (h : SlA w a zs) {k : Nat} (hk : k < zs.length) : ∃ g o, a = some ⟨g, o, none⟩ ∧ g < w.heap.size ∧ ∀ j, j < zs.length → w.cell? ⟨g, o + j, none⟩ = some (.int .i64 (zs.getD j 0)) := by
 rcases h with rfl | h
 · simp at hk
 · exact h

set_option maxRecDepth 100000 in
theorem indexf_none (fd : Nat) (lb : Array Value) (a : Option Addr) (c : Nat) (w : World) :
 Calls Tryz.prog 110 #[.slice a 0 c, .func (.func fd) #[] lb] w fun e w' => e = .returned (.int .i64 (-1)) ∧ Below w.heap.size w w' := by
 go_enter Tryz.func110, Tryz.ntmps110
 go_wp2_with fail
 go_loopg [8] 0 (fun gg s8 wr => s8 = .int .i64 0 ∧ Aside (Below w.heap.size w wr))
 case atStart => exact ⟨rfl, Below.refl _ w⟩
 case round =>
  obtain ⟨rfl, B⟩ := hrel
  go_wp2_with fail
  go_ret
  exact ⟨rfl, B.out⟩

set_option maxRecDepth 100000 in
theorem containsf_none (fd : Nat) (lb : Array Value) (a : Option Addr) (c : Nat) (w : World) :
 Calls Tryz.prog 73 #[.slice a 0 c, .func (.func fd) #[] lb] w fun e w' => e = .returned (.bool false) ∧ Below w.heap.size w w' := by
 have hcall := indexf_none fd lb a c w
 go_enter Tryz.func73, Tryz.ntmps73
 go_wp2_with fail
 refine hcall.mono ?_
 rintro e w1 ⟨rfl, hB⟩
 go_wp2_with fail
 go_ret
 exact ⟨rfl, hB⟩

theorem containsf_any (fd : Nat) (lb : Array Value) (p : Int → Bool) (a : Option Addr) (n c : Nat) (zs : List Int) (w : World) (hz : zs.length = n) (hbig : n ≤ 9223372036854775807) (h : SlA w a zs) (hi : ∀ z ∈ zs, -9223372036854775808 ≤ z ∧ z ≤ 9223372036854775807)
 (eg : ∀ args w, (callFunc fd args).run Tryz.prog w = .ok (.enter fd args) w) (hp : Tells fd lb p w) :
 Calls Tryz.prog 73 #[.slice a n c, .func (.func fd) #[] lb] w fun e w' => e = .returned (.bool (zs.any p)) ∧ Below w.heap.size w w' := by
 rcases h with rfl | ⟨g, o, rfl, hg, hc⟩
 · subst hz
   exact containsf_none fd lb a c w
 · exact containsf_calls fd lb p g o n c zs w hz hbig hg (fun j hj => hc j (by omega)) hi eg hp
end Go.Proofs.YtiigipnfnfpepaaGreatDoor
namespace Go.Proofs.YtiigipnfnfpepaaGreatDoor
open Go.ChangeShapes Go.WideShapes Go.ChangeAt Go.RowKit

section
variable {H : Type} {enc : TypeId × Value → H} {P : Program}
theorem open_sl {w : World} {base b0 : Nat} {held : Bool} {r : Reach} {t e : TypeId} {v : Value} {d : DataW H} {ps : List MemPlace}
 (ht : P.underlying t = some (.slice e)) (he : P.underlying e = some (.int .i64)) (hc : P.cellsOf e = 1)
 (hval : Value.okWide P w r b0 t v) (hd : DataW.Trod enc P w base (fun _ => true) held t v d ps) :
 ∃ (a : Option Addr) (n c : Nat) (zs : List Int), v = .slice a n c ∧ zs.length = n ∧ n ≤ maxLen ∧ SlA w a zs ∧ ∀ z ∈ zs, (Lit.int .i64 z).wf = true := by
 obtain ⟨a, n, c, rfl⟩ := okWide_slice ht hval
 obtain ⟨fuel, hf⟩ := hd
 rcases open_ints ht he hc hf with ⟨hcs, hx⟩ | ⟨a', len', cap', zs, hcs, _, hl, hm, hz, hx, hcell, hwz⟩
 · simp [Value.cells] at hcs
   obtain ⟨rfl, rfl, rfl⟩ := hcs
   exact ⟨none, 0, 0, [], rfl, rfl, Nat.zero_le _, Or.inl rfl, fun z hz => by simp at hz⟩
 · simp [Value.cells] at hcs
   obtain ⟨rfl, rfl, rfl⟩ := hcs
   simp only [if_true] at hz
   have hzt : (zs.take n).length = n := by rw [List.length_take]; omega
   refine ⟨some a', n, c, zs.take n, rfl, hzt, by omega, ?_, fun z hz' => hwz z (List.mem_of_mem_take hz')⟩
   by_cases h0 : n = 0
   · subst h0
     exact Or.inl (by simp)
   · obtain ⟨b, o, spot⟩ := a'
     have hspot : spot = none := by simpa [Addr.add] using World.cell?_spot (hcell 0 (by omega))
     subst hspot
     have hc' : ∀ j, j < zs.length → w.cell? ⟨b, o + j, none⟩ = some (.int .i64 (zs.getD j 0)) := fun j hj => by
      have := hcell j hj
      rwa [Addr.add_mid] at this
     refine Or.inr ⟨b, o, rfl, ?_, fun j hj => ?_⟩
     · have := hc' 0 (by omega)
       exact World.block_lt_of_cell? w _ this
     · rw [hzt] at hj
       rw [hc' j (by omega), List.getD_eq_getElem?_getD, List.getD_eq_getElem?_getD, List.getElem?_take, if_pos hj]
end
end Go.Proofs.YtiigipnfnfpepaaGreatDoor
namespace Go.Proofs.YtiigipnfnfpepaaGreatDoor
open Go.ChangeShapes Go.WideShapes Go.ChangeAt Go.RowKit

theorem ints_one1 (zs : List Int) : ∀ u ∈ zs.map (Value.int .i64), u.oneCell' = true := fun u hu => by
 obtain ⟨z, _, rfl⟩ := List.mem_map.1 hu
 rfl

theorem owns_below {w w' : World} {base n B : Nat} {v : Value} {t : TypeId} {xs : List Value} (h : w.ownsRow base t 1 v n xs) (hb : Below B w w') (hB : w.heap.size ≤ B) : w'.ownsRow base t 1 v n xs := by
 obtain ⟨hl, h | ⟨g, cap, cur, rfl, h1, h2, h3⟩⟩ := h
 · exact ⟨hl, Or.inl h⟩
 · have hg : g < w.heap.size := (Array.getElem?_eq_some_iff.1 h2).1
   exact ⟨hl, Or.inr ⟨g, cap, cur, rfl, h1, (hb.block g (by omega)).trans h2, h3⟩⟩
def Src2 (w : World) (v : Value) (zs : List Int) : Prop := (v = .slice none 0 0 ∧ zs = []) ∨ ∃ ad c, v = .slice (some ad) zs.length c ∧ ∀ j u, (zs.map (Value.int .i64))[j]? = some u → w.cell? (ad.add j) = some u
theorem src2_of {w : World} {a : Option Addr} {n c : Nat} {zs : List Int} (hz : zs.length = n) (h : SlA w a zs) (h0 : a = none → c = 0) : Src2 w (.slice a n c) zs := by
 rcases a with _ | ad
 · rcases h with rfl | ⟨g, o, e, _⟩
   · refine Or.inl ⟨?_, rfl⟩
     rw [h0 rfl, ← hz]
     rfl
   · cases e
 · refine Or.inr ⟨ad, c, by rw [hz], fun j u hu => ?_⟩
   have hlt := (List.getElem?_eq_some_iff.1 hu).1
   rw [List.length_map] at hlt
   rcases h with rfl | ⟨g, o, e, _, hc⟩
   · simp at hlt
   · cases e
     rw [Addr.add_mid, hc j hlt]
     rw [List.getElem?_map, List.getElem?_eq_getElem hlt] at hu
     simp only [Option.map_some, Option.some.injEq] at hu
     rw [← hu, List.getD_eq_getElem?_getD, List.getElem?_eq_getElem hlt, Option.getD_some]
theorem src2_alloc {w : World} {v : Value} {zs : List Int} (h : Src2 w v zs) (o : Obj) : Src2 (w.alloc o) v zs := by
 rcases h with h | ⟨ad, c, rfl, hc⟩
 · exact Or.inl h
 · exact Or.inr ⟨ad, c, rfl, fun j u hu => by rw [World.cell?_alloc_lt _ _ _ (World.block_lt_of_cell? w _ (hc j u hu))]; exact hc j u hu⟩
theorem wpList_append_src2 (w : World) {ops : Array Oper} {rest : List Oper} {o : Oper} {a : Act} {Q : Exit → Act → World → Prop} (hgd : o.guard = none) (s x : Operand)
 (ho : o.op = .call { callee := .builtin .append, args := #[s, x], argTypes := #[24, 24] })
 (base : Nat) (v : Value) (n : Nat) (xs : List Int) (hs : a.eval s = v) (hown : w.ownsRow base 3 1 v n (xs.map (Value.int .i64)))
 (vx : Value) (zs : List Int) (hx : a.eval x = vx) (hz : Src2 w vx zs) (hsm : n + zs.length ≤ 1000000) (hbase : base ≤ w.heap.size)
 (h : ∀ v' w', w'.ownsRow base 3 1 v' (n + zs.length) ((xs ++ zs).map (Value.int .i64)) → w.grownBy w' v.ownBlock → wpList Tryz.prog ops Q rest (a.put o.dst v') w') :
 wpList Tryz.prog ops Q (o :: rest) a w := by
 obtain ⟨inf, hinf, hzr, hsz, hby⟩ := info_parts (P := Tryz.prog) (e := 3) (z := .int .i64 0) (size := 1) (bytes := 8) (by kernel_rfl)
 rcases hz with ⟨rfl, rfl⟩ | ⟨ad, c, rfl, hc⟩
 · refine wpList_append_own_none hgd s x 24 ho base 3 inf 1 Tryz.underlying24 hinf v n _ hs hown hx (h v w ?_ ⟨rfl, rfl, rfl, Nat.le_refl _, fun _ _ _ => rfl⟩)
   simpa using hown
 · refine wpList_append_own w hgd s x 24 ho base 3 inf (.int .i64 0) 1 8 Tryz.underlying24 hinf hzr hsz hby rfl (by decide) v n _ hs hown ad zs.length c (zs.map (Value.int .i64)) hx (by simp) hc (ints_one1 zs) (by unfold maxLen; omega) (by omega) hbase ?_
   intro v' w' h1 h2 _
   exact h v' w' (by rw [List.map_append]; exact h1) h2
theorem open_slz {H : Type} {enc : TypeId × Value → H} {P : Program} {w : World} {base b0 : Nat} {held : Bool} {r : Reach} {t e : TypeId} {v : Value} {d : DataW H} {ps : List MemPlace}
 (ht : P.underlying t = some (.slice e)) (he : P.underlying e = some (.int .i64)) (hc : P.cellsOf e = 1)
 (hval : Value.okWide P w r b0 t v) (hd : DataW.Trod enc P w base (fun _ => true) held t v d ps) :
 ∃ (a : Option Addr) (n c : Nat) (zs : List Int), v = .slice a n c ∧ zs.length = n ∧ n ≤ maxLen ∧ SlA w a zs ∧ (∀ z ∈ zs, (Lit.int .i64 z).wf = true) ∧ (a = none → c = 0) := by
 obtain ⟨a, n, c, zs, rfl, h1, h2, h3, h4⟩ := open_sl ht he hc hval hd
 refine ⟨a, n, c, zs, rfl, h1, h2, h3, h4, ?_⟩
 rintro rfl
 obtain ⟨fuel, hf⟩ := hd
 rcases open_ints ht he hc hf with ⟨hcs, hx⟩ | ⟨a', len', cap', zs, hcs, _⟩
 · simp [Value.cells] at hcs
   exact hcs.2
 · simp [Value.cells] at hcs

theorem slA_row {w : World} {base n : Nat} {v : Value} {zs : List Int} (h : w.ownsRow base 3 1 v n (zs.map (Value.int .i64))) : ∃ a c, v = .slice a zs.length c ∧ zs.length = n ∧ SlA w a zs ∧ (a = none → c = 0) := by
 have hl := h.1
 rw [List.length_map] at hl
 obtain ⟨_, ⟨h1, h2⟩ | ⟨g, cap, cur, rfl, h1, h2, h3, h4, h5, h6⟩⟩ := h
 · have e : zs = [] := List.length_eq_zero_iff.1 (by omega)
   subst e
   exact ⟨none, 0, h1, h2.symm, Or.inl rfl, fun _ => rfl⟩
 · refine ⟨some ⟨g, 0, none⟩, cap, by rw [show zs.length = n by omega], by omega, Or.inr ⟨g, 0, rfl, (Array.getElem?_eq_some_iff.1 h2).1, fun j hj => ?_⟩, fun e => by cases e⟩
   have h7 := congrArg (fun l : List Value => l[j]?) h6
   simp only [List.getElem?_take, List.getElem?_map, Array.getElem?_toList] at h7
   rw [if_pos (by omega), List.getElem?_eq_getElem hj] at h7
   rw [Nat.zero_add, List.getD_eq_getElem?_getD, List.getElem?_eq_getElem hj]
   simpa [World.cell?, h2] using h7
theorem src2_below {w w' : World} {v : Value} {zs : List Int} (h : Src2 w v zs) (hb : Below w.heap.size w w') : Src2 w' v zs := by
 rcases h with h | ⟨ad, c, rfl, hc⟩
 · exact Or.inl h
 · exact Or.inr ⟨ad, c, rfl, fun j u hu => by
    have h1 := hc j u hu
    have h2 := World.block_lt_of_cell? w _ h1
    exact (hb.cell h2).trans h1⟩
theorem open_slc {H : Type} {enc : TypeId × Value → H} {P : Program} {w : World} {base b0 : Nat} {held : Bool} {r : Reach} {t e : TypeId} {v : Value} {d : DataW H} {ps : List MemPlace}
 (ht : P.underlying t = some (.slice e)) (he : P.underlying e = some (.int .i64)) (hc : P.cellsOf e = 1)
 (hval : Value.okWide P w r b0 t v) (hd : DataW.Trod enc P w base (fun _ => true) held t v d ps) :
 ∃ (a : Option Addr) (n c : Nat) (zs : List Int), v = .slice a n c ∧ zs.length = n ∧ n ≤ maxLen ∧ SlA w a zs ∧ (∀ z ∈ zs, (Lit.int .i64 z).wf = true) ∧ (a = none → c = 0) ∧ n ≤ c ∧ c ≤ maxLen := by
 obtain ⟨a, n, c, zs, rfl, h1, h2, h3, h4⟩ := open_sl ht he hc hval hd
 refine ⟨a, n, c, zs, rfl, h1, h2, h3, h4, ?_⟩
 obtain ⟨fuel, hf⟩ := hd
 rcases open_ints ht he hc hf with ⟨hcs, hx⟩ | ⟨a', len', cap', zs', hcs, _, hl, hm, _⟩
 · simp [Value.cells] at hcs
   obtain ⟨rfl, rfl, rfl⟩ := hcs
   exact ⟨fun _ => rfl, Nat.le_refl _, Nat.zero_le _⟩
 · simp [Value.cells] at hcs
   obtain ⟨rfl, rfl, rfl⟩ := hcs
   exact ⟨fun e => by (cases e), hl, hm⟩
end Go.Proofs.YtiigipnfnfpepaaGreatDoor
namespace Go.Proofs.YtiigipnfnfpepaaGreatDoor

section
variable {P : Program} {ops : Array Oper} {Q : Exit → Act → World → Prop} {md : Region.Mode} {l n : Nat}

theorem oper_round {o : Oper} {a : Act} {w : World} {K : Act → World → Prop} (hd : ∀ c, o.op ≠ .defer c) (h : o.wp P a w K Q) : o.wpIn (Fence.wide.inRound l) n P a w K Q := by
 refine ⟨fun _ _ => trivial, ?_⟩
 rw [Oper.semAt_eq _ _ _ hd]
 unfold Oper.wp at h
 generalize (execOp a.eval o).run P w = r at *
 have hdep : ((Fence.wide.inRound l).depth.isSome = true → 1 ≤ n) := fun h => by simp [Fence.wide] at h
 cases r with
 | ok x w' =>
  cases x <;> simp only [Oper.upon, Oper.uponIn] at h ⊢
  case value u => exact h
  case skip => exact h
  case defer d => exact h
  case enter f args => exact ⟨hdep, CallsIn.inRound l (callsIn_wide.2 h)⟩
  case row row args =>
   refine ⟨hdep, fun c cs _ => ?_⟩
   obtain ⟨v, w'', r, s⟩ := h c cs
   exact ⟨v, w'', r, (stepsIn_wide (P := P)).2 s⟩
 | halt x w' => cases x <;> simp only [Oper.upon, Oper.uponIn] at h ⊢ <;> exact h

theorem op_round {i : Nat} {a : Act} {w : World} {K : Act → World → Prop} (hq : ¬ LetsOut Q) (hd : ∀ o c, o ∈ ops → o.op ≠ .defer c) (h : wpOp P ops Q i K a w) : wpOpIn (Fence.wide.inRound l) n P ops Q i K a w := by
 unfold wpOpIn
 unfold wpOp at h
 cases ho : ops[i]? with
 | none =>
  simp only [ho] at h
  exact h
 | some o =>
  simp only [ho] at h ⊢
  by_cases hw : Region.wanted o (yielded ops a.tmps) = true
  · simp only [hw, if_true] at h ⊢
    rcases h with h | ⟨_, h⟩
    · exact oper_round (fun c => hd o c (Array.mem_of_getElem? ho)) h
    · exact absurd h hq
  · simp only [hw] at h ⊢
    exact ⟨fun _ _ => trivial, h⟩

def AnyU (P : Program) (md : Region.Mode) (ops : Array Oper) (Q : Exit → Act → World → Prop) (S : Array Bool → World → Prop) : Nat → Array Bool → Act → World → Prop
 | 0, listed, a, w => Region.ready md ops listed = [] ∧ Q .normal a w
 | fuel + 1, listed, a, w =>
  (Region.ready md ops listed = [] → Q .normal a w) ∧
  ∀ i ∈ Region.ready md ops listed, wpOp P ops Q i (fun a' w' => S (listed.setIfInBounds i true) w' ∧ AnyU P md ops Q S fuel (listed.setIfInBounds i true) a' w') a w

variable {S : Array Bool → World → Prop}

theorem anyIn_of_U (hq : ¬ LetsOut Q) (hd : ∀ o c, o ∈ ops → o.op ≠ .defer c) : ∀ (fuel : Nat) (listed : Array Bool) (a : Act) (w : World), AnyU P md ops Q S fuel listed a w → wpAnyIn (Fence.wide.inRound l) n P md ops Q fuel listed a w
 | 0, _, _, _, h => h
 | fuel + 1, _, _, _, h => ⟨h.1, fun i hi => wpOpIn_mono (fun a' w' h' => anyIn_of_U hq hd fuel _ a' w' h'.2) (op_round hq hd (h.2 i hi))⟩
theorem any_of_U : ∀ (fuel : Nat) (listed : Array Bool) (a : Act) (w : World), AnyU P md ops Q S fuel listed a w → wpAny P md ops Q fuel listed a w
 | 0, _, _, _, h => h
 | fuel + 1, _, _, _, h => ⟨h.1, fun i hi => wpOp_mono (fun a' w' h' => any_of_U fuel _ a' w' h'.2) (h.2 i hi)⟩

set_option maxRecDepth 100000 in
theorem anyU_first {i : Nat} {oi : Oper} {v : Value} {C : World → Prop} {G : Array Bool → Prop} (hi : ops[i]? = some oi) (hG : ∀ L j oj, ops[j]? = some oj → (∀ e ∈ oj.after, Region.binds md e = true → e.on ≠ i) → G L → G (L.setIfInBounds j true))
 (hsel : ∀ (j : Nat) (o : Oper) cs b, ops[j]? = some o → o.op ≠ .select cs b)
 (hQ : ∀ c a w, Q (.panic c) (a.put oi.dst v) w → Q (.panic c) a w) (hSi : ∀ L w, S (L.setIfInBounds i true) w → S L w) (hC : ∀ L w, G L → S L w → C w) :
 ∀ (fuel : Nat) (listed : Array Bool) (a : Act) (w : World),
  (∀ j oj, ops[j]? = some oj → j ≠ i → listed.getD j true = false → (∀ e ∈ oj.after, Region.binds md e = true → e.on ≠ i) → oi.apart ops oj = true) →
  i ∈ Region.ready md ops listed → G listed → YieldsIf P ops C oi v a → S listed w →
  AnyU P md ops Q S fuel (listed.setIfInBounds i true) (a.put oi.dst v) w → S (listed.setIfInBounds i true) w → AnyU P md ops Q S (fuel + 1) listed a w := by
 intro fuel
 induction fuel with
 | zero =>
  intro listed a w _ hr hbl hy hS H hS2
  refine ⟨fun h => (by rw [h] at hr; cases hr), fun j hj => ?_⟩
  by_cases hji : j = i
  · subst hji; exact hy.wpOp hi (hC _ _ hbl hS) ⟨hS2, H⟩
  · have := ready_mono hj hji
    rw [H.1] at this
    cases this
 | succ fuel ih =>
  intro listed a w hfree hr hbl hy hS H hS2
  refine ⟨fun h => (by rw [h] at hr; cases hr), fun j hj => ?_⟩
  by_cases hji : j = i
  · subst hji; exact hy.wpOp hi (hC _ _ hbl hS) ⟨hS2, H⟩
  · have h1 := H.2 j (ready_mono hj hji)
    obtain ⟨hjun, oj, hoj, hall⟩ := mem_ready.1 hj
    have hnot : ∀ e ∈ oj.after, Region.binds md e = true → e.on ≠ i := fun e he hb heq => by
     have h1 := hall e he hb
     have h0 := (mem_ready.1 hr).1
     rw [heq] at h1
     rcases Nat.lt_or_ge i listed.size with h' | h'
     · simp [h'] at h0 h1; rw [h0] at h1; cases h1
     · simp [Array.getElem?_eq_none h'] at h1
    have h2 := wpOp_putIf hoj (hfree j oj hoj hji hjun hnot) (fun cs b => hsel i oi cs b hi) (fun cs b => hsel j oj cs b hoj) hQ hy h1
    have hfree' : ∀ k ok, ops[k]? = some ok → k ≠ i → (listed.setIfInBounds j true).getD k true = false →
     (∀ e ∈ ok.after, Region.binds md e = true → e.on ≠ i) → oi.apart ops ok = true := fun k ok hk hki hun hno => by
     refine hfree k ok hk hki ?_ hno
     by_cases hjk : j = k
     · subst hjk; exact hjun
     · rw [Go.getD_set_ne true hjk] at hun; exact hun
    refine wpOp_mono (fun a' w' h3 => ?_) h2
    have hc := Array.setIfInBounds_comm (xs := listed) true true hji
    have h4 := h3.2.1
    rw [← hc] at h4
    have h5 := h3.2.2
    rw [← hc] at h5
    exact ⟨hSi _ _ h4, ih (listed.setIfInBounds j true) a' w' hfree' (ready_mono hr (Ne.symm hji)) (hG _ _ _ hoj hnot hbl) h3.1 (hSi _ _ h4) h5 h4⟩

theorem anyU_take {i b : Nat} {oi ob : Oper} {v : Value} {C : World → Prop} {fuel : Nat} {listed : Array Bool} {a : Act} {w : World} (hi : ops[i]? = some oi) (hb : ops[b]? = some ob) (hbi : (ob.after.any fun e => Region.binds md e && e.on == i) = true)
 (hs : Region.noSelect ops = true) (hf : Region.free md ops listed i = true) (hr : (Region.ready md ops listed).contains i = true) (hbl : listed.getD b true = false)
 (hQ : ∀ c a w, Q (.panic c) (a.put oi.dst v) w → Q (.panic c) a w) (hSi : ∀ L w, S (L.setIfInBounds i true) w ↔ S L w) (hC : ∀ L w, L.getD b true = false → S L w → C w) (hy : YieldsIf P ops C oi v a) (hS : S listed w)
 (h : AnyU P md ops Q S fuel (listed.setIfInBounds i true) (a.put oi.dst v) w) : AnyU P md ops Q S (fuel + 1) listed a w :=
 anyU_first (G := fun L => L.getD b true = false) hi (fun L j oj hoj hn hg => by
  have hjb : j ≠ b := fun e => by
   subst e
   rw [hb] at hoj
   cases hoj
   simp only [Array.any_eq_true', Bool.and_eq_true, beq_iff_eq] at hbi
   obtain ⟨e, he, h2, h3⟩ := hbi
   exact hn e he h2 h3
  rw [Go.getD_set_ne true hjb]
  exact hg) (Region.noSelect_spec hs) hQ (fun L w h => (hSi L w).1 h) hC fuel listed a w (Region.free_spec hi hf) (by simpa using hr) hbl hy hS h ((hSi _ _).2 hS)
theorem anyU_take0 {i : Nat} {oi : Oper} {v : Value} {fuel : Nat} {listed : Array Bool} {a : Act} {w : World} (hi : ops[i]? = some oi)
 (hs : Region.noSelect ops = true) (hf : Region.free md ops listed i = true) (hr : (Region.ready md ops listed).contains i = true)
 (hQ : ∀ c a w, Q (.panic c) (a.put oi.dst v) w → Q (.panic c) a w) (hSi : ∀ L w, S (L.setIfInBounds i true) w ↔ S L w) (hy : YieldsIf P ops (fun _ => True) oi v a) (hS : S listed w)
 (h : AnyU P md ops Q S fuel (listed.setIfInBounds i true) (a.put oi.dst v) w) : AnyU P md ops Q S (fuel + 1) listed a w :=
 anyU_first (G := fun _ => True) hi (fun _ _ _ _ _ _ => trivial) (Region.noSelect_spec hs) hQ (fun L w h => (hSi L w).1 h) (fun _ _ _ _ => trivial) fuel listed a w (Region.free_spec hi hf) (by simpa using hr) trivial hy hS h ((hSi _ _).2 hS)

theorem anyU_done {listed : Array Bool} {a : Act} {w : World} (hr : Region.ready md ops listed = []) (h : Q .normal a w) : ∀ fuel, AnyU P md ops Q S fuel listed a w
 | 0 => ⟨hr, h⟩
 | _ + 1 => ⟨fun _ => h, by rw [hr]; simp⟩

def ReadyU (P : Program) (md : Region.Mode) (ops : Array Oper) (Q : Exit → Act → World → Prop) (S : Array Bool → World → Prop) (fuel : Nat) (listed : Array Bool) (a : Act) (w : World) (rs : List Nat) : Prop :=
 ∀ i ∈ rs, wpOp P ops Q i (fun a' w' => S (listed.setIfInBounds i true) w' ∧ AnyU P md ops Q S fuel (listed.setIfInBounds i true) a' w') a w
theorem readyU_nil {fuel : Nat} {listed : Array Bool} {a : Act} {w : World} : ReadyU P md ops Q S fuel listed a w [] := fun _ h => by cases h
theorem readyU_cons {fuel : Nat} {listed : Array Bool} {a : Act} {w : World} {i : Nat} {o : Oper} {rs : List Nat} (ho : ops[i]? = some o)
 (h : ∀ K' : Act → World → Prop, Shut (∀ a w, S (listed.setIfInBounds i true) w → (S (listed.setIfInBounds i true) w → AnyU P md ops Q S fuel (listed.setIfInBounds i true) a w) → K' a w) → if Region.wanted o (yielded ops a.tmps) = true then Oper.wp P o a w K' Q else K' (a.put o.dst undef) w)
 (hs : ReadyU P md ops Q S fuel listed a w rs) : ReadyU P md ops Q S fuel listed a w (i :: rs) := fun j hj => by
 rcases List.mem_cons.1 hj with rfl | hj
 · exact wpOp_step ho (fun K' hK => h K' (fun a w hS hW => hK a w ⟨hS, hW hS⟩))
 · exact hs j hj
theorem anyU_ready {rs : List Nat} {fuel : Nat} {listed : Array Bool} {a : Act} {w : World} (hr : Region.ready md ops listed = rs) (hne : rs ≠ [])
 (h : ReadyU P md ops Q S fuel listed a w rs) : AnyU P md ops Q S (fuel + 1) listed a w := ⟨fun h0 => absurd (hr ▸ h0) hne, hr ▸ h⟩

theorem round_region {id : Nat} {a : Act} {w : World} (hm : P.follows .mixedOrders = true) (hq : ¬ LetsOut Q) (hd : (ops.all fun o => match o.op with | .defer _ => false | _ => true) = true) (hS : S (Array.replicate ops.size false) w.drew)
 (h : S (Array.replicate ops.size false) w.drew → AnyU P .any ops Q S ops.size (Array.replicate ops.size false) a w.drew) : (Code.region id ops true).wpIn (Fence.wide.inRound l) n P Q a w :=
 wpIn_region_any hm (anyIn_of_U hq (fun o c ho e => by
  rw [Array.all_eq_true'] at hd
  have := hd o ho
  rw [e] at this
  cases this) _ _ _ _ (h hS))
theorem plain_region {id : Nat} {a : Act} {w : World} (hm : P.follows .mixedOrders = true) (hS : S (Array.replicate ops.size false) w.drew)
 (h : S (Array.replicate ops.size false) w.drew → AnyU P .any ops Q S ops.size (Array.replicate ops.size false) a w.drew) : (Code.region id ops true).wp P Q a w :=
 wp_region_any hm (any_of_U _ _ _ _ (h hS))

theorem stepU_append {o : Oper} {a : Act} {w : World} {K : Act → World → Prop} (hw : Region.wanted o (yielded ops a.tmps) = true) (s x : Operand) (t tn : TypeId)
 (ho : o.op = .call { callee := .builtin .append, args := #[s, x], argTypes := #[t, tn] }) (vs vx : Value) (hs : a.eval s = vs) (hx : a.eval x = vx)
 (v' : Value) (w' : World) (hr : (Builtin.append_ #[t, tn] o.type #[vs, vx]).run P w = .ok v' w') (h : K (a.put o.dst v') w') : if Region.wanted o (yielded ops a.tmps) = true then o.wp P a w K Q else K (a.put o.dst undef) w := by
 rw [if_pos hw]
 exact Lib.wp_append_run w s x t tn ho vs vx hs hx v' w' hr h
end
theorem gN (i j : Nat) {l : Array Bool} (h : i ≠ j := by decide) : (l.setIfInBounds i true).getD j true = l.getD j true := Go.getD_set_ne true h
theorem rL {b : Bool} {p : Prop} (k : b = true ∨ p) (h : b = false) : p := k.resolve_left (by rw [h]; decide)
section
variable {P : Program} {md : Region.Mode} {ops : Array Oper} {Q : Exit → Act → World → Prop} {S : Array Bool → World → Prop}
theorem aZ (i : Nat) {d op ty ps af gd} {v : Value} {fuel : Nat} {listed L' : Array Bool} {a a' : Act} {w : World} (hi : ops[i]? = some ⟨d, op, ty, ps, af, gd⟩) (hy : YieldsIf P ops (fun _ => True) ⟨d, op, ty, ps, af, gd⟩ v a) (hS : S listed w) (h : AnyU P md ops Q S fuel L' a' w)
 (hs : (Region.noSelect ops && Region.free md ops listed i && (Region.ready md ops listed).contains i) = true := by kernel_rfl)
 (hSi : ∀ L w, S (L.setIfInBounds i true) w ↔ S L w := by first | (intro L w; simp (disch := decide) only [Go.getD_set_ne]; done) | exact fun _ _ => Iff.rfl)
 (e1 : listed.setIfInBounds i true = L' := by (try simp only [tA, tB, tC]); exact rfl)
 (e2 : a.put d v = a' := by (try simp only [Act.put, tA, tB, tC]); exact rfl)
 (hQ : ∀ c a w, Q (.panic c) (a.put d v) w → Q (.panic c) a w := by exact fun _ _ _ h => h) : AnyU P md ops Q S (fuel + 1) listed a w := by
 subst e1 e2
 simp only [Bool.and_eq_true] at hs
 exact anyU_take0 hi hs.1.1 hs.1.2 hs.2 hQ hSi hy hS h
theorem aW (i : Nat) {d op ty ps af gd} {v : Value} {fuel : Nat} {listed L' : Array Bool} {a a' : Act} {w : World} (hS : S listed w) (h : AnyU P md ops Q S fuel L' a' w)
 (hi : ops[i]? = some ⟨d, op, ty, ps, af, gd⟩ := by exact rfl)
 (hs : (Region.noSelect ops && Region.free md ops listed i && (Region.ready md ops listed).contains i) = true := by kernel_rfl)
 (hSi : ∀ L w, S (L.setIfInBounds i true) w ↔ S L w := by first | (intro L w; simp (disch := decide) only [Go.getD_set_ne]; done) | exact fun _ _ => Iff.rfl)
 (hw : Region.wanted ⟨d, op, ty, ps, af, gd⟩ (yielded ops a.tmps) = true := by rfl)
 (hy : ∀ W, True → (execOp a.eval ⟨d, op, ty, ps, af, gd⟩).run P W = .ok (.value v) W := by intro W hSw; go_simp; try with_reducible rfl)
 (e1 : listed.setIfInBounds i true = L' := by (try simp only [tA, tB, tC]); exact rfl)
 (e2 : a.put d v = a' := by (try simp only [Act.put, tA, tB, tC]); exact rfl)
 (hQ : ∀ c a w, Q (.panic c) (a.put d v) w → Q (.panic c) a w := by exact fun _ _ _ h => h) : AnyU P md ops Q S (fuel + 1) listed a w := aZ i hi (Or.inl ⟨hw, hy⟩) hS h hs hSi e1 e2 hQ
theorem aS (i : Nat) {d op ty ps af gd} {fuel : Nat} {listed L' : Array Bool} {a a' : Act} {w : World} (hS : S listed w) (h : AnyU P md ops Q S fuel L' a' w)
 (hi : ops[i]? = some ⟨d, op, ty, ps, af, gd⟩ := by exact rfl)
 (hs : (Region.noSelect ops && Region.free md ops listed i && (Region.ready md ops listed).contains i) = true := by kernel_rfl)
 (hSi : ∀ L w, S (L.setIfInBounds i true) w ↔ S L w := by first | (intro L w; simp (disch := decide) only [Go.getD_set_ne]; done) | exact fun _ _ => Iff.rfl)
 (hy : YieldsIf P ops (fun _ => True) ⟨d, op, ty, ps, af, gd⟩ undef a := by exact Or.inr ⟨by rfl, rfl⟩)
 (e1 : listed.setIfInBounds i true = L' := by (try simp only [tA, tB, tC]); exact rfl)
 (e2 : a.put d undef = a' := by (try simp only [Act.put, tA, tB, tC]); exact rfl)
 (hQ : ∀ c a w, Q (.panic c) (a.put d undef) w → Q (.panic c) a w := by exact fun _ _ _ h => h) : AnyU P md ops Q S (fuel + 1) listed a w := aZ i hi hy hS h hs hSi e1 e2 hQ
theorem aB (i b : Nat) {d op ty ps af gd d' op' ty' ps' af' gd'} {v : Value} {C : World → Prop} {fuel : Nat} {listed L' : Array Bool} {a a' : Act} {w : World}
 (hi : ops[i]? = some ⟨d, op, ty, ps, af, gd⟩) (hC : ∀ L w, L.getD b true = false → S L w → C w) (hy : YieldsIf P ops C ⟨d, op, ty, ps, af, gd⟩ v a) (hS : S listed w) (h : AnyU P md ops Q S fuel L' a' w)
 (hb : ops[b]? = some ⟨d', op', ty', ps', af', gd'⟩ := by exact rfl)
 (hs : ((af'.any fun e => Region.binds md e && e.on == i) && Region.noSelect ops && Region.free md ops listed i && (Region.ready md ops listed).contains i && !listed.getD b true) = true := by kernel_rfl)
 (hSi : ∀ L w, S (L.setIfInBounds i true) w ↔ S L w := by first | (intro L w; simp (disch := decide) only [Go.getD_set_ne]; done) | exact fun _ _ => Iff.rfl)
 (e1 : listed.setIfInBounds i true = L' := by (try simp only [tA, tB, tC]); exact rfl)
 (e2 : a.put d v = a' := by (try simp only [Act.put, tA, tB, tC]); exact rfl)
 (hQ : ∀ c a w, Q (.panic c) (a.put d v) w → Q (.panic c) a w := by exact fun _ _ _ h => h) : AnyU P md ops Q S (fuel + 1) listed a w := by
 subst e1 e2
 simp only [Bool.and_eq_true, Bool.not_eq_true'] at hs
 exact anyU_take hi hb hs.1.1.1.1 hs.1.1.1.2 hs.1.1.2 hs.1.2 hs.2 hQ hSi hC hy hS h
theorem aL (i b : Nat) {d op ty ps af gd d' op' ty' ps' af' gd'} {v : Value} {C : World → Prop} {fuel : Nat} {listed L' : Array Bool} {a a' : Act} {w : World}
 (hC : ∀ L w, L.getD b true = false → S L w → C w) (hS : S listed w) (h : AnyU P md ops Q S fuel L' a' w)
 (hi : ops[i]? = some ⟨d, op, ty, ps, af, gd⟩ := by exact rfl) (hb : ops[b]? = some ⟨d', op', ty', ps', af', gd'⟩ := by exact rfl)
 (hs : ((af'.any fun e => Region.binds md e && e.on == i) && Region.noSelect ops && Region.free md ops listed i && (Region.ready md ops listed).contains i && !listed.getD b true) = true := by kernel_rfl)
 (hSi : ∀ L w, S (L.setIfInBounds i true) w ↔ S L w := by first | (intro L w; simp (disch := decide) only [Go.getD_set_ne]; done) | exact fun _ _ => Iff.rfl)
 (hw : Region.wanted ⟨d, op, ty, ps, af, gd⟩ (yielded ops a.tmps) = true := by rfl)
 (hy : ∀ W, C W → (execOp a.eval ⟨d, op, ty, ps, af, gd⟩).run P W = .ok (.value v) W := by intro W hSw; (try dsimp only at hSw); go_simp; try with_reducible rfl)
 (e1 : listed.setIfInBounds i true = L' := by (try simp only [tA, tB, tC]); exact rfl)
 (e2 : a.put d v = a' := by (try simp only [Act.put, tA, tB, tC]); exact rfl)
 (hQ : ∀ c a w, Q (.panic c) (a.put d v) w → Q (.panic c) a w := by exact fun _ _ _ h => h) : AnyU P md ops Q S (fuel + 1) listed a w := aB i b hi hC (Or.inl ⟨hw, hy⟩) hS h hb hs hSi e1 e2 hQ
theorem aR (i : Nat) {d op ty ps af gd} {fuel : Nat} {listed : Array Bool} {a : Act} {w : World}
 (h : ∀ K' : Act → World → Prop, Shut (∀ a w, S (listed.setIfInBounds i true) w → (S (listed.setIfInBounds i true) w → AnyU P md ops Q S fuel (listed.setIfInBounds i true) a w) → K' a w) → if Region.wanted ⟨d, op, ty, ps, af, gd⟩ (yielded ops a.tmps) = true then Oper.wp P ⟨d, op, ty, ps, af, gd⟩ a w K' Q else K' (a.put d undef) w)
 (hi : ops[i]? = some ⟨d, op, ty, ps, af, gd⟩ := by exact rfl) (hr : Region.ready md ops listed = [i] := by kernel_rfl) : AnyU P md ops Q S (fuel + 1) listed a w :=
 anyU_ready hr (by simp) (readyU_cons hi h readyU_nil)
end
end Go.Proofs.YtiigipnfnfpepaaGreatDoor
namespace Go.Proofs.YtiigipnfnfpepaaGreatDoor

def overTo (g : Nat → Int) (zs : List Int) (k : Nat) : List Int := (List.range zs.length).map fun i => if i < k then g i else zs.getD i 0
theorem overTo_len (g : Nat → Int) (zs : List Int) (k : Nat) : (overTo g zs k).length = zs.length := by simp [overTo]
theorem overTo_get {g : Nat → Int} {zs : List Int} {k i : Nat} (hi : i < zs.length) : (overTo g zs k).getD i 0 = if i < k then g i else zs.getD i 0 := by
 simp [overTo, List.getD_eq_getElem?_getD, List.getElem?_map, List.getElem?_range hi]
theorem list_getD_ext {xs ys : List Int} (h : xs.length = ys.length) (hi : ∀ i, i < xs.length → xs.getD i 0 = ys.getD i 0) : xs = ys := by
 apply List.ext_getElem h
 intro i h1 h2
 have := hi i h1
 simpa [List.getD_eq_getElem?_getD, List.getElem?_eq_getElem h1, List.getElem?_eq_getElem h2] using this
theorem overTo_zero (g : Nat → Int) (zs : List Int) : overTo g zs 0 = zs := by
 refine list_getD_ext (overTo_len _ _ _) (fun i hi => ?_)
 rw [overTo_get (by simpa [overTo_len] using hi)]
 simp
theorem set_getD (zs : List Int) (i j : Nat) (v : Int) : (zs.set i v).getD j 0 = if i = j ∧ i < zs.length then v else zs.getD j 0 := by
 simp only [List.getD_eq_getElem?_getD, List.getElem?_set]
 by_cases h : i = j
 · subst h
   by_cases h2 : i < zs.length
   · simp [h2]
   · simp [h2]
 · simp [h]
theorem overTo_succ {g : Nat → Int} {zs : List Int} {k : Nat} {v : Int} (hv : v = g k) (hk : k < zs.length) : (overTo g zs k).set k v = overTo g zs (k + 1) := by
 subst hv
 refine list_getD_ext (by simp [overTo_len]) (fun i hi => ?_)
 have hi' : i < zs.length := by simpa [overTo_len] using hi
 rw [set_getD, overTo_get hi', overTo_get hi', overTo_len]
 by_cases e : k = i
 · subst e
   rw [if_pos ⟨rfl, hk⟩, if_pos (by omega)]
 · rw [if_neg (by omega)]
   by_cases h : i < k
   · rw [if_pos h, if_pos (by omega)]
   · rw [if_neg h, if_neg (by omega)]
theorem overTo_all {g : Nat → Int} {zs : List Int} {n : Nat} (h : zs.length = n) : overTo g zs n = (List.range n).map g := by
 unfold overTo
 rw [h]
 exact List.map_congr_left fun i hi => if_pos (List.mem_range.1 hi)
theorem range_map_get {f : Int → Int} {zs : List Int} {n : Nat} (h : zs.length = n) : ((List.range n).map fun i => f (zs.getD i 0)) = zs.map f := by
 subst h
 apply List.ext_getElem (by simp)
 intro i h1 h2
 have : i < zs.length := by simpa using h2
 simp [List.getD_eq_getElem?_getD, List.getElem?_eq_getElem this]
end Go.Proofs.YtiigipnfnfpepaaGreatDoor
namespace Go.Proofs.YtiigipnfnfpepaaGreatDoor
open Go.RowKit

theorem range_whole {W : World} {g : Nat} {t : TypeId} {zs : List Int} (h : Blk W g t (ints zs)) : W.rangeAt g 0 (zs.map (Value.int .i64)) := fun j v hv => by
 rw [Nat.zero_add, blk_cell h, ints_get, ← List.getElem?_map]
 exact hv
theorem wpList_load_wanted {P : Program} {ops : Array Oper} {rest : List Oper} {op : Oper} {a : Act} {w : World} {Q : Exit → Act → World → Prop} (hgd : Region.wanted op (yielded ops a.tmps) = true) (ty : TypeId) (x : Operand) (ho : op.op = .load ty x)
 (g : Nat) (hx : a.eval x = .pointer (some ⟨g, 0, none⟩)) (t : TypeId) (zs : List Int) (d : TypeDesc) (hb : Blk w g t (ints zs))
 (hu : P.underlying ty = some d) (hd : d.isRow = true) (hi : (P.info? ty).map (·.size) = some zs.length)
 (h : wpList P ops Q rest (a.put op.dst (.agg (ints zs))) w) : wpList P ops Q (op :: rest) a w :=
 wpList_step fun _ hK => by
  rw [if_pos hgd]
  exact wp_load_mid ty x ho g 0 hx (zs.map (Value.int .i64)) d (range_whole hb) hu hd (by rw [List.length_map]; exact hi) (hK _ _ h)
end Go.Proofs.YtiigipnfnfpepaaGreatDoor
namespace Go.Proofs.YtiigipnfnfpepaaGreatDoor
open Go.RowKit

end Go.Proofs.YtiigipnfnfpepaaGreatDoor
