/- Two variables in boxes, each a row of one's own: what an append to one, and a store into its box, leave. -/
import Derived.Test.YtnmhbonheaoldaaRow
import Derived.RangeFuncBox
import Derived.RangeFuncCalls
import Derived.Maps.AppendAt
namespace Go.Proofs.Ytnmhbonheaoldaa
open Go.RowKit

/-- (A: blocks that nobody turns) the boxes hold um and us; vm and vs own the rows xm and xs; nothing below n₀ has turned since W0, nor what is no cells -/
structure TwoRows (A : Nat → Prop) (n₀ pm ps : Nat) (W0 W : World) (um us vm vs : Value) (xm xs : List Int) : Prop where
  kf : KeepsOthers W0 W
  bl : Below n₀ W0 W
  sz : n₀ ≤ W0.heap.size
  lm : n₀ ≤ pm
  ls : n₀ ≤ ps
  ne : pm ≠ ps
  bm : Boxed W pm 55 um
  bs : Boxed W ps 55 us
  rm : W.ownsRow n₀ 3 1 vm xm.length (xm.map (Value.int .i64))
  rs : W.ownsRow n₀ 3 1 vs xs.length (xs.map (Value.int .i64))
  ap : ∀ g, vm.ownBlock = some g → vs.ownBlock ≠ some g
  av : ∀ B, A B → B < W0.heap.size ∧ B ≠ pm ∧ B ≠ ps ∧ vm.ownBlock ≠ some B ∧ vs.ownBlock ≠ some B ∧ W.heap[B]? = W0.heap[B]?

theorem owns_block {w : World} {base n : Nat} {v : Value} {t : TypeId} {xs : List Value} (h : w.ownsRow base t 1 v n xs) {g : Nat} (hg : v.ownBlock = some g) : base ≤ g ∧ ∃ cs, w.heap[g]? = some (.cells cs t (0, 0)) := by
  obtain ⟨_, ⟨rfl, _⟩ | ⟨g', cap, cur, rfl, h1, h2, _⟩⟩ := h
  · simp [Value.ownBlock] at hg
  · simp [Value.ownBlock] at hg
    subst hg
    exact ⟨h1, _, h2⟩
theorem owns_kept {w w' : World} {base n : Nat} {v : Value} {t : TypeId} {xs : List Value} {row : Option Nat} (h : w.ownsRow base t 1 v n xs) (hg : w.grownBy w' row) (hr : ∀ g, v.ownBlock = some g → row ≠ some g) : w'.ownsRow base t 1 v n xs := by
  obtain ⟨hl, h | ⟨g, cap, cur, rfl, h1, h2, h3⟩⟩ := h
  · exact ⟨hl, Or.inl h⟩
  · exact ⟨hl, Or.inr ⟨g, cap, cur, rfl, h1, (hg.block g (Array.getElem?_eq_some_iff.1 h2).1 (fun e => hr g rfl e.symm)).trans h2, h3⟩⟩

section
variable {A : Nat → Prop} {n₀ bm bs : Nat} {W0 W : World} {um us vm vs : Value} {xm xs : List Int}
theorem two_swap (h : TwoRows A n₀ bm bs W0 W um us vm vs xm xs) : TwoRows A n₀ bs bm W0 W us um vs vm xs xm :=
  ⟨h.kf, h.bl, h.sz, h.ls, h.lm, h.ne.symm, h.bs, h.bm, h.rs, h.rm, fun g e1 e2 => h.ap g e2 e1, fun B hB => let ⟨a, b, c, d, e, f⟩ := h.av B hB; ⟨a, c, b, e, d, f⟩⟩
theorem two_drew (h : TwoRows A n₀ bm bs W0 W um us vm vs xm xs) : TwoRows A n₀ bm bs W0 W.drew um us vm vs xm xs :=
  ⟨h.kf.trans (KeepsOthers.drew W), below_draws h.bl 1, h.sz, h.lm, h.ls, h.ne, h.bm, h.bs, h.rm, h.rs, h.ap, h.av⟩
theorem two_size (h : TwoRows A n₀ bm bs W0 W um us vm vs xm xs) : n₀ ≤ W.heap.size := Nat.le_trans h.sz h.bl.size
theorem two_grown {W' : World} (h : TwoRows A n₀ bm bs W0 W um us vm vs xm xs) (hg : W.grownBy W' none) : TwoRows A n₀ bm bs W0 W' um us vm vs xm xs :=
  ⟨h.kf.trans (KeepsOthers.of_grownBy hg (fun j o e => by cases e)), h.bl.grown hg (two_size h) (fun k e => by cases e), h.sz, h.lm, h.ls, h.ne, h.bm.kept hg (by simp), h.bs.kept hg (by simp), owns_kept h.rm hg (fun g _ e => by cases e), owns_kept h.rs hg (fun g _ e => by cases e), h.ap, fun B hB => let ⟨a, b, c, d, e, f⟩ := h.av B hB; ⟨a, b, c, d, e, (hg.block B (Nat.lt_of_lt_of_le a h.bl.size) (by simp)).trans f⟩⟩
theorem two_alloc (h : TwoRows A n₀ bm bs W0 W um us vm vs xm xs) (o : Obj) : TwoRows A n₀ bm bs W0 (W.alloc o) um us vm vs xm xs := two_grown h (World.grownBy_alloc W o none)

/-- an append to the first -/
theorem two_append {W' : World} {v' : Value} {x : Int} (h : TwoRows A n₀ bm bs W0 W um us vm vs xm xs) (hown : W'.ownsRow n₀ 3 1 v' (xm.length + 1) (xm.map (Value.int .i64) ++ [.int .i64 x])) (hg : W.grownBy W' vm.ownBlock)
    (hat : v'.ownBlock = vm.ownBlock ∨ v'.ownBlock = some W.heap.size) : TwoRows A n₀ bm bs W0 W' um us v' vs (xm ++ [x]) xs := by
  have hb : ∀ g, vm.ownBlock = some g → n₀ ≤ g ∧ ∃ cs, W.heap[g]? = some (.cells cs 3 (0, 0)) := fun g e => owns_block h.rm e
  have hrow : ∀ B u, Boxed W B 55 u → some B ≠ vm.ownBlock := fun B u hB => hB.not_row (by decide) h.rm
  refine ⟨h.kf.trans (KeepsOthers.of_grownBy hg (fun j o e ho => ?_)), h.bl.grown hg (two_size h) (fun k e => (hb k e).1), h.sz, h.lm, h.ls, h.ne, h.bm.kept hg (hrow _ _ h.bm), h.bs.kept hg (hrow _ _ h.bs), ?_, owns_kept h.rs hg (fun g e1 e2 => h.ap g e2 e1), fun g e1 e2 => ?_, fun B hB => ?_⟩
  · obtain ⟨_, cs, h2⟩ := hb j e
    rw [h2] at ho
    cases ho
    rfl
  · simpa using hown
  · rcases hat with e | e
    · rw [e] at e1
      exact h.ap g e1 e2
    · rw [e] at e1
      cases e1
      obtain ⟨_, cs, h2⟩ := owns_block h.rs e2
      have := (Array.getElem?_eq_some_iff.1 h2).1
      omega
  · obtain ⟨a, b, c, d, e, f⟩ := h.av B hB
    have := h.bl.size
    refine ⟨a, b, c, ?_, e, (hg.block B (Nat.lt_of_lt_of_le a h.bl.size) (Ne.symm d)).trans f⟩
    rcases hat with e2 | e2
    · rw [e2]; exact d
    · rw [e2]
      intro e3
      cases e3
      omega
/-- the first box is stored into -/
theorem two_store (h : TwoRows A n₀ bm bs W0 W um us vm vs xm xs) (u : Value) : TwoRows A n₀ bm bs W0 (W.setCell ⟨bm, 0, none⟩ u) u us vm vs xm xs := by
  have hg := grownBy_setCell' W bm u
  refine ⟨h.kf.trans (KeepsOthers.setCell W _ u), h.bl.setCell (p := ⟨bm, 0, none⟩) h.lm u, h.sz, h.lm, h.ls, h.ne, h.bm.set u, h.bs.kept hg (fun e => h.ne (by cases e; rfl)), owns_kept h.rm hg (fun g e e2 => ?_), owns_kept h.rs hg (fun g e e2 => ?_), h.ap, fun B hB => let ⟨a, b, c, d, e, f⟩ := h.av B hB; ⟨a, b, c, d, e, (hg.block B (Nat.lt_of_lt_of_le a h.bl.size) (fun e => b (by cases e; rfl))).trans f⟩⟩
  · cases e2
    exact h.bm.not_row (t := 55) (e := 3) (by decide) h.rm e.symm
  · cases e2
    exact h.bm.not_row (t := 55) (e := 3) (by decide) h.rs e.symm
theorem two_store2 (h : TwoRows A n₀ bm bs W0 W um us vm vs xm xs) (u : Value) : TwoRows A n₀ bm bs W0 (W.setCell ⟨bs, 0, none⟩ u) um u vm vs xm xs := two_swap (two_store (two_swap h) u)
theorem two_put (h : TwoRows A n₀ bm bs W0 W um us vm vs xm xs) : TwoRows A n₀ bm bs W0 (W.setCell ⟨bm, 0, none⟩ vm) vm us vm vs xm xs := two_store h vm
theorem two_put2 (h : TwoRows A n₀ bm bs W0 W um us vm vs xm xs) : TwoRows A n₀ bm bs W0 (W.setCell ⟨bs, 0, none⟩ vs) um vs vm vs xm xs := two_store2 h vs
theorem two_cast {xm' xs' : List Int} (h : TwoRows A n₀ bm bs W0 W um us vm vs xm xs) (e1 : xm = xm') (e2 : xs = xs') : TwoRows A n₀ bm bs W0 W um us vm vs xm' xs' := by
  subst e1
  subst e2
  exact h
theorem two_append2 {W' : World} {v' : Value} {x : Int} (h : TwoRows A n₀ bm bs W0 W um us vm vs xm xs) (hown : W'.ownsRow n₀ 3 1 v' (xs.length + 1) (xs.map (Value.int .i64) ++ [.int .i64 x])) (hg : W.grownBy W' vs.ownBlock)
    (hat : v'.ownBlock = vs.ownBlock ∨ v'.ownBlock = some W.heap.size) : TwoRows A n₀ bm bs W0 W' um us vm v' xm (xs ++ [x]) := two_swap (two_append (two_swap h) hown hg hat)

theorem two_base (h : TwoRows A n₀ bm bs W0 W um us vm vs xm xs) : TwoRows A n₀ bm bs W W um us vm vs xm xs :=
  ⟨KeepsOthers.refl W, Below.refl _ _, two_size h, h.lm, h.ls, h.ne, h.bm, h.bs, h.rm, h.rs, h.ap, fun B hB => let ⟨a, b, c, d, e, _⟩ := h.av B hB; ⟨Nat.lt_of_lt_of_le a h.bl.size, b, c, d, e, rfl⟩⟩
theorem two_join {W' : World} {um' us' vm' vs' : Value} {xm' xs' : List Int} (h : TwoRows A n₀ bm bs W0 W um us vm vs xm xs) (k : TwoRows A n₀ bm bs W W' um' us' vm' vs' xm' xs') : TwoRows A n₀ bm bs W0 W' um' us' vm' vs' xm' xs' :=
  ⟨h.kf.trans k.kf, h.bl.trans k.bl, h.sz, h.lm, h.ls, h.ne, k.bm, k.bs, k.rm, k.rs, k.ap, fun B hB => let ⟨a, b, c, _, _, f⟩ := h.av B hB; let ⟨_, _, _, d, e, f2⟩ := k.av B hB; ⟨a, b, c, d, e, f2.trans f⟩⟩
/-- a block that is no cells is turned, from W0's end on -/
theorem two_turned {W' : World} {row : Option Nat} (h : TwoRows A n₀ bm bs W0 W um us vm vs xm xs) (hg : W.grownBy W' row) (hr : ∀ r, row = some r → W0.heap.size ≤ r ∧ ∃ o : Obj, W.heap[r]? = some o ∧ o.isCells = false) : TwoRows A n₀ bm bs W0 W' um us vm vs xm xs := by
  have hne : ∀ B u t, W.heap[B]? = some (.cells u t (0, 0)) → some B ≠ row := fun B u t hB e => by
    obtain ⟨_, o, ho, hc⟩ := hr B e.symm
    rw [hB] at ho
    cases ho
    cases hc
  refine ⟨⟨Nat.le_trans h.kf.size hg.size, fun k o hk ho => ?_⟩, h.bl.grown hg (two_size h) (fun k e => Nat.le_trans h.sz (hr k e).1), h.sz, h.lm, h.ls, h.ne, h.bm.kept hg (hne _ _ _ h.bm), h.bs.kept hg (hne _ _ _ h.bs), owns_kept h.rm hg (fun g e e2 => ?_), owns_kept h.rs hg (fun g e e2 => ?_), h.ap, fun B hB => let ⟨a, b, c, d, e, f⟩ := h.av B hB; ⟨a, b, c, d, e, (hg.block B (Nat.lt_of_lt_of_le a h.bl.size) (fun e => by have := (hr B e.symm).1; omega)).trans f⟩⟩
  · have hlt := (Array.getElem?_eq_some_iff.1 hk).1
    have h1 := h.kf.same k o hk ho
    exact (hg.block k (Array.getElem?_eq_some_iff.1 h1).1 (fun e => by have := (hr k e.symm).1; omega)).trans h1
  · obtain ⟨_, cs, h2⟩ := owns_block h.rm e
    exact hne _ _ _ h2 e2.symm
  · obtain ⟨_, cs, h2⟩ := owns_block h.rs e
    exact hne _ _ _ h2 e2.symm

/-- the append itself: one number that lies in a block of its own -/
theorem run_append_one {base : Nat} {v : Value} {xs : List Int} {x : Int} {g : Nat} (w : World) (hown : w.ownsRow base 3 1 v xs.length (xs.map (Value.int .i64))) (hx : Blk w g 3 #[.int .i64 x]) (hsm : xs.length ≤ 100000) (hb : base ≤ w.heap.size) (ty : TypeId) :
    ∃ v' w', (Builtin.append_ #[55, 55] ty #[v, .slice (some ⟨g, 0, none⟩) 1 1]).run Try.prog w = .ok v' w' ∧ w'.ownsRow base 3 1 v' (xs.length + 1) (xs.map (Value.int .i64) ++ [.int .i64 x]) ∧ w.grownBy w' v.ownBlock ∧ (v'.ownBlock = v.ownBlock ∨ v'.ownBlock = some w.heap.size) := by
  obtain ⟨inf, hinf, hzr, hsz, hby⟩ := info_parts (P := Try.prog) (e := 3) (z := .int .i64 0) (size := 1) (bytes := 8) (by kernel_rfl)
  obtain ⟨v', w', h1, h2, h3, _, h5⟩ := run_append_own_at (P := Try.prog) w base 55 ty 3 inf (.int .i64 0) 1 8 Try.underlying55 hinf hzr hsz hby rfl (by decide) v xs.length _ hown ⟨g, 0, none⟩ 1 1 [.int .i64 x] rfl
    (fun j u hj => by
      have hlt := (List.getElem?_eq_some_iff.1 hj).1
      obtain rfl : j = 0 := by simpa using hlt
      simp only [List.getElem?_cons_zero, Option.some.injEq] at hj
      rw [← hj]
      exact blk_cell hx 0) (by simp [Value.oneCell']) (by unfold maxLen; omega) (by omega) hb
  exact ⟨v', w', h1, h2, h3, h5⟩
end
end Go.Proofs.Ytnmhbonheaoldaa
