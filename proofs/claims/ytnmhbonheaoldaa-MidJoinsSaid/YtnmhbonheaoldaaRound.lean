/- A drawn region within a round of a loop over a function: its operations may be walked as everywhere; loads may be taken first under a condition that need hold only till the operation that waits for them has come. No Go in it. -/
import Derived.RangeFuncBox
import Derived.RangeFuncNested
import Derived.RangeFuncBound
import Derived.RangeFuncCalls
import Derived.RangeFuncLeaves
import Derived.OrdersHeld
import Derived.OrdersIn
import Derived.Deep.RegionHeld
import Derived.Lib.AppendZeros
namespace Go.Proofs.Ytnmhbonheaoldaa

section
variable {P : Program} {ops : Array Oper} {Q : Exit → Act → World → Prop} {md : Region.Mode} {l n : Nat}

theorem oper_round {o : Oper} {a : Act} {w : World} {K : Act → World → Prop} (hd : ∀ c, o.op ≠ .defer c) (h : o.wp P a w K Q) : o.wpIn (Fence.wide.inRound l) n P a w K Q := by
  refine ⟨fun _ _ => trivial, ?_⟩
  rw [Oper.semAt_eq _ _ _ hd]
  unfold Oper.wp at h
  generalize (execOp a.eval o).run P w = r at *
  have hdep : ((Fence.wide.inRound l).depth.isSome = true → 1 ≤ n) := fun h => by simp [Fence.wide] at h
  cases r with
  | ok x w' =>
    cases x <;> simp only [Oper.upon, Oper.uponIn] at h ⊢
    case value u => exact h
    case skip => exact h
    case defer d => exact h
    case enter f args => exact ⟨hdep, CallsIn.inRound l (callsIn_wide.2 h)⟩
    case row row args =>
      refine ⟨hdep, fun c cs _ => ?_⟩
      obtain ⟨v, w'', r, s⟩ := h c cs
      exact ⟨v, w'', r, (stepsIn_wide (P := P)).2 s⟩
  | halt x w' => cases x <;> simp only [Oper.upon, Oper.uponIn] at h ⊢ <;> exact h

theorem op_round {i : Nat} {a : Act} {w : World} {K : Act → World → Prop} (hq : ¬ LetsOut Q) (hd : ∀ o c, o ∈ ops → o.op ≠ .defer c) (h : wpOp P ops Q i K a w) : wpOpIn (Fence.wide.inRound l) n P ops Q i K a w := by
  unfold wpOpIn
  unfold wpOp at h
  cases ho : ops[i]? with
  | none =>
    simp only [ho] at h
    exact h
  | some o =>
    simp only [ho] at h ⊢
    by_cases hw : Region.wanted o (yielded ops a.tmps) = true
    · simp only [hw, if_true] at h ⊢
      rcases h with h | ⟨_, h⟩
      · exact oper_round (fun c => hd o c (Array.mem_of_getElem? ho)) h
      · exact absurd h hq
    · simp only [hw] at h ⊢
      exact ⟨fun _ _ => trivial, h⟩

/-- whatever order is picked from here on, and S holds behind every operation: S looks at what has come, too -/
def AnyU (P : Program) (md : Region.Mode) (ops : Array Oper) (Q : Exit → Act → World → Prop) (S : Array Bool → World → Prop) : Nat → Array Bool → Act → World → Prop
  | 0, listed, a, w => Region.ready md ops listed = [] ∧ Q .normal a w
  | fuel + 1, listed, a, w =>
    (Region.ready md ops listed = [] → Q .normal a w) ∧
    ∀ i ∈ Region.ready md ops listed, wpOp P ops Q i (fun a' w' => S (listed.setIfInBounds i true) w' ∧ AnyU P md ops Q S fuel (listed.setIfInBounds i true) a' w') a w

variable {S : Array Bool → World → Prop}

theorem anyIn_of_U (hq : ¬ LetsOut Q) (hd : ∀ o c, o ∈ ops → o.op ≠ .defer c) : ∀ (fuel : Nat) (listed : Array Bool) (a : Act) (w : World), AnyU P md ops Q S fuel listed a w → wpAnyIn (Fence.wide.inRound l) n P md ops Q fuel listed a w
  | 0, _, _, _, h => h
  | fuel + 1, _, _, _, h => ⟨h.1, fun i hi => wpOpIn_mono (fun a' w' h' => anyIn_of_U hq hd fuel _ a' w' h'.2) (op_round hq hd (h.2 i hi))⟩
theorem any_of_U : ∀ (fuel : Nat) (listed : Array Bool) (a : Act) (w : World), AnyU P md ops Q S fuel listed a w → wpAny P md ops Q fuel listed a w
  | 0, _, _, _, h => h
  | fuel + 1, _, _, _, h => ⟨h.1, fun i hi => wpOp_mono (fun a' w' h' => any_of_U fuel _ a' w' h'.2) (h.2 i hi)⟩

/-- operation i may be taken first: G holds of what has come, as long as none has come that waits for it -/
theorem anyU_first {i : Nat} {oi : Oper} {v : Value} {C : World → Prop} {G : Array Bool → Prop} (hi : ops[i]? = some oi) (hG : ∀ L j oj, ops[j]? = some oj → (∀ e ∈ oj.after, Region.binds md e = true → e.on ≠ i) → G L → G (L.setIfInBounds j true))
    (hsel : ∀ (j : Nat) (o : Oper) cs b, ops[j]? = some o → o.op ≠ .select cs b)
    (hQ : ∀ c a w, Q (.panic c) (a.put oi.dst v) w → Q (.panic c) a w) (hSi : ∀ L w, S (L.setIfInBounds i true) w → S L w) (hC : ∀ L w, G L → S L w → C w) :
    ∀ (fuel : Nat) (listed : Array Bool) (a : Act) (w : World),
      (∀ j oj, ops[j]? = some oj → j ≠ i → listed.getD j true = false → (∀ e ∈ oj.after, Region.binds md e = true → e.on ≠ i) → oi.apart ops oj = true) →
      i ∈ Region.ready md ops listed → G listed → YieldsIf P ops C oi v a → S listed w →
      AnyU P md ops Q S fuel (listed.setIfInBounds i true) (a.put oi.dst v) w → S (listed.setIfInBounds i true) w → AnyU P md ops Q S (fuel + 1) listed a w := by
  intro fuel
  induction fuel with
  | zero =>
    intro listed a w _ hr hbl hy hS H hS2
    refine ⟨fun h => (by rw [h] at hr; cases hr), fun j hj => ?_⟩
    by_cases hji : j = i
    · subst hji; exact hy.wpOp hi (hC _ _ hbl hS) ⟨hS2, H⟩
    · have := ready_mono hj hji
      rw [H.1] at this
      cases this
  | succ fuel ih =>
    intro listed a w hfree hr hbl hy hS H hS2
    refine ⟨fun h => (by rw [h] at hr; cases hr), fun j hj => ?_⟩
    by_cases hji : j = i
    · subst hji; exact hy.wpOp hi (hC _ _ hbl hS) ⟨hS2, H⟩
    · have h1 := H.2 j (ready_mono hj hji)
      obtain ⟨hjun, oj, hoj, hall⟩ := mem_ready.1 hj
      have hnot : ∀ e ∈ oj.after, Region.binds md e = true → e.on ≠ i := fun e he hb heq => by
        have h1 := hall e he hb
        have h0 := (mem_ready.1 hr).1
        rw [heq] at h1
        rcases Nat.lt_or_ge i listed.size with h' | h'
        · simp [h'] at h0 h1; rw [h0] at h1; cases h1
        · simp [Array.getElem?_eq_none h'] at h1
      have h2 := wpOp_putIf hoj (hfree j oj hoj hji hjun hnot) (fun cs b => hsel i oi cs b hi) (fun cs b => hsel j oj cs b hoj) hQ hy h1
      have hfree' : ∀ k ok, ops[k]? = some ok → k ≠ i → (listed.setIfInBounds j true).getD k true = false →
          (∀ e ∈ ok.after, Region.binds md e = true → e.on ≠ i) → oi.apart ops ok = true := fun k ok hk hki hun hno => by
        refine hfree k ok hk hki ?_ hno
        by_cases hjk : j = k
        · subst hjk; exact hjun
        · rw [getD_set_ne true hjk] at hun; exact hun
      refine wpOp_mono (fun a' w' h3 => ?_) h2
      have hc := Array.setIfInBounds_comm (xs := listed) true true hji
      have h4 := h3.2.1
      rw [← hc] at h4
      have h5 := h3.2.2
      rw [← hc] at h5
      exact ⟨hSi _ _ h4, ih (listed.setIfInBounds j true) a' w' hfree' (ready_mono hr (Ne.symm hji)) (hG _ _ _ hoj hnot hbl) h3.1 (hSi _ _ h4) h5 h4⟩

/-- a load: b is an operation that waits for it; till b has come S says what it reads -/
theorem anyU_take {i b : Nat} {oi ob : Oper} {v : Value} {C : World → Prop} {fuel : Nat} {listed : Array Bool} {a : Act} {w : World} (hi : ops[i]? = some oi) (hb : ops[b]? = some ob) (hbi : (ob.after.any fun e => Region.binds md e && e.on == i) = true)
    (hs : Region.noSelect ops = true) (hf : Region.free md ops listed i = true) (hr : (Region.ready md ops listed).contains i = true) (hbl : listed.getD b true = false)
    (hQ : ∀ c a w, Q (.panic c) (a.put oi.dst v) w → Q (.panic c) a w) (hSi : ∀ L w, S (L.setIfInBounds i true) w ↔ S L w) (hC : ∀ L w, L.getD b true = false → S L w → C w) (hy : YieldsIf P ops C oi v a) (hS : S listed w)
    (h : AnyU P md ops Q S fuel (listed.setIfInBounds i true) (a.put oi.dst v) w) : AnyU P md ops Q S (fuel + 1) listed a w :=
  anyU_first (G := fun L => L.getD b true = false) hi (fun L j oj hoj hn hg => by
    have hjb : j ≠ b := fun e => by
      subst e
      rw [hb] at hoj
      cases hoj
      simp only [Array.any_eq_true', Bool.and_eq_true, beq_iff_eq] at hbi
      obtain ⟨e, he, h2, h3⟩ := hbi
      exact hn e he h2 h3
    rw [getD_set_ne true hjb]
    exact hg) (Region.noSelect_spec hs) hQ (fun L w h => (hSi L w).1 h) hC fuel listed a w (Region.free_spec hi hf) (by simpa using hr) hbl hy hS h ((hSi _ _).2 hS)
/-- one that does the same in whatever world -/
theorem anyU_take0 {i : Nat} {oi : Oper} {v : Value} {fuel : Nat} {listed : Array Bool} {a : Act} {w : World} (hi : ops[i]? = some oi)
    (hs : Region.noSelect ops = true) (hf : Region.free md ops listed i = true) (hr : (Region.ready md ops listed).contains i = true)
    (hQ : ∀ c a w, Q (.panic c) (a.put oi.dst v) w → Q (.panic c) a w) (hSi : ∀ L w, S (L.setIfInBounds i true) w ↔ S L w) (hy : YieldsIf P ops (fun _ => True) oi v a) (hS : S listed w)
    (h : AnyU P md ops Q S fuel (listed.setIfInBounds i true) (a.put oi.dst v) w) : AnyU P md ops Q S (fuel + 1) listed a w :=
  anyU_first (G := fun _ => True) hi (fun _ _ _ _ _ _ => trivial) (Region.noSelect_spec hs) hQ (fun L w h => (hSi L w).1 h) (fun _ _ _ _ => trivial) fuel listed a w (Region.free_spec hi hf) (by simpa using hr) trivial hy hS h ((hSi _ _).2 hS)

theorem anyU_done {listed : Array Bool} {a : Act} {w : World} (hr : Region.ready md ops listed = []) (h : Q .normal a w) : ∀ fuel, AnyU P md ops Q S fuel listed a w
  | 0 => ⟨hr, h⟩
  | _ + 1 => ⟨fun _ => h, by rw [hr]; simp⟩

def ReadyU (P : Program) (md : Region.Mode) (ops : Array Oper) (Q : Exit → Act → World → Prop) (S : Array Bool → World → Prop) (fuel : Nat) (listed : Array Bool) (a : Act) (w : World) (rs : List Nat) : Prop :=
  ∀ i ∈ rs, wpOp P ops Q i (fun a' w' => S (listed.setIfInBounds i true) w' ∧ AnyU P md ops Q S fuel (listed.setIfInBounds i true) a' w') a w
theorem readyU_nil {fuel : Nat} {listed : Array Bool} {a : Act} {w : World} : ReadyU P md ops Q S fuel listed a w [] := fun _ h => by cases h
theorem readyU_cons {fuel : Nat} {listed : Array Bool} {a : Act} {w : World} {i : Nat} {o : Oper} {rs : List Nat} (ho : ops[i]? = some o)
    (h : ∀ K' : Act → World → Prop, Shut (∀ a w, S (listed.setIfInBounds i true) w → (S (listed.setIfInBounds i true) w → AnyU P md ops Q S fuel (listed.setIfInBounds i true) a w) → K' a w) → if Region.wanted o (yielded ops a.tmps) = true then Oper.wp P o a w K' Q else K' (a.put o.dst undef) w)
    (hs : ReadyU P md ops Q S fuel listed a w rs) : ReadyU P md ops Q S fuel listed a w (i :: rs) := fun j hj => by
  rcases List.mem_cons.1 hj with rfl | hj
  · exact wpOp_step ho (fun K' hK => h K' (fun a w hS hW => hK a w ⟨hS, hW hS⟩))
  · exact hs j hj
theorem anyU_ready {rs : List Nat} {fuel : Nat} {listed : Array Bool} {a : Act} {w : World} (hr : Region.ready md ops listed = rs) (hne : rs ≠ [])
    (h : ReadyU P md ops Q S fuel listed a w rs) : AnyU P md ops Q S (fuel + 1) listed a w := ⟨fun h0 => absurd (hr ▸ h0) hne, hr ▸ h⟩

/-- the beginning, within a round -/
theorem round_region {id : Nat} {a : Act} {w : World} (hm : P.follows .mixedOrders = true) (hq : ¬ LetsOut Q) (hd : (ops.all fun o => match o.op with | .defer _ => false | _ => true) = true) (hS : S (Array.replicate ops.size false) w.drew)
    (h : S (Array.replicate ops.size false) w.drew → AnyU P .any ops Q S ops.size (Array.replicate ops.size false) a w.drew) : (Code.region id ops true).wpIn (Fence.wide.inRound l) n P Q a w :=
  wpIn_region_any hm (anyIn_of_U hq (fun o c ho e => by
    rw [Array.all_eq_true'] at hd
    have := hd o ho
    rw [e] at this
    cases this) _ _ _ _ (h hS))
/-- the beginning, elsewhere -/
theorem plain_region {id : Nat} {a : Act} {w : World} (hm : P.follows .mixedOrders = true) (hS : S (Array.replicate ops.size false) w.drew)
    (h : S (Array.replicate ops.size false) w.drew → AnyU P .any ops Q S ops.size (Array.replicate ops.size false) a w.drew) : (Code.region id ops true).wp P Q a w :=
  wp_region_any hm (any_of_U _ _ _ _ (h hS))

/-- an append whose run is known -/
theorem stepU_append {o : Oper} {a : Act} {w : World} {K : Act → World → Prop} (hw : Region.wanted o (yielded ops a.tmps) = true) (s x : Operand) (t tn : TypeId)
    (ho : o.op = .call { callee := .builtin .append, args := #[s, x], argTypes := #[t, tn] }) (vs vx : Value) (hs : a.eval s = vs) (hx : a.eval x = vx)
    (v' : Value) (w' : World) (hr : (Builtin.append_ #[t, tn] o.type #[vs, vx]).run P w = .ok v' w') (h : K (a.put o.dst v') w') : if Region.wanted o (yielded ops a.tmps) = true then o.wp P a w K Q else K (a.put o.dst undef) w := by
  rw [if_pos hw]
  exact Lib.wp_append_run w s x t tn ho vs vx hs hx v' w' hr h
end
end Go.Proofs.Ytnmhbonheaoldaa
