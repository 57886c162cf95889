/- MidJoins: for every input the call returns true, and its arguments read behind it as they did. No condition. -/
import Derived.Test.YtnmhbonheaoldaaRows
import Derived.Test.YtnmhbonheaoldaaFrame
import Derived.Test.YtnmhbonheaoldaaSeat
import Derived.Test.YtnmhbonheaoldaaSlice
import Derived.Test.YtnmhbonheaoldaaMidJn
namespace Go.Proofs.Ytnmhbonheaoldaa.midJoins
open Go.ChangeShapes Go.WideShapes Go.ChangeAt Go.RowKit

theorem own : ownKnob Try.prog.godebug = none := by kernel_rfl
theorem laidOut : laidOutB Try.prog = true := by kernel_rfl
theorem readable : (Try.f16.params.toList.all fun t => Try.prog.readableRec t && decide (t < Try.prog.types.size)) = true := by kernel_rfl
theorem cellsInt : Try.prog.cellsOf 3 = 1 := by kernel_rfl

set_option maxRecDepth 100000 in
theorem lifted (os : Os) (started : os.Started) (H : Type) (enc : TypeId × Value → H) :
    ReturnsInHanded {} Try.checked os 16 .any (Rows.midJoinsSpec.pre6 enc Try.prog Try.f16 Rows.midJoinsRow.domain false) (Rows.midJoinsSpec.post enc Try.prog Try.f16 false true false false) := by
  refine returnsInHanded_of_change (C := Try.checked) own started (by kernel_rfl) Try.func16
    (ChangeSpec.witness6 (enc := enc) (C := Try.checked) false ⟨#[], #[.slice none 0 0, .slice none 0 0], []⟩ 64 (by kernel_rfl) (by kernel_rfl) (by kernel_rfl) (by kernel_rfl)) ?_
  intro W base args ds gs before hval0 hW _ _
  have hval : ∀ (j : Nat) t v, Try.f16.params[j]? = some t → args[j]? = some v → Value.okWide Try.prog W .any base t v := hval0
  have hW' := hW
  obtain ⟨p, q, hA0, hV, rfl, _, _⟩ := hW
  have hA : DataW.TrodAll enc Try.prog W 0 (fun _ => true) true Try.f16.params.toList args.toList ds p := hA0
  rw [Try.params16] at hA hval
  obtain ⟨v0, vs0, d0, ds0, p0, q0, hargs, rfl, rfl, h0, r0⟩ := trodAll_cons hA
  obtain ⟨v1, vs1, d1, ds1, p1, q1, rfl, rfl, rfl, h1, r1⟩ := trodAll_cons r0
  obtain ⟨rfl, rfl, rfl⟩ := trodAll_nil r1
  obtain rfl : args = #[v0, v1] := by cases args; simp_all
  clear hA0 hval0
  have hspec : (Rows.midJoinsSpec.fn H [d0, d1]).results = [.lit (.bool true)] ∧ (Rows.midJoinsSpec.fn H [d0, d1]).args = [d0, d1] ∧ (Rows.midJoinsSpec.fn H [d0, d1]).vars = [] := ⟨rfl, rfl, rfl⟩
  obtain ⟨a0, n0, c0, zs0, rfl, l0, m0, s0, w0, z0, k0⟩ := open_slc Try.underlying55 Try.underlying3 cellsInt (hval 0 55 v0 rfl rfl) h0
  obtain ⟨a1, n1, c1, zs1, rfl, l1, m1, s1, w1, z1, k1⟩ := open_slc Try.underlying55 Try.underlying3 cellsInt (hval 1 55 v1 rfl rfl) h1
  refine (midJoins_walk a0 n0 c0 zs0 a1 n1 c1 zs1 W l0 m0 s0 w0 z0 k0 l1 m1 s1 w1 z1 k1).mono fun e W' ⟨he, hB⟩ => ?_
  subst he
  exact ⟨_, rfl, law_post laidOut rfl readable rfl Try.underlying4 hW' hspec hB⟩

theorem closed : joinedFacts Try.pinned.checked.prog 16 Try.f16 Rows.midJoinsSpec Rows.midJoinsRow = true := by
  unfold joinedFacts
  repeat' (with_reducible refine and_true ?_ ?_)
  · as_aux_lemma => kernel_rfl
  · as_aux_lemma => kernel_rfl
  · as_aux_lemma => kernel_rfl
  · as_aux_lemma => kernel_rfl
  · as_aux_lemma => kernel_rfl
  · as_aux_lemma => kernel_rfl
  · as_aux_lemma => kernel_rfl
  · as_aux_lemma => kernel_rfl
  · as_aux_lemma => kernel_rfl
  · as_aux_lemma => kernel_rfl
  · as_aux_lemma => kernel_rfl
  · as_aux_lemma => kernel_rfl
  · as_aux_lemma => kernel_rfl
  · as_aux_lemma => kernel_rfl
  · as_aux_lemma => kernel_rfl
  · as_aux_lemma => kernel_rfl
  · as_aux_lemma => kernel_rfl
  · as_aux_lemma => kernel_rfl
  · as_aux_lemma => kernel_rfl
  · as_aux_lemma => kernel_rfl
  · as_aux_lemma => kernel_rfl
  · as_aux_lemma => kernel_rfl
  · as_aux_lemma => kernel_rfl
  · as_aux_lemma => kernel_rfl
  · as_aux_lemma => kernel_rfl
  · exact head_mayEnter
  · exact beq_iff_eq.2 head_liftsFinal.symm
  · exact beq_iff_eq.2 head_make
  · as_aux_lemma => kernel_rfl
  · as_aux_lemma => kernel_rfl
  · as_aux_lemma => kernel_rfl
  · as_aux_lemma => kernel_rfl

theorem holds : Rows.MidJoinsSaid :=
  OpenClaim.holds_of_wide 16 Try.f16 rfl rfl rfl rfl rfl rfl rfl ⟨rfl, rfl, rfl, rfl, rfl⟩ rfl rfl rfl rfl rfl (by as_aux_lemma => kernel_rfl) Try.func16 closed
    (of_decide_eq_true (by as_aux_lemma => kernel_rfl)) (by unfold Func.isWrapper; rw [if_neg (by decide +kernel)]; exact ⟨rfl, rfl⟩)
    (fun os started H enc _ => lifted os started H enc)
#print axioms holds
end Go.Proofs.Ytnmhbonheaoldaa.midJoins
