/- WholeBegins: for every input the call returns true, and its arguments read behind it as they did. Conditions: the variable belfry/sip.signs starts as the text lays it; the card ties this to the pruned copy of the project, and says nothing of packages, commands and tests outside that copy. -/
import Derived.Test.YtiigipnfnfpepaaGreatDoorRows
import Derived.Test.YtiigipnfnfpepaaGreatDoorTA
import Derived.Test.YtiigipnfnfpepaaGreatDoorTSeat
import Derived.Stop.Joined
import Derived.Test.YtiigipnfnfpepaaGreatDoorCards
import Derived.Test.YtiigipnfnfpepaaGreatDoorTie
import Derived.SevenTiedAt
import Derived.Test.YtiigipnfnfpepaaGreatDoorTD4
namespace Go.Proofs.YtiigipnfnfpepaaGreatDoor.wholeBegins
open Go.ChangeShapes Go.WideShapes Go.ChangeAt Go.RowKit

theorem own : ownKnob Tryz.prog.godebug = none := by kernel_rfl
theorem laidOut : laidOutB Tryz.prog = true := by kernel_rfl
theorem readable : (Tryz.f3.params.toList.all fun t => Tryz.prog.readableRec t && decide (t < Tryz.prog.types.size)) = true := by kernel_rfl
theorem cells0 : Tryz.prog.cellsOf 23 = 16 := by kernel_rfl
theorem cellsInt : Tryz.prog.cellsOf 3 = 1 := by kernel_rfl
theorem cellsByte : Tryz.prog.cellsOf 5 = 1 := by kernel_rfl
abbrev lay : List (String × DataW Unit) := [("belfry/sip.signs", Rows.laid_belfry_sip_signs)]
theorem door_met (os : Os) (args : Array Value) : laidMetH Tryz.prog lay ((World.doorLaid Tryz.prog 400 os).forCall (fun _ _ => 0) ⟨#[], args, []⟩).memory :=
 laidMetH_of_parts3 (fuel := 8) (laidMet_of_run' 8 (by kernel_rfl) (by kernel_rfl)) (by kernel_rfl) (by kernel_rfl)

theorem key_bytes {zs : List Int} (h : ∀ z ∈ zs, (Lit.int .u8 z).wf = true) : (zs.map (Value.int .u8)).toArray = bytesV (zs.map valB) := by
 rw [bytesV, List.map_map]
 congr 1
 refine List.map_congr_left fun z hz => ?_
 have := h z hz
 simp [Lit.wf, IntKind.min, IntKind.max, IntKind.signed, IntKind.bits] at this
 show _ = Value.int .u8 ((valB z).toNat : Int)
 rw [valB_of (by omega) (by omega)]

set_option maxRecDepth 100000 in
theorem lifted (os : Os) (started : os.Started) (H : Type) (enc : TypeId × Value → H) :
 ReturnsInHanded {} Tryz.checked os 3 .any (fun w args => (Rows.wholeBeginsSpec.pre enc Tryz.prog Tryz.f3 [] false w args ∧ laidMetH Tryz.prog lay w) ∧ sizedMet enc Tryz.prog Tryz.f3 (OpenSpec.ofChange Rows.wholeBeginsSpec) false w args)
  (Rows.wholeBeginsSpec.post enc Tryz.prog Tryz.f3 false true false false) := by
 refine returnsInHanded_of_change_and (C := Tryz.checked) (X := fun w _ => laidMetH Tryz.prog lay w) (fun _ _ _ hh h => h.of_heap hh) own started (by kernel_rfl) Tryz.func3
  (ChangeSpec.witness_shaped (enc := enc) (C := Tryz.checked) (os := os) (X := fun w _ => laidMetH Tryz.prog lay w) false (World.doorLaid Tryz.prog 400 os) #[.agg #[.int .u8 0, .int .u8 0, .int .u8 0, .int .u8 0, .int .u8 0, .int .u8 0, .int .u8 0, .int .u8 0, .int .u8 0, .int .u8 0, .int .u8 0, .int .u8 0, .int .u8 0, .int .u8 0, .int .u8 0, .int .u8 0], .int .u8 0, .int .u8 0, .int .i64 0, .slice none 0 0, .slice none 0 0, .int .u16 0] 64 rfl (World.shaped_of_RefB (by kernel_rfl) (by kernel_rfl)) (by kernel_rfl) (by kernel_rfl) (by kernel_rfl) (door_met os _)) ?_
 intro W base args ds gs before hval0 hW _ _ hL _
 have hval : ∀ (j : Nat) t v, Tryz.f3.params[j]? = some t → args[j]? = some v → Value.okWide Tryz.prog W .any base t v := hval0
 have hW' := hW
 obtain ⟨p, q, hA0, hV, rfl, _, _⟩ := hW
 have hA : DataW.TrodAll enc Tryz.prog W 0 (fun _ => true) true Tryz.f3.params.toList args.toList ds p := hA0
 rw [Tryz.params3] at hA hval
 obtain ⟨v0, vs0, d0, ds0, p0, q0, hargs, rfl, rfl, h0, r0⟩ := trodAll_cons hA
 obtain ⟨v1, vs1, d1, ds1, p1, q1, rfl, rfl, rfl, h1, r1⟩ := trodAll_cons r0
 obtain ⟨v2, vs2, d2, ds2, p2, q2, rfl, rfl, rfl, h2, r2⟩ := trodAll_cons r1
 obtain ⟨v3, vs3, d3, ds3, p3, q3, rfl, rfl, rfl, h3, r3⟩ := trodAll_cons r2
 obtain ⟨v4, vs4, d4, ds4, p4, q4, rfl, rfl, rfl, h4, r4⟩ := trodAll_cons r3
 obtain ⟨v5, vs5, d5, ds5, p5, q5, rfl, rfl, rfl, h5, r5⟩ := trodAll_cons r4
 obtain ⟨v6, vs6, d6, ds6, p6, q6, rfl, rfl, rfl, h6, r6⟩ := trodAll_cons r5
 obtain ⟨rfl, rfl, rfl⟩ := trodAll_nil r6
 obtain rfl : args = #[v0, v1, v2, v3, v4, v5, v6] := by cases args; simp_all
 clear hA0 hval0
 have hspec : (Rows.wholeBeginsSpec.fn H [d0, d1, d2, d3, d4, d5, d6]).results = [.lit (.bool true)] ∧ (Rows.wholeBeginsSpec.fn H [d0, d1, d2, d3, d4, d5, d6]).args = [d0, d1, d2, d3, d4, d5, d6] ∧ (Rows.wholeBeginsSpec.fn H [d0, d1, d2, d3, d4, d5, d6]).vars = [] := ⟨rfl, rfl, rfl⟩
 obtain ⟨a0, l0, rfl, w0⟩ := open_arr Tryz.underlying23 Tryz.underlying5 cells0 cellsByte (hval 0 23 v0 rfl rfl) h0
 obtain ⟨a1, rfl, _, _, w1⟩ := open_int Tryz.underlying5 (hval 1 5 v1 rfl rfl) h1
 obtain ⟨a2, rfl, _, _, w2⟩ := open_int Tryz.underlying5 (hval 2 5 v2 rfl rfl) h2
 obtain ⟨a3, rfl, _, _, w3⟩ := open_int Tryz.underlying3 (hval 3 3 v3 rfl rfl) h3
 obtain ⟨a4, n4, c4, zs4, rfl, l4, m4, s4, w4, z4, k4⟩ := open_slc Tryz.underlying24 Tryz.underlying3 cellsInt (hval 4 24 v4 rfl rfl) h4
 obtain ⟨a5, n5, c5, zs5, rfl, l5, m5, s5, w5, z5, k5⟩ := open_slc Tryz.underlying24 Tryz.underlying3 cellsInt (hval 5 24 v5 rfl rfl) h5
 obtain ⟨a6, rfl, _, _, w6⟩ := open_int Tryz.underlying25 (hval 6 25 v6 rfl rfl) h6
 have b1 : 0 ≤ a1 ∧ a1 ≤ 255 := by simp [Lit.wf, IntKind.min, IntKind.max, IntKind.signed, IntKind.bits] at w1; omega
 have b2 : 0 ≤ a2 ∧ a2 ≤ 255 := by simp [Lit.wf, IntKind.min, IntKind.max, IntKind.signed, IntKind.bits] at w2; omega
 have b6 : 0 ≤ a6 ∧ a6 ≤ 65535 := by simp [Lit.wf, IntKind.min, IntKind.max, IntKind.signed, IntKind.bits] at w6; omega
 obtain ⟨x1, rfl⟩ : ∃ x : Nat, a1 = x := ⟨a1.toNat, by omega⟩
 obtain ⟨x2, rfl⟩ : ∃ x : Nat, a2 = x := ⟨a2.toNat, by omega⟩
 obtain ⟨x6, rfl⟩ : ∃ x : Nat, a6 = x := ⟨a6.toNat, by omega⟩
 have hG := signs_of_laid hL
 refine ((key_bytes w0).symm ▸ begins_walk (a0.map valB) x1 x2 a3 a4 n4 c4 zs4 a5 n5 c5 zs5 x6 W (by rw [List.length_map]; exact l0) (by omega) (by omega) l4 m4 s4 (wf_ints w4) l5 m5 s5 (wf_ints w5) (by omega) hG : Calls Tryz.prog _ #[.agg (a0.map (Value.int .u8)).toArray, _, _, _, _, _, _] W (LawTrue W)).mono fun e W' ⟨he, hB⟩ => ?_
 subst he
 exact ⟨_, rfl, law_post laidOut rfl readable rfl Tryz.underlying4 hW' hspec hB⟩

set_option maxHeartbeats 2000000 in
theorem closed : joinedFacts Tryz.pinned.checked.prog 3 Tryz.f3 Rows.wholeBeginsSpec Rows.wholeBeginsRow = true := by
 unfold joinedFacts
 repeat' (with_reducible refine and_true ?_ ?_)
 · as_aux_lemma => kernel_rfl
 · as_aux_lemma => kernel_rfl
 · as_aux_lemma => kernel_rfl
 · as_aux_lemma => kernel_rfl
 · as_aux_lemma => kernel_rfl
 · as_aux_lemma => kernel_rfl
 · as_aux_lemma => kernel_rfl
 · as_aux_lemma => kernel_rfl
 · as_aux_lemma => kernel_rfl
 · as_aux_lemma => kernel_rfl
 · as_aux_lemma => kernel_rfl
 · as_aux_lemma => kernel_rfl
 · as_aux_lemma => kernel_rfl
 · as_aux_lemma => kernel_rfl
 · as_aux_lemma => kernel_rfl
 · as_aux_lemma => kernel_rfl
 · as_aux_lemma => kernel_rfl
 · as_aux_lemma => kernel_rfl
 · as_aux_lemma => kernel_rfl
 · as_aux_lemma => kernel_rfl
 · as_aux_lemma => kernel_rfl
 · as_aux_lemma => kernel_rfl
 · as_aux_lemma => kernel_rfl
 · as_aux_lemma => kernel_rfl
 · as_aux_lemma => kernel_rfl
 · exact head_mayEnter
 · exact beq_iff_eq.2 head_liftsFinal.symm
 · exact beq_iff_eq.2 head_make
 · as_aux_lemma => kernel_rfl
 · as_aux_lemma => kernel_rfl
 · as_aux_lemma => kernel_rfl
 · as_aux_lemma => kernel_rfl

theorem rowHolds : Rows.WholeBeginsSaid :=
 OpenClaim.holds_of_wide 3 Tryz.f3 rfl rfl rfl rfl rfl rfl rfl ⟨rfl, rfl, rfl, rfl, rfl⟩ rfl rfl rfl rfl rfl (by as_aux_lemma => kernel_rfl) Tryz.func3 closed
  (of_decide_eq_true (by as_aux_lemma => kernel_rfl)) (by unfold Func.isWrapper; rw [if_neg (by decide +kernel)]; exact ⟨rfl, rfl⟩)
  (fun os started H enc _ => lifted os started H enc)

theorem noStand : (Tryz.f3.params.toList.all fun t => !Tryz.prog.wantsStandIn t) = true := by kernel_rfl
theorem holds : Rows.WholeBeginsCardSaid :=
 Claim7.holds_tied_plain_at .later [] [.data] true (true, "23fae2b10c430b8ae49d6b29eaafcf008b45436357966287e5ba747633cd10fd") true
  rowHolds (fun _ h => by cases h) (by kernel_rfl) (fun _ h => by cases h) wholeBegins_row_tie rfl ⟨rfl, rfl⟩ (by kernel_rfl) rfl
  (fun f fn hf hfn => by
   obtain rfl : f = 3 := Option.some.inj ((show Tryz.prog.funcNamed "belfry/belfrytop.WholeBegins" = some 3 by kernel_rfl).symm.trans hf) |>.symm
   obtain rfl : fn = Tryz.f3 := (Option.some.inj (Tryz.func3.symm.trans hfn)).symm
   exact ⟨by kernel_rfl, fun j t ht => by
    have h := List.all_eq_true.1 noStand t (Array.mem_toList_iff.2 (Array.mem_of_getElem? ht))
    have h2 : Tryz.prog.wantsStandIn t = false := by simpa using h
    exact h2⟩)
  (by kernel_rfl)
#print axioms holds
end Go.Proofs.YtiigipnfnfpepaaGreatDoor.wholeBegins
