/-
  NARROWER THAN 'FOR EVERY INPUT', by the rows' own cells (each row's printed sentence says how): WholeBegins: laid · WholeMarks: laid.
  DERIVED. THE GIVEN ROWS OF THIS SEAT. 2 by the template 'for every input the law returns true; each argument reads behind the call as it read before'; 0 by the template 'total and deterministic' (their statements: YtiigipnfnfpepaaGreatDoorTotals.lean).
  GIVEN WITH THE SEED: the statements are not yours to turn. If you find one false, say at which input.
  Laid BY PROGRAM, IN A SANDBOX (cutbox-rows.mjs): the forced cells as the released guide's own fill.sh prints them over the translation a62823a0c52cd09b… (all of the seat's roots in one cut). By AI agents, Wed Nov 11 2026. No macro, syntax, notation, axiom, sorry.
-/
import Derived.Test.YtiigipnfnfpepaaGreatDoorChecked
import GoSem.Claim
import GoSem.ClaimJoined
import GoSem.ClaimMapViews
import Derived.JoinedTies
import Derived.KernelRfl
namespace Go.Proofs.YtiigipnfnfpepaaGreatDoor
/- THE CELL 'sum', in the pinned program and in every row, IS THE sha256 OF THE DUMP (.gsa) THAT YtiigipnfnfpepaaGreatDoorProg.lean LOADS. Nothing in Lean hashes anything: it is a label: what it is worth is what the hold of that sum in a sandbox is worth. -/
noncomputable def Tryz.pinned : Pinned := { name := "ytiigipnfnfpepaagreatdoor", sum := "a62823a0c52cd09be102c5cf190a6bac5c155885e75dbb8d2335675a8bfe9ae9", checked := Tryz.checked }
namespace Rows
def none {H : Type} : Left H := { results := [], args := [] }

/- WHAT THE LISTED PACKAGE-LEVEL VARIABLES READ AS WHEN THE CALL BEGINS. Each datum BY PROGRAM (the guide's laid-datum.mjs) off the statement by which the dump's own 'gosem.cut.vars' lays the variable. In a bare row this is a premise. The card (YtiigipnfnfpepaaGreatDoorCards.lean) ties it to the program's text. -/
def laid_belfry_sip_signs {H : Type} : DataW H := .agg [.lit (.int .u64 8317987319222330741), .lit (.int .u64 7237128888997146477), .lit (.int .u64 7816392313619706465), .lit (.int .u64 8387220255154660723)]

/-- 'belfrytop.WholeBegins': WHATEVER THE INPUT: true; the input reads as it did. -/
def wholeBeginsSpec : ChangeSpec := { name := "wholeBegins", fn := fun _ => fun
  | [d1, d2, d3, d4, d5, d6, d7] => { results := [.lit (.bool true)], args := [d1, d2, d3, d4, d5, d6, d7] }
  | _ => none }
def wholeBeginsRow : OpenClaim := { program := "ytiigipnfnfpepaagreatdoor", sum := "a62823a0c52cd09be102c5cf190a6bac5c155885e75dbb8d2335675a8bfe9ae9", func := "belfry/belfrytop.WholeBegins", spec := "wholeBegins", inPlace := ["internal/abi.NoEscape", "internal/bytealg.MakeNoZero"], unfollowed := true, recurses := true, named := ["belfry/sip.signs"], apart := false, laid := [("belfry/sip.signs", laid_belfry_sip_signs)] }
def WholeBeginsSaid : Prop := wholeBeginsRow.holds Tryz.pinned (OpenSpec.ofChange wholeBeginsSpec)

/-- ITS FALSE NEIGHBOUR: 'it returns false'. Refute it at one input. -/
def wholeBeginsWrong : ChangeSpec := { name := "wholeBegins", fn := fun _ => fun
  | [d1, d2, d3, d4, d5, d6, d7] => { results := [.lit (.bool false)], args := [d1, d2, d3, d4, d5, d6, d7] }
  | _ => none }
def WholeBeginsWrongFalsely : Prop := wholeBeginsRow.holds Tryz.pinned (OpenSpec.ofChange wholeBeginsWrong)

/-- 'belfrytop.WholeMarks': WHATEVER THE INPUT: true; the input reads as it did. -/
def wholeMarksSpec : ChangeSpec := { name := "wholeMarks", fn := fun _ => fun
  | [d1, d2, d3, d4, d5] => { results := [.lit (.bool true)], args := [d1, d2, d3, d4, d5] }
  | _ => none }
def wholeMarksRow : OpenClaim := { program := "ytiigipnfnfpepaagreatdoor", sum := "a62823a0c52cd09be102c5cf190a6bac5c155885e75dbb8d2335675a8bfe9ae9", func := "belfry/belfrytop.WholeMarks", spec := "wholeMarks", inPlace := ["internal/abi.NoEscape", "internal/bytealg.MakeNoZero"], unfollowed := true, recurses := true, named := ["belfry/sip.signs"], apart := false, laid := [("belfry/sip.signs", laid_belfry_sip_signs)] }
def WholeMarksSaid : Prop := wholeMarksRow.holds Tryz.pinned (OpenSpec.ofChange wholeMarksSpec)

/-- ITS FALSE NEIGHBOUR: 'it returns false'. Refute it at one input. -/
def wholeMarksWrong : ChangeSpec := { name := "wholeMarks", fn := fun _ => fun
  | [d1, d2, d3, d4, d5] => { results := [.lit (.bool false)], args := [d1, d2, d3, d4, d5] }
  | _ => none }
def WholeMarksWrongFalsely : Prop := wholeMarksRow.holds Tryz.pinned (OpenSpec.ofChange wholeMarksWrong)

/- THE SECOND FORM. 'bulk': how many values and letters a reading holds, each counted each time it is reached (what is shared counts as often as it is met; a slice's spare places count too). A statement '..UptoSaid' is the law's where the arguments, and the package variables that the reading takes, are together of bulk at most 1048576: NARROWER than '..Said'. Prove '..Said' where nothing that the law and all that it calls make is longer than what came in: it says more and counts as full. Else prove '..UptoSaid'. A law counts once. -/
mutual
def uptoBulk {H : Type} : DataW H → Nat
  | .lit (.string bytes) => bytes.length + 1
  | .lit _ => 1
  | .nil => 1
  | .ptr d => uptoBulk d + 1
  | .slice elems spare => uptoBulkAll elems + uptoBulkAll spare + 1
  | .agg parts => uptoBulkAll parts + 1
  | .iface _ d => uptoBulk d + 1
  | .map entries => uptoBulkEntries entries + 1
  | .held _ => 1
def uptoBulkAll {H : Type} : List (DataW H) → Nat
  | [] => 0
  | d :: r => uptoBulk d + uptoBulkAll r
def uptoBulkEntries {H : Type} : List (Lit × DataW H) → Nat
  | [] => 0
  | x :: r => uptoBulkEntry x + uptoBulkEntries r
def uptoBulkEntry {H : Type} : Lit × DataW H → Nat
  | (.string bytes, d) => bytes.length + uptoBulk d + 1
  | (_, d) => uptoBulk d + 1
 end
def uptoSmall : (H : Type) → List (DataW H) → Bool := fun _ ds => decide (uptoBulkAll ds ≤ 1048576)
def OpenSpec.upto (s : _root_.Go.ChangeSpec) : _root_.Go.OpenSpec := { _root_.Go.OpenSpec.ofChange s with cond := some uptoSmall }

/-- 'belfrytop.WholeBegins', WHERE WHAT IT READS IS OF BULK AT MOST 1048576: true; the input reads as it did. -/
def wholeBeginsUptoRow : OpenClaim := { program := "ytiigipnfnfpepaagreatdoor", sum := "a62823a0c52cd09be102c5cf190a6bac5c155885e75dbb8d2335675a8bfe9ae9", func := "belfry/belfrytop.WholeBegins", spec := "wholeBegins", inPlace := ["internal/abi.NoEscape", "internal/bytealg.MakeNoZero"], unfollowed := true, recurses := true, named := ["belfry/sip.signs"], apart := false, laid := [("belfry/sip.signs", laid_belfry_sip_signs)], narrowed := true }
def WholeBeginsUptoSaid : Prop := wholeBeginsUptoRow.holds Tryz.pinned (OpenSpec.upto wholeBeginsSpec)

/-- 'belfrytop.WholeMarks', WHERE WHAT IT READS IS OF BULK AT MOST 1048576: true; the input reads as it did. -/
def wholeMarksUptoRow : OpenClaim := { program := "ytiigipnfnfpepaagreatdoor", sum := "a62823a0c52cd09be102c5cf190a6bac5c155885e75dbb8d2335675a8bfe9ae9", func := "belfry/belfrytop.WholeMarks", spec := "wholeMarks", inPlace := ["internal/abi.NoEscape", "internal/bytealg.MakeNoZero"], unfollowed := true, recurses := true, named := ["belfry/sip.signs"], apart := false, laid := [("belfry/sip.signs", laid_belfry_sip_signs)], narrowed := true }
def WholeMarksUptoSaid : Prop := wholeMarksUptoRow.holds Tryz.pinned (OpenSpec.upto wholeMarksSpec)

end Rows
end Go.Proofs.YtiigipnfnfpepaaGreatDoor
