/-
  No cell of these rows narrows 'for every input' (looked for: loops, veiled, ifaces, maps, wideKeys, modest, calm, conditions, laid).
  DERIVED. THE GIVEN ROWS OF THIS SEAT. 14 by the template 'for every input the law returns true; each argument reads behind the call as it read before'; 0 by the template 'total and deterministic' (their statements: YtnmhbonheaoldaaTotals.lean).
  GIVEN WITH THE SEED: the statements are not yours to turn. If you find one false, say at which input.
  Laid BY PROGRAM, IN A SANDBOX (cutbox-rows.mjs): the forced cells as the released guide's own fill.sh prints them over the translation eb28d5f9cbabe721… (all of the seat's roots in one cut). By AI agents, Wed Nov 11 2026. No macro, syntax, notation, axiom, sorry.
-/
import Derived.Test.YtnmhbonheaoldaaChecked
import GoSem.Claim
import GoSem.ClaimJoined
import GoSem.ClaimMapViews
import Derived.JoinedTies
import Derived.KernelRfl
namespace Go.Proofs.Ytnmhbonheaoldaa
/- THE CELL 'sum', in the pinned program and in every row, IS THE sha256 OF THE DUMP (.gsa) THAT YtnmhbonheaoldaaProg.lean LOADS. Nothing in Lean hashes anything: it is a label: what it is worth is what the hold of that sum in a sandbox is worth. -/
noncomputable def Try.pinned : Pinned := { name := "ytnmhbonheaoldaa", sum := "eb28d5f9cbabe721b0208cc125c2b27596455a0b5285d5e2b038a75c11e19962", checked := Try.checked }
namespace Rows
def none {H : Type} : Left H := { results := [], args := [] }

/-- 'belfrylaw12.MidBetween': WHATEVER THE INPUT: true; the input reads as it did. -/
def midBetweenSpec : ChangeSpec := { name := "midBetween", fn := fun _ => fun
  | [d1, d2] => { results := [.lit (.bool true)], args := [d1, d2] }
  | _ => none }
def midBetweenRow : OpenClaim := { program := "ytnmhbonheaoldaa", sum := "eb28d5f9cbabe721b0208cc125c2b27596455a0b5285d5e2b038a75c11e19962", func := "belfry/belfrylaw12.MidBetween", spec := "midBetween", apart := false }
def MidBetweenSaid : Prop := midBetweenRow.holds Try.pinned (OpenSpec.ofChange midBetweenSpec)

/-- ITS FALSE NEIGHBOUR: 'it returns false'. Refute it at one input. -/
def midBetweenWrong : ChangeSpec := { name := "midBetween", fn := fun _ => fun
  | [d1, d2] => { results := [.lit (.bool false)], args := [d1, d2] }
  | _ => none }
def MidBetweenWrongFalsely : Prop := midBetweenRow.holds Try.pinned (OpenSpec.ofChange midBetweenWrong)

/-- 'belfrylaw12.MidUnlike': WHATEVER THE INPUT: true; the input reads as it did. -/
def midUnlikeSpec : ChangeSpec := { name := "midUnlike", fn := fun _ => fun
  | [d1, d2, d3, d4] => { results := [.lit (.bool true)], args := [d1, d2, d3, d4] }
  | _ => none }
def midUnlikeRow : OpenClaim := { program := "ytnmhbonheaoldaa", sum := "eb28d5f9cbabe721b0208cc125c2b27596455a0b5285d5e2b038a75c11e19962", func := "belfry/belfrylaw12.MidUnlike", spec := "midUnlike", apart := false }
def MidUnlikeSaid : Prop := midUnlikeRow.holds Try.pinned (OpenSpec.ofChange midUnlikeSpec)

/-- ITS FALSE NEIGHBOUR: 'it returns false'. Refute it at one input. -/
def midUnlikeWrong : ChangeSpec := { name := "midUnlike", fn := fun _ => fun
  | [d1, d2, d3, d4] => { results := [.lit (.bool false)], args := [d1, d2, d3, d4] }
  | _ => none }
def MidUnlikeWrongFalsely : Prop := midUnlikeRow.holds Try.pinned (OpenSpec.ofChange midUnlikeWrong)

/-- 'belfrylaw12.MidBack': WHATEVER THE INPUT: true; the input reads as it did. -/
def midBackSpec : ChangeSpec := { name := "midBack", fn := fun _ => fun
  | [d1, d2] => { results := [.lit (.bool true)], args := [d1, d2] }
  | _ => none }
def midBackRow : OpenClaim := { program := "ytnmhbonheaoldaa", sum := "eb28d5f9cbabe721b0208cc125c2b27596455a0b5285d5e2b038a75c11e19962", func := "belfry/belfrylaw12.MidBack", spec := "midBack", apart := false }
def MidBackSaid : Prop := midBackRow.holds Try.pinned (OpenSpec.ofChange midBackSpec)

/-- ITS FALSE NEIGHBOUR: 'it returns false'. Refute it at one input. -/
def midBackWrong : ChangeSpec := { name := "midBack", fn := fun _ => fun
  | [d1, d2] => { results := [.lit (.bool false)], args := [d1, d2] }
  | _ => none }
def MidBackWrongFalsely : Prop := midBackRow.holds Try.pinned (OpenSpec.ofChange midBackWrong)

/-- 'belfrylaw16.BandLoud': WHATEVER THE INPUT: true; the input reads as it did. -/
def bandLoudSpec : ChangeSpec := { name := "bandLoud", fn := fun _ => fun
  | [d] => { results := [.lit (.bool true)], args := [d] }
  | _ => none }
def bandLoudRow : OpenClaim := { program := "ytnmhbonheaoldaa", sum := "eb28d5f9cbabe721b0208cc125c2b27596455a0b5285d5e2b038a75c11e19962", func := "belfry/belfrylaw16.BandLoud", spec := "bandLoud", unfollowed := true, recurses := true, apart := false }
def BandLoudSaid : Prop := bandLoudRow.holds Try.pinned (OpenSpec.ofChange bandLoudSpec)

/-- ITS FALSE NEIGHBOUR: 'it returns false'. Refute it at one input. -/
def bandLoudWrong : ChangeSpec := { name := "bandLoud", fn := fun _ => fun
  | [d] => { results := [.lit (.bool false)], args := [d] }
  | _ => none }
def BandLoudWrongFalsely : Prop := bandLoudRow.holds Try.pinned (OpenSpec.ofChange bandLoudWrong)

/-- 'belfrylaw16.BandDoubles': WHATEVER THE INPUT: true; the input reads as it did. -/
def bandDoublesSpec : ChangeSpec := { name := "bandDoubles", fn := fun _ => fun
  | [d] => { results := [.lit (.bool true)], args := [d] }
  | _ => none }
def bandDoublesRow : OpenClaim := { program := "ytnmhbonheaoldaa", sum := "eb28d5f9cbabe721b0208cc125c2b27596455a0b5285d5e2b038a75c11e19962", func := "belfry/belfrylaw16.BandDoubles", spec := "bandDoubles", unfollowed := true, recurses := true, apart := false }
def BandDoublesSaid : Prop := bandDoublesRow.holds Try.pinned (OpenSpec.ofChange bandDoublesSpec)

/-- ITS FALSE NEIGHBOUR: 'it returns false'. Refute it at one input. -/
def bandDoublesWrong : ChangeSpec := { name := "bandDoubles", fn := fun _ => fun
  | [d] => { results := [.lit (.bool false)], args := [d] }
  | _ => none }
def BandDoublesWrongFalsely : Prop := bandDoublesRow.holds Try.pinned (OpenSpec.ofChange bandDoublesWrong)

/-- 'belfrylaw16.BandPuts': WHATEVER THE INPUT: true; the input reads as it did. -/
def bandPutsSpec : ChangeSpec := { name := "bandPuts", fn := fun _ => fun
  | [d1, d2, d3] => { results := [.lit (.bool true)], args := [d1, d2, d3] }
  | _ => none }
def bandPutsRow : OpenClaim := { program := "ytnmhbonheaoldaa", sum := "eb28d5f9cbabe721b0208cc125c2b27596455a0b5285d5e2b038a75c11e19962", func := "belfry/belfrylaw16.BandPuts", spec := "bandPuts", unfollowed := true, recurses := true, apart := false }
def BandPutsSaid : Prop := bandPutsRow.holds Try.pinned (OpenSpec.ofChange bandPutsSpec)

/-- ITS FALSE NEIGHBOUR: 'it returns false'. Refute it at one input. -/
def bandPutsWrong : ChangeSpec := { name := "bandPuts", fn := fun _ => fun
  | [d1, d2, d3] => { results := [.lit (.bool false)], args := [d1, d2, d3] }
  | _ => none }
def BandPutsWrongFalsely : Prop := bandPutsRow.holds Try.pinned (OpenSpec.ofChange bandPutsWrong)

/-- 'belfrylaw17.MaskSlopes': WHATEVER THE INPUT: true; the input reads as it did. -/
def maskSlopesSpec : ChangeSpec := { name := "maskSlopes", fn := fun _ => fun
  | [d] => { results := [.lit (.bool true)], args := [d] }
  | _ => none }
def maskSlopesRow : OpenClaim := { program := "ytnmhbonheaoldaa", sum := "eb28d5f9cbabe721b0208cc125c2b27596455a0b5285d5e2b038a75c11e19962", func := "belfry/belfrylaw17.MaskSlopes", spec := "maskSlopes", unfollowed := true, recurses := true, apart := false }
def MaskSlopesSaid : Prop := maskSlopesRow.holds Try.pinned (OpenSpec.ofChange maskSlopesSpec)

/-- ITS FALSE NEIGHBOUR: 'it returns false'. Refute it at one input. -/
def maskSlopesWrong : ChangeSpec := { name := "maskSlopes", fn := fun _ => fun
  | [d] => { results := [.lit (.bool false)], args := [d] }
  | _ => none }
def MaskSlopesWrongFalsely : Prop := maskSlopesRow.holds Try.pinned (OpenSpec.ofChange maskSlopesWrong)

/-- 'belfrylaw16.BandPlays': WHATEVER THE INPUT: true; the input reads as it did. -/
def bandPlaysSpec : ChangeSpec := { name := "bandPlays", fn := fun _ => fun
  | [d1, d2] => { results := [.lit (.bool true)], args := [d1, d2] }
  | _ => none }
def bandPlaysRow : OpenClaim := { program := "ytnmhbonheaoldaa", sum := "eb28d5f9cbabe721b0208cc125c2b27596455a0b5285d5e2b038a75c11e19962", func := "belfry/belfrylaw16.BandPlays", spec := "bandPlays", unfollowed := true, recurses := true, apart := false }
def BandPlaysSaid : Prop := bandPlaysRow.holds Try.pinned (OpenSpec.ofChange bandPlaysSpec)

/-- ITS FALSE NEIGHBOUR: 'it returns false'. Refute it at one input. -/
def bandPlaysWrong : ChangeSpec := { name := "bandPlays", fn := fun _ => fun
  | [d1, d2] => { results := [.lit (.bool false)], args := [d1, d2] }
  | _ => none }
def BandPlaysWrongFalsely : Prop := bandPlaysRow.holds Try.pinned (OpenSpec.ofChange bandPlaysWrong)

/-- 'belfrylaw16.BandClamps': WHATEVER THE INPUT: true; the input reads as it did. -/
def bandClampsSpec : ChangeSpec := { name := "bandClamps", fn := fun _ => fun
  | [d] => { results := [.lit (.bool true)], args := [d] }
  | _ => none }
def bandClampsRow : OpenClaim := { program := "ytnmhbonheaoldaa", sum := "eb28d5f9cbabe721b0208cc125c2b27596455a0b5285d5e2b038a75c11e19962", func := "belfry/belfrylaw16.BandClamps", spec := "bandClamps", unfollowed := true, recurses := true, apart := false }
def BandClampsSaid : Prop := bandClampsRow.holds Try.pinned (OpenSpec.ofChange bandClampsSpec)

/-- ITS FALSE NEIGHBOUR: 'it returns false'. Refute it at one input. -/
def bandClampsWrong : ChangeSpec := { name := "bandClamps", fn := fun _ => fun
  | [d] => { results := [.lit (.bool false)], args := [d] }
  | _ => none }
def BandClampsWrongFalsely : Prop := bandClampsRow.holds Try.pinned (OpenSpec.ofChange bandClampsWrong)

/-- 'belfrylaw17.MaskLeast': WHATEVER THE INPUT: true; the input reads as it did. -/
def maskLeastSpec : ChangeSpec := { name := "maskLeast", fn := fun _ => fun
  | [d1, d2, d3] => { results := [.lit (.bool true)], args := [d1, d2, d3] }
  | _ => none }
def maskLeastRow : OpenClaim := { program := "ytnmhbonheaoldaa", sum := "eb28d5f9cbabe721b0208cc125c2b27596455a0b5285d5e2b038a75c11e19962", func := "belfry/belfrylaw17.MaskLeast", spec := "maskLeast", unfollowed := true, recurses := true, apart := false }
def MaskLeastSaid : Prop := maskLeastRow.holds Try.pinned (OpenSpec.ofChange maskLeastSpec)

/-- ITS FALSE NEIGHBOUR: 'it returns false'. Refute it at one input. -/
def maskLeastWrong : ChangeSpec := { name := "maskLeast", fn := fun _ => fun
  | [d1, d2, d3] => { results := [.lit (.bool false)], args := [d1, d2, d3] }
  | _ => none }
def MaskLeastWrongFalsely : Prop := maskLeastRow.holds Try.pinned (OpenSpec.ofChange maskLeastWrong)

/-- 'belfrylaw17.MaskBoth': WHATEVER THE INPUT: true; the input reads as it did. -/
def maskBothSpec : ChangeSpec := { name := "maskBoth", fn := fun _ => fun
  | [d1, d2, d3, d4] => { results := [.lit (.bool true)], args := [d1, d2, d3, d4] }
  | _ => none }
def maskBothRow : OpenClaim := { program := "ytnmhbonheaoldaa", sum := "eb28d5f9cbabe721b0208cc125c2b27596455a0b5285d5e2b038a75c11e19962", func := "belfry/belfrylaw17.MaskBoth", spec := "maskBoth", unfollowed := true, recurses := true, apart := false }
def MaskBothSaid : Prop := maskBothRow.holds Try.pinned (OpenSpec.ofChange maskBothSpec)

/-- ITS FALSE NEIGHBOUR: 'it returns false'. Refute it at one input. -/
def maskBothWrong : ChangeSpec := { name := "maskBoth", fn := fun _ => fun
  | [d1, d2, d3, d4] => { results := [.lit (.bool false)], args := [d1, d2, d3, d4] }
  | _ => none }
def MaskBothWrongFalsely : Prop := maskBothRow.holds Try.pinned (OpenSpec.ofChange maskBothWrong)

/-- 'belfrylaw17.MaskPlays': WHATEVER THE INPUT: true; the input reads as it did. -/
def maskPlaysSpec : ChangeSpec := { name := "maskPlays", fn := fun _ => fun
  | [d1, d2, d3, d4] => { results := [.lit (.bool true)], args := [d1, d2, d3, d4] }
  | _ => none }
def maskPlaysRow : OpenClaim := { program := "ytnmhbonheaoldaa", sum := "eb28d5f9cbabe721b0208cc125c2b27596455a0b5285d5e2b038a75c11e19962", func := "belfry/belfrylaw17.MaskPlays", spec := "maskPlays", unfollowed := true, recurses := true, apart := false }
def MaskPlaysSaid : Prop := maskPlaysRow.holds Try.pinned (OpenSpec.ofChange maskPlaysSpec)

/-- ITS FALSE NEIGHBOUR: 'it returns false'. Refute it at one input. -/
def maskPlaysWrong : ChangeSpec := { name := "maskPlays", fn := fun _ => fun
  | [d1, d2, d3, d4] => { results := [.lit (.bool false)], args := [d1, d2, d3, d4] }
  | _ => none }
def MaskPlaysWrongFalsely : Prop := maskPlaysRow.holds Try.pinned (OpenSpec.ofChange maskPlaysWrong)

/-- 'belfrylaw12.MidPlays': WHATEVER THE INPUT: true; the input reads as it did. -/
def midPlaysSpec : ChangeSpec := { name := "midPlays", fn := fun _ => fun
  | [d1, d2, d3] => { results := [.lit (.bool true)], args := [d1, d2, d3] }
  | _ => none }
def midPlaysRow : OpenClaim := { program := "ytnmhbonheaoldaa", sum := "eb28d5f9cbabe721b0208cc125c2b27596455a0b5285d5e2b038a75c11e19962", func := "belfry/belfrylaw12.MidPlays", spec := "midPlays", unfollowed := true, recurses := true, apart := false }
def MidPlaysSaid : Prop := midPlaysRow.holds Try.pinned (OpenSpec.ofChange midPlaysSpec)

/-- ITS FALSE NEIGHBOUR: 'it returns false'. Refute it at one input. -/
def midPlaysWrong : ChangeSpec := { name := "midPlays", fn := fun _ => fun
  | [d1, d2, d3] => { results := [.lit (.bool false)], args := [d1, d2, d3] }
  | _ => none }
def MidPlaysWrongFalsely : Prop := midPlaysRow.holds Try.pinned (OpenSpec.ofChange midPlaysWrong)

/-- 'belfrylaw12.MidJoins': WHATEVER THE INPUT: true; the input reads as it did. -/
def midJoinsSpec : ChangeSpec := { name := "midJoins", fn := fun _ => fun
  | [d1, d2] => { results := [.lit (.bool true)], args := [d1, d2] }
  | _ => none }
def midJoinsRow : OpenClaim := { program := "ytnmhbonheaoldaa", sum := "eb28d5f9cbabe721b0208cc125c2b27596455a0b5285d5e2b038a75c11e19962", func := "belfry/belfrylaw12.MidJoins", spec := "midJoins", unfollowed := true, recurses := true, apart := false }
def MidJoinsSaid : Prop := midJoinsRow.holds Try.pinned (OpenSpec.ofChange midJoinsSpec)

/-- ITS FALSE NEIGHBOUR: 'it returns false'. Refute it at one input. -/
def midJoinsWrong : ChangeSpec := { name := "midJoins", fn := fun _ => fun
  | [d1, d2] => { results := [.lit (.bool false)], args := [d1, d2] }
  | _ => none }
def MidJoinsWrongFalsely : Prop := midJoinsRow.holds Try.pinned (OpenSpec.ofChange midJoinsWrong)

/- THE SECOND FORM. 'bulk': how many values and letters a reading holds, each counted each time it is reached (what is shared counts as often as it is met; a slice's spare places count too). A statement '..UptoSaid' is the law's where the arguments, and the package variables that the reading takes, are together of bulk at most 1048576: NARROWER than '..Said'. Prove '..Said' where nothing that the law and all that it calls make is longer than what came in: it says more and counts as full. Else prove '..UptoSaid'. A law counts once. -/
mutual
def uptoBulk {H : Type} : DataW H → Nat
  | .lit (.string bytes) => bytes.length + 1
  | .lit _ => 1
  | .nil => 1
  | .ptr d => uptoBulk d + 1
  | .slice elems spare => uptoBulkAll elems + uptoBulkAll spare + 1
  | .agg parts => uptoBulkAll parts + 1
  | .iface _ d => uptoBulk d + 1
  | .map entries => uptoBulkEntries entries + 1
  | .held _ => 1
def uptoBulkAll {H : Type} : List (DataW H) → Nat
  | [] => 0
  | d :: r => uptoBulk d + uptoBulkAll r
def uptoBulkEntries {H : Type} : List (Lit × DataW H) → Nat
  | [] => 0
  | x :: r => uptoBulkEntry x + uptoBulkEntries r
def uptoBulkEntry {H : Type} : Lit × DataW H → Nat
  | (.string bytes, d) => bytes.length + uptoBulk d + 1
  | (_, d) => uptoBulk d + 1
 end
def uptoSmall : (H : Type) → List (DataW H) → Bool := fun _ ds => decide (uptoBulkAll ds ≤ 1048576)
def OpenSpec.upto (s : _root_.Go.ChangeSpec) : _root_.Go.OpenSpec := { _root_.Go.OpenSpec.ofChange s with cond := some uptoSmall }

/-- 'belfrylaw12.MidBetween', WHERE WHAT IT READS IS OF BULK AT MOST 1048576: true; the input reads as it did. -/
def midBetweenUptoRow : OpenClaim := { program := "ytnmhbonheaoldaa", sum := "eb28d5f9cbabe721b0208cc125c2b27596455a0b5285d5e2b038a75c11e19962", func := "belfry/belfrylaw12.MidBetween", spec := "midBetween", apart := false, narrowed := true }
def MidBetweenUptoSaid : Prop := midBetweenUptoRow.holds Try.pinned (OpenSpec.upto midBetweenSpec)

/-- 'belfrylaw12.MidUnlike', WHERE WHAT IT READS IS OF BULK AT MOST 1048576: true; the input reads as it did. -/
def midUnlikeUptoRow : OpenClaim := { program := "ytnmhbonheaoldaa", sum := "eb28d5f9cbabe721b0208cc125c2b27596455a0b5285d5e2b038a75c11e19962", func := "belfry/belfrylaw12.MidUnlike", spec := "midUnlike", apart := false, narrowed := true }
def MidUnlikeUptoSaid : Prop := midUnlikeUptoRow.holds Try.pinned (OpenSpec.upto midUnlikeSpec)

/-- 'belfrylaw12.MidBack', WHERE WHAT IT READS IS OF BULK AT MOST 1048576: true; the input reads as it did. -/
def midBackUptoRow : OpenClaim := { program := "ytnmhbonheaoldaa", sum := "eb28d5f9cbabe721b0208cc125c2b27596455a0b5285d5e2b038a75c11e19962", func := "belfry/belfrylaw12.MidBack", spec := "midBack", apart := false, narrowed := true }
def MidBackUptoSaid : Prop := midBackUptoRow.holds Try.pinned (OpenSpec.upto midBackSpec)

/-- 'belfrylaw16.BandLoud', WHERE WHAT IT READS IS OF BULK AT MOST 1048576: true; the input reads as it did. -/
def bandLoudUptoRow : OpenClaim := { program := "ytnmhbonheaoldaa", sum := "eb28d5f9cbabe721b0208cc125c2b27596455a0b5285d5e2b038a75c11e19962", func := "belfry/belfrylaw16.BandLoud", spec := "bandLoud", unfollowed := true, recurses := true, apart := false, narrowed := true }
def BandLoudUptoSaid : Prop := bandLoudUptoRow.holds Try.pinned (OpenSpec.upto bandLoudSpec)

/-- 'belfrylaw16.BandDoubles', WHERE WHAT IT READS IS OF BULK AT MOST 1048576: true; the input reads as it did. -/
def bandDoublesUptoRow : OpenClaim := { program := "ytnmhbonheaoldaa", sum := "eb28d5f9cbabe721b0208cc125c2b27596455a0b5285d5e2b038a75c11e19962", func := "belfry/belfrylaw16.BandDoubles", spec := "bandDoubles", unfollowed := true, recurses := true, apart := false, narrowed := true }
def BandDoublesUptoSaid : Prop := bandDoublesUptoRow.holds Try.pinned (OpenSpec.upto bandDoublesSpec)

/-- 'belfrylaw16.BandPuts', WHERE WHAT IT READS IS OF BULK AT MOST 1048576: true; the input reads as it did. -/
def bandPutsUptoRow : OpenClaim := { program := "ytnmhbonheaoldaa", sum := "eb28d5f9cbabe721b0208cc125c2b27596455a0b5285d5e2b038a75c11e19962", func := "belfry/belfrylaw16.BandPuts", spec := "bandPuts", unfollowed := true, recurses := true, apart := false, narrowed := true }
def BandPutsUptoSaid : Prop := bandPutsUptoRow.holds Try.pinned (OpenSpec.upto bandPutsSpec)

/-- 'belfrylaw17.MaskSlopes', WHERE WHAT IT READS IS OF BULK AT MOST 1048576: true; the input reads as it did. -/
def maskSlopesUptoRow : OpenClaim := { program := "ytnmhbonheaoldaa", sum := "eb28d5f9cbabe721b0208cc125c2b27596455a0b5285d5e2b038a75c11e19962", func := "belfry/belfrylaw17.MaskSlopes", spec := "maskSlopes", unfollowed := true, recurses := true, apart := false, narrowed := true }
def MaskSlopesUptoSaid : Prop := maskSlopesUptoRow.holds Try.pinned (OpenSpec.upto maskSlopesSpec)

/-- 'belfrylaw16.BandPlays', WHERE WHAT IT READS IS OF BULK AT MOST 1048576: true; the input reads as it did. -/
def bandPlaysUptoRow : OpenClaim := { program := "ytnmhbonheaoldaa", sum := "eb28d5f9cbabe721b0208cc125c2b27596455a0b5285d5e2b038a75c11e19962", func := "belfry/belfrylaw16.BandPlays", spec := "bandPlays", unfollowed := true, recurses := true, apart := false, narrowed := true }
def BandPlaysUptoSaid : Prop := bandPlaysUptoRow.holds Try.pinned (OpenSpec.upto bandPlaysSpec)

/-- 'belfrylaw16.BandClamps', WHERE WHAT IT READS IS OF BULK AT MOST 1048576: true; the input reads as it did. -/
def bandClampsUptoRow : OpenClaim := { program := "ytnmhbonheaoldaa", sum := "eb28d5f9cbabe721b0208cc125c2b27596455a0b5285d5e2b038a75c11e19962", func := "belfry/belfrylaw16.BandClamps", spec := "bandClamps", unfollowed := true, recurses := true, apart := false, narrowed := true }
def BandClampsUptoSaid : Prop := bandClampsUptoRow.holds Try.pinned (OpenSpec.upto bandClampsSpec)

/-- 'belfrylaw17.MaskLeast', WHERE WHAT IT READS IS OF BULK AT MOST 1048576: true; the input reads as it did. -/
def maskLeastUptoRow : OpenClaim := { program := "ytnmhbonheaoldaa", sum := "eb28d5f9cbabe721b0208cc125c2b27596455a0b5285d5e2b038a75c11e19962", func := "belfry/belfrylaw17.MaskLeast", spec := "maskLeast", unfollowed := true, recurses := true, apart := false, narrowed := true }
def MaskLeastUptoSaid : Prop := maskLeastUptoRow.holds Try.pinned (OpenSpec.upto maskLeastSpec)

/-- 'belfrylaw17.MaskBoth', WHERE WHAT IT READS IS OF BULK AT MOST 1048576: true; the input reads as it did. -/
def maskBothUptoRow : OpenClaim := { program := "ytnmhbonheaoldaa", sum := "eb28d5f9cbabe721b0208cc125c2b27596455a0b5285d5e2b038a75c11e19962", func := "belfry/belfrylaw17.MaskBoth", spec := "maskBoth", unfollowed := true, recurses := true, apart := false, narrowed := true }
def MaskBothUptoSaid : Prop := maskBothUptoRow.holds Try.pinned (OpenSpec.upto maskBothSpec)

/-- 'belfrylaw17.MaskPlays', WHERE WHAT IT READS IS OF BULK AT MOST 1048576: true; the input reads as it did. -/
def maskPlaysUptoRow : OpenClaim := { program := "ytnmhbonheaoldaa", sum := "eb28d5f9cbabe721b0208cc125c2b27596455a0b5285d5e2b038a75c11e19962", func := "belfry/belfrylaw17.MaskPlays", spec := "maskPlays", unfollowed := true, recurses := true, apart := false, narrowed := true }
def MaskPlaysUptoSaid : Prop := maskPlaysUptoRow.holds Try.pinned (OpenSpec.upto maskPlaysSpec)

/-- 'belfrylaw12.MidPlays', WHERE WHAT IT READS IS OF BULK AT MOST 1048576: true; the input reads as it did. -/
def midPlaysUptoRow : OpenClaim := { program := "ytnmhbonheaoldaa", sum := "eb28d5f9cbabe721b0208cc125c2b27596455a0b5285d5e2b038a75c11e19962", func := "belfry/belfrylaw12.MidPlays", spec := "midPlays", unfollowed := true, recurses := true, apart := false, narrowed := true }
def MidPlaysUptoSaid : Prop := midPlaysUptoRow.holds Try.pinned (OpenSpec.upto midPlaysSpec)

/-- 'belfrylaw12.MidJoins', WHERE WHAT IT READS IS OF BULK AT MOST 1048576: true; the input reads as it did. -/
def midJoinsUptoRow : OpenClaim := { program := "ytnmhbonheaoldaa", sum := "eb28d5f9cbabe721b0208cc125c2b27596455a0b5285d5e2b038a75c11e19962", func := "belfry/belfrylaw12.MidJoins", spec := "midJoins", unfollowed := true, recurses := true, apart := false, narrowed := true }
def MidJoinsUptoSaid : Prop := midJoinsUptoRow.holds Try.pinned (OpenSpec.upto midJoinsSpec)

end Rows
end Go.Proofs.Ytnmhbonheaoldaa
