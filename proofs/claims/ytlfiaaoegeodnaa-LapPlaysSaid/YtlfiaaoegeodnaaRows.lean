/-
  No cell of these rows narrows 'for every input' (looked for: loops, veiled, ifaces, maps, wideKeys, modest, calm, conditions, laid).
  DERIVED. THE GIVEN ROWS OF THIS SEAT. 24 by the template 'for every input the law returns true; each argument reads behind the call as it read before'; 0 by the template 'total and deterministic' (their statements: YtlfiaaoegeodnaaTotals.lean).
  GIVEN WITH THE SEED: the statements are not yours to turn. If you find one false, say at which input.
  Laid BY PROGRAM, IN A SANDBOX (cutbox-rows.mjs): the forced cells as the released guide's own fill.sh prints them over the translation 43ea9076d7fffc55… (all of the seat's roots in one cut). By AI agents, Wed Nov 11 2026. No macro, syntax, notation, axiom, sorry.
-/
import Derived.Test.YtlfiaaoegeodnaaChecked
import GoSem.Claim
import GoSem.ClaimJoined
import GoSem.ClaimMapViews
import Derived.JoinedTies
import Derived.KernelRfl
namespace Go.Proofs.Ytlfiaaoegeodnaa
/- THE CELL 'sum', in the pinned program and in every row, IS THE sha256 OF THE DUMP (.gsa) THAT YtlfiaaoegeodnaaProg.lean LOADS. Nothing in Lean hashes anything: it is a label: what it is worth is what the hold of that sum in a sandbox is worth. -/
noncomputable def Try.pinned : Pinned := { name := "ytlfiaaoegeodnaa", sum := "43ea9076d7fffc552fdebda3ce43aa49c2013a071831ca628b39b05ae89306ba", checked := Try.checked }
namespace Rows
def none {H : Type} : Left H := { results := [], args := [] }

/-- 'belfrylaw08.TrigRoot': WHATEVER THE INPUT: true; the input reads as it did. -/
def trigRootSpec : ChangeSpec := { name := "trigRoot", fn := fun _ => fun
  | [d] => { results := [.lit (.bool true)], args := [d] }
  | _ => none }
def trigRootRow : OpenClaim := { program := "ytlfiaaoegeodnaa", sum := "43ea9076d7fffc552fdebda3ce43aa49c2013a071831ca628b39b05ae89306ba", func := "belfry/belfrylaw08.TrigRoot", spec := "trigRoot", apart := false }
def TrigRootSaid : Prop := trigRootRow.holds Try.pinned (OpenSpec.ofChange trigRootSpec)

/-- ITS FALSE NEIGHBOUR: 'it returns false'. Refute it at one input. -/
def trigRootWrong : ChangeSpec := { name := "trigRoot", fn := fun _ => fun
  | [d] => { results := [.lit (.bool false)], args := [d] }
  | _ => none }
def TrigRootWrongFalsely : Prop := trigRootRow.holds Try.pinned (OpenSpec.ofChange trigRootWrong)

/-- 'belfrylaw08.TrigTurns': WHATEVER THE INPUT: true; the input reads as it did. -/
def trigTurnsSpec : ChangeSpec := { name := "trigTurns", fn := fun _ => fun
  | [d] => { results := [.lit (.bool true)], args := [d] }
  | _ => none }
def trigTurnsRow : OpenClaim := { program := "ytlfiaaoegeodnaa", sum := "43ea9076d7fffc552fdebda3ce43aa49c2013a071831ca628b39b05ae89306ba", func := "belfry/belfrylaw08.TrigTurns", spec := "trigTurns", apart := false }
def TrigTurnsSaid : Prop := trigTurnsRow.holds Try.pinned (OpenSpec.ofChange trigTurnsSpec)

/-- ITS FALSE NEIGHBOUR: 'it returns false'. Refute it at one input. -/
def trigTurnsWrong : ChangeSpec := { name := "trigTurns", fn := fun _ => fun
  | [d] => { results := [.lit (.bool false)], args := [d] }
  | _ => none }
def TrigTurnsWrongFalsely : Prop := trigTurnsRow.holds Try.pinned (OpenSpec.ofChange trigTurnsWrong)

/-- 'belfrylaw08.TrigSums': WHATEVER THE INPUT: true; the input reads as it did. -/
def trigSumsSpec : ChangeSpec := { name := "trigSums", fn := fun _ => fun
  | [d1, d2] => { results := [.lit (.bool true)], args := [d1, d2] }
  | _ => none }
def trigSumsRow : OpenClaim := { program := "ytlfiaaoegeodnaa", sum := "43ea9076d7fffc552fdebda3ce43aa49c2013a071831ca628b39b05ae89306ba", func := "belfry/belfrylaw08.TrigSums", spec := "trigSums", apart := false }
def TrigSumsSaid : Prop := trigSumsRow.holds Try.pinned (OpenSpec.ofChange trigSumsSpec)

/-- ITS FALSE NEIGHBOUR: 'it returns false'. Refute it at one input. -/
def trigSumsWrong : ChangeSpec := { name := "trigSums", fn := fun _ => fun
  | [d1, d2] => { results := [.lit (.bool false)], args := [d1, d2] }
  | _ => none }
def TrigSumsWrongFalsely : Prop := trigSumsRow.holds Try.pinned (OpenSpec.ofChange trigSumsWrong)

/-- 'belfrylaw08.TrigRises': WHATEVER THE INPUT: true; the input reads as it did. -/
def trigRisesSpec : ChangeSpec := { name := "trigRises", fn := fun _ => fun
  | [d] => { results := [.lit (.bool true)], args := [d] }
  | _ => none }
def trigRisesRow : OpenClaim := { program := "ytlfiaaoegeodnaa", sum := "43ea9076d7fffc552fdebda3ce43aa49c2013a071831ca628b39b05ae89306ba", func := "belfry/belfrylaw08.TrigRises", spec := "trigRises", apart := false }
def TrigRisesSaid : Prop := trigRisesRow.holds Try.pinned (OpenSpec.ofChange trigRisesSpec)

/-- ITS FALSE NEIGHBOUR: 'it returns false'. Refute it at one input. -/
def trigRisesWrong : ChangeSpec := { name := "trigRises", fn := fun _ => fun
  | [d] => { results := [.lit (.bool false)], args := [d] }
  | _ => none }
def TrigRisesWrongFalsely : Prop := trigRisesRow.holds Try.pinned (OpenSpec.ofChange trigRisesWrong)

/-- 'belfrylaw08.TrigClose': WHATEVER THE INPUT: true; the input reads as it did. -/
def trigCloseSpec : ChangeSpec := { name := "trigClose", fn := fun _ => fun
  | [d] => { results := [.lit (.bool true)], args := [d] }
  | _ => none }
def trigCloseRow : OpenClaim := { program := "ytlfiaaoegeodnaa", sum := "43ea9076d7fffc552fdebda3ce43aa49c2013a071831ca628b39b05ae89306ba", func := "belfry/belfrylaw08.TrigClose", spec := "trigClose", apart := false }
def TrigCloseSaid : Prop := trigCloseRow.holds Try.pinned (OpenSpec.ofChange trigCloseSpec)

/-- ITS FALSE NEIGHBOUR: 'it returns false'. Refute it at one input. -/
def trigCloseWrong : ChangeSpec := { name := "trigClose", fn := fun _ => fun
  | [d] => { results := [.lit (.bool false)], args := [d] }
  | _ => none }
def TrigCloseWrongFalsely : Prop := trigCloseRow.holds Try.pinned (OpenSpec.ofChange trigCloseWrong)

/-- 'belfrylaw08.TrigPlays': WHATEVER THE INPUT: true; the input reads as it did. -/
def trigPlaysSpec : ChangeSpec := { name := "trigPlays", fn := fun _ => fun
  | [d1, d2] => { results := [.lit (.bool true)], args := [d1, d2] }
  | _ => none }
def trigPlaysRow : OpenClaim := { program := "ytlfiaaoegeodnaa", sum := "43ea9076d7fffc552fdebda3ce43aa49c2013a071831ca628b39b05ae89306ba", func := "belfry/belfrylaw08.TrigPlays", spec := "trigPlays", apart := false }
def TrigPlaysSaid : Prop := trigPlaysRow.holds Try.pinned (OpenSpec.ofChange trigPlaysSpec)

/-- ITS FALSE NEIGHBOUR: 'it returns false'. Refute it at one input. -/
def trigPlaysWrong : ChangeSpec := { name := "trigPlays", fn := fun _ => fun
  | [d1, d2] => { results := [.lit (.bool false)], args := [d1, d2] }
  | _ => none }
def TrigPlaysWrongFalsely : Prop := trigPlaysRow.holds Try.pinned (OpenSpec.ofChange trigPlaysWrong)

/-- 'belfrylaw09.LiftUnlike': WHATEVER THE INPUT: true; the input reads as it did. -/
def liftUnlikeSpec : ChangeSpec := { name := "liftUnlike", fn := fun _ => fun
  | [d1, d2, d3, d4, d5] => { results := [.lit (.bool true)], args := [d1, d2, d3, d4, d5] }
  | _ => none }
def liftUnlikeRow : OpenClaim := { program := "ytlfiaaoegeodnaa", sum := "43ea9076d7fffc552fdebda3ce43aa49c2013a071831ca628b39b05ae89306ba", func := "belfry/belfrylaw09.LiftUnlike", spec := "liftUnlike", unfollowed := true, recurses := true, apart := false }
def LiftUnlikeSaid : Prop := liftUnlikeRow.holds Try.pinned (OpenSpec.ofChange liftUnlikeSpec)

/-- ITS FALSE NEIGHBOUR: 'it returns false'. Refute it at one input. -/
def liftUnlikeWrong : ChangeSpec := { name := "liftUnlike", fn := fun _ => fun
  | [d1, d2, d3, d4, d5] => { results := [.lit (.bool false)], args := [d1, d2, d3, d4, d5] }
  | _ => none }
def LiftUnlikeWrongFalsely : Prop := liftUnlikeRow.holds Try.pinned (OpenSpec.ofChange liftUnlikeWrong)

/-- 'belfrylaw09.LiftQuarters': WHATEVER THE INPUT: true; the input reads as it did. -/
def liftQuartersSpec : ChangeSpec := { name := "liftQuarters", fn := fun _ => fun
  | [d1, d2, d3] => { results := [.lit (.bool true)], args := [d1, d2, d3] }
  | _ => none }
def liftQuartersRow : OpenClaim := { program := "ytlfiaaoegeodnaa", sum := "43ea9076d7fffc552fdebda3ce43aa49c2013a071831ca628b39b05ae89306ba", func := "belfry/belfrylaw09.LiftQuarters", spec := "liftQuarters", unfollowed := true, recurses := true, apart := false }
def LiftQuartersSaid : Prop := liftQuartersRow.holds Try.pinned (OpenSpec.ofChange liftQuartersSpec)

/-- ITS FALSE NEIGHBOUR: 'it returns false'. Refute it at one input. -/
def liftQuartersWrong : ChangeSpec := { name := "liftQuarters", fn := fun _ => fun
  | [d1, d2, d3] => { results := [.lit (.bool false)], args := [d1, d2, d3] }
  | _ => none }
def LiftQuartersWrongFalsely : Prop := liftQuartersRow.holds Try.pinned (OpenSpec.ofChange liftQuartersWrong)

/-- 'belfrylaw09.LiftSize': WHATEVER THE INPUT: true; the input reads as it did. -/
def liftSizeSpec : ChangeSpec := { name := "liftSize", fn := fun _ => fun
  | [d1, d2, d3] => { results := [.lit (.bool true)], args := [d1, d2, d3] }
  | _ => none }
def liftSizeRow : OpenClaim := { program := "ytlfiaaoegeodnaa", sum := "43ea9076d7fffc552fdebda3ce43aa49c2013a071831ca628b39b05ae89306ba", func := "belfry/belfrylaw09.LiftSize", spec := "liftSize", unfollowed := true, recurses := true, apart := false }
def LiftSizeSaid : Prop := liftSizeRow.holds Try.pinned (OpenSpec.ofChange liftSizeSpec)

/-- ITS FALSE NEIGHBOUR: 'it returns false'. Refute it at one input. -/
def liftSizeWrong : ChangeSpec := { name := "liftSize", fn := fun _ => fun
  | [d1, d2, d3] => { results := [.lit (.bool false)], args := [d1, d2, d3] }
  | _ => none }
def LiftSizeWrongFalsely : Prop := liftSizeRow.holds Try.pinned (OpenSpec.ofChange liftSizeWrong)

/-- 'belfrylaw09.LiftParts': WHATEVER THE INPUT: true; the input reads as it did. -/
def liftPartsSpec : ChangeSpec := { name := "liftParts", fn := fun _ => fun
  | [d1, d2] => { results := [.lit (.bool true)], args := [d1, d2] }
  | _ => none }
def liftPartsRow : OpenClaim := { program := "ytlfiaaoegeodnaa", sum := "43ea9076d7fffc552fdebda3ce43aa49c2013a071831ca628b39b05ae89306ba", func := "belfry/belfrylaw09.LiftParts", spec := "liftParts", unfollowed := true, recurses := true, apart := false }
def LiftPartsSaid : Prop := liftPartsRow.holds Try.pinned (OpenSpec.ofChange liftPartsSpec)

/-- ITS FALSE NEIGHBOUR: 'it returns false'. Refute it at one input. -/
def liftPartsWrong : ChangeSpec := { name := "liftParts", fn := fun _ => fun
  | [d1, d2] => { results := [.lit (.bool false)], args := [d1, d2] }
  | _ => none }
def LiftPartsWrongFalsely : Prop := liftPartsRow.holds Try.pinned (OpenSpec.ofChange liftPartsWrong)

/-- 'belfrylaw09.LiftTwice': WHATEVER THE INPUT: true; the input reads as it did. -/
def liftTwiceSpec : ChangeSpec := { name := "liftTwice", fn := fun _ => fun
  | [d1, d2, d3, d4] => { results := [.lit (.bool true)], args := [d1, d2, d3, d4] }
  | _ => none }
def liftTwiceRow : OpenClaim := { program := "ytlfiaaoegeodnaa", sum := "43ea9076d7fffc552fdebda3ce43aa49c2013a071831ca628b39b05ae89306ba", func := "belfry/belfrylaw09.LiftTwice", spec := "liftTwice", unfollowed := true, recurses := true, apart := false }
def LiftTwiceSaid : Prop := liftTwiceRow.holds Try.pinned (OpenSpec.ofChange liftTwiceSpec)

/-- ITS FALSE NEIGHBOUR: 'it returns false'. Refute it at one input. -/
def liftTwiceWrong : ChangeSpec := { name := "liftTwice", fn := fun _ => fun
  | [d1, d2, d3, d4] => { results := [.lit (.bool false)], args := [d1, d2, d3, d4] }
  | _ => none }
def LiftTwiceWrongFalsely : Prop := liftTwiceRow.holds Try.pinned (OpenSpec.ofChange liftTwiceWrong)

/-- 'belfrylaw09.LiftBack': WHATEVER THE INPUT: true; the input reads as it did. -/
def liftBackSpec : ChangeSpec := { name := "liftBack", fn := fun _ => fun
  | [d1, d2, d3] => { results := [.lit (.bool true)], args := [d1, d2, d3] }
  | _ => none }
def liftBackRow : OpenClaim := { program := "ytlfiaaoegeodnaa", sum := "43ea9076d7fffc552fdebda3ce43aa49c2013a071831ca628b39b05ae89306ba", func := "belfry/belfrylaw09.LiftBack", spec := "liftBack", unfollowed := true, recurses := true, apart := false }
def LiftBackSaid : Prop := liftBackRow.holds Try.pinned (OpenSpec.ofChange liftBackSpec)

/-- ITS FALSE NEIGHBOUR: 'it returns false'. Refute it at one input. -/
def liftBackWrong : ChangeSpec := { name := "liftBack", fn := fun _ => fun
  | [d1, d2, d3] => { results := [.lit (.bool false)], args := [d1, d2, d3] }
  | _ => none }
def LiftBackWrongFalsely : Prop := liftBackRow.holds Try.pinned (OpenSpec.ofChange liftBackWrong)

/-- 'belfrylaw09.LiftPlays': WHATEVER THE INPUT: true; the input reads as it did. -/
def liftPlaysSpec : ChangeSpec := { name := "liftPlays", fn := fun _ => fun
  | [d1, d2, d3, d4] => { results := [.lit (.bool true)], args := [d1, d2, d3, d4] }
  | _ => none }
def liftPlaysRow : OpenClaim := { program := "ytlfiaaoegeodnaa", sum := "43ea9076d7fffc552fdebda3ce43aa49c2013a071831ca628b39b05ae89306ba", func := "belfry/belfrylaw09.LiftPlays", spec := "liftPlays", unfollowed := true, recurses := true, apart := false }
def LiftPlaysSaid : Prop := liftPlaysRow.holds Try.pinned (OpenSpec.ofChange liftPlaysSpec)

/-- ITS FALSE NEIGHBOUR: 'it returns false'. Refute it at one input. -/
def liftPlaysWrong : ChangeSpec := { name := "liftPlays", fn := fun _ => fun
  | [d1, d2, d3, d4] => { results := [.lit (.bool false)], args := [d1, d2, d3, d4] }
  | _ => none }
def LiftPlaysWrongFalsely : Prop := liftPlaysRow.holds Try.pinned (OpenSpec.ofChange liftPlaysWrong)

/-- 'belfrylaw10.DctBack': WHATEVER THE INPUT: true; the input reads as it did. -/
def dctBackSpec : ChangeSpec := { name := "dctBack", fn := fun _ => fun
  | [d] => { results := [.lit (.bool true)], args := [d] }
  | _ => none }
def dctBackRow : OpenClaim := { program := "ytlfiaaoegeodnaa", sum := "43ea9076d7fffc552fdebda3ce43aa49c2013a071831ca628b39b05ae89306ba", func := "belfry/belfrylaw10.DctBack", spec := "dctBack", unfollowed := true, recurses := true, apart := false }
def DctBackSaid : Prop := dctBackRow.holds Try.pinned (OpenSpec.ofChange dctBackSpec)

/-- ITS FALSE NEIGHBOUR: 'it returns false'. Refute it at one input. -/
def dctBackWrong : ChangeSpec := { name := "dctBack", fn := fun _ => fun
  | [d] => { results := [.lit (.bool false)], args := [d] }
  | _ => none }
def DctBackWrongFalsely : Prop := dctBackRow.holds Try.pinned (OpenSpec.ofChange dctBackWrong)

/-- 'belfrylaw10.DctUnlike': WHATEVER THE INPUT: true; the input reads as it did. -/
def dctUnlikeSpec : ChangeSpec := { name := "dctUnlike", fn := fun _ => fun
  | [d1, d2] => { results := [.lit (.bool true)], args := [d1, d2] }
  | _ => none }
def dctUnlikeRow : OpenClaim := { program := "ytlfiaaoegeodnaa", sum := "43ea9076d7fffc552fdebda3ce43aa49c2013a071831ca628b39b05ae89306ba", func := "belfry/belfrylaw10.DctUnlike", spec := "dctUnlike", unfollowed := true, recurses := true, apart := false }
def DctUnlikeSaid : Prop := dctUnlikeRow.holds Try.pinned (OpenSpec.ofChange dctUnlikeSpec)

/-- ITS FALSE NEIGHBOUR: 'it returns false'. Refute it at one input. -/
def dctUnlikeWrong : ChangeSpec := { name := "dctUnlike", fn := fun _ => fun
  | [d1, d2] => { results := [.lit (.bool false)], args := [d1, d2] }
  | _ => none }
def DctUnlikeWrongFalsely : Prop := dctUnlikeRow.holds Try.pinned (OpenSpec.ofChange dctUnlikeWrong)

/-- 'belfrylaw10.DctSize': WHATEVER THE INPUT: true; the input reads as it did. -/
def dctSizeSpec : ChangeSpec := { name := "dctSize", fn := fun _ => fun
  | [d] => { results := [.lit (.bool true)], args := [d] }
  | _ => none }
def dctSizeRow : OpenClaim := { program := "ytlfiaaoegeodnaa", sum := "43ea9076d7fffc552fdebda3ce43aa49c2013a071831ca628b39b05ae89306ba", func := "belfry/belfrylaw10.DctSize", spec := "dctSize", unfollowed := true, recurses := true, apart := false }
def DctSizeSaid : Prop := dctSizeRow.holds Try.pinned (OpenSpec.ofChange dctSizeSpec)

/-- ITS FALSE NEIGHBOUR: 'it returns false'. Refute it at one input. -/
def dctSizeWrong : ChangeSpec := { name := "dctSize", fn := fun _ => fun
  | [d] => { results := [.lit (.bool false)], args := [d] }
  | _ => none }
def DctSizeWrongFalsely : Prop := dctSizeRow.holds Try.pinned (OpenSpec.ofChange dctSizeWrong)

/-- 'belfrylaw10.DctPlays': WHATEVER THE INPUT: true; the input reads as it did. -/
def dctPlaysSpec : ChangeSpec := { name := "dctPlays", fn := fun _ => fun
  | [d] => { results := [.lit (.bool true)], args := [d] }
  | _ => none }
def dctPlaysRow : OpenClaim := { program := "ytlfiaaoegeodnaa", sum := "43ea9076d7fffc552fdebda3ce43aa49c2013a071831ca628b39b05ae89306ba", func := "belfry/belfrylaw10.DctPlays", spec := "dctPlays", unfollowed := true, recurses := true, apart := false }
def DctPlaysSaid : Prop := dctPlaysRow.holds Try.pinned (OpenSpec.ofChange dctPlaysSpec)

/-- ITS FALSE NEIGHBOUR: 'it returns false'. Refute it at one input. -/
def dctPlaysWrong : ChangeSpec := { name := "dctPlays", fn := fun _ => fun
  | [d] => { results := [.lit (.bool false)], args := [d] }
  | _ => none }
def DctPlaysWrongFalsely : Prop := dctPlaysRow.holds Try.pinned (OpenSpec.ofChange dctPlaysWrong)

/-- 'belfrylaw10.DctSmall': WHATEVER THE INPUT: true; the input reads as it did. -/
def dctSmallSpec : ChangeSpec := { name := "dctSmall", fn := fun _ => fun
  | [d] => { results := [.lit (.bool true)], args := [d] }
  | _ => none }
def dctSmallRow : OpenClaim := { program := "ytlfiaaoegeodnaa", sum := "43ea9076d7fffc552fdebda3ce43aa49c2013a071831ca628b39b05ae89306ba", func := "belfry/belfrylaw10.DctSmall", spec := "dctSmall", unfollowed := true, recurses := true, apart := false }
def DctSmallSaid : Prop := dctSmallRow.holds Try.pinned (OpenSpec.ofChange dctSmallSpec)

/-- ITS FALSE NEIGHBOUR: 'it returns false'. Refute it at one input. -/
def dctSmallWrong : ChangeSpec := { name := "dctSmall", fn := fun _ => fun
  | [d] => { results := [.lit (.bool false)], args := [d] }
  | _ => none }
def DctSmallWrongFalsely : Prop := dctSmallRow.holds Try.pinned (OpenSpec.ofChange dctSmallWrong)

/-- 'belfrylaw11.LapBack': WHATEVER THE INPUT: true; the input reads as it did. -/
def lapBackSpec : ChangeSpec := { name := "lapBack", fn := fun _ => fun
  | [d] => { results := [.lit (.bool true)], args := [d] }
  | _ => none }
def lapBackRow : OpenClaim := { program := "ytlfiaaoegeodnaa", sum := "43ea9076d7fffc552fdebda3ce43aa49c2013a071831ca628b39b05ae89306ba", func := "belfry/belfrylaw11.LapBack", spec := "lapBack", unfollowed := true, recurses := true, apart := false }
def LapBackSaid : Prop := lapBackRow.holds Try.pinned (OpenSpec.ofChange lapBackSpec)

/-- ITS FALSE NEIGHBOUR: 'it returns false'. Refute it at one input. -/
def lapBackWrong : ChangeSpec := { name := "lapBack", fn := fun _ => fun
  | [d] => { results := [.lit (.bool false)], args := [d] }
  | _ => none }
def LapBackWrongFalsely : Prop := lapBackRow.holds Try.pinned (OpenSpec.ofChange lapBackWrong)

/-- 'belfrylaw11.LapAlone': WHATEVER THE INPUT: true; the input reads as it did. -/
def lapAloneSpec : ChangeSpec := { name := "lapAlone", fn := fun _ => fun
  | [d1, d2, d3] => { results := [.lit (.bool true)], args := [d1, d2, d3] }
  | _ => none }
def lapAloneRow : OpenClaim := { program := "ytlfiaaoegeodnaa", sum := "43ea9076d7fffc552fdebda3ce43aa49c2013a071831ca628b39b05ae89306ba", func := "belfry/belfrylaw11.LapAlone", spec := "lapAlone", unfollowed := true, recurses := true, apart := false }
def LapAloneSaid : Prop := lapAloneRow.holds Try.pinned (OpenSpec.ofChange lapAloneSpec)

/-- ITS FALSE NEIGHBOUR: 'it returns false'. Refute it at one input. -/
def lapAloneWrong : ChangeSpec := { name := "lapAlone", fn := fun _ => fun
  | [d1, d2, d3] => { results := [.lit (.bool false)], args := [d1, d2, d3] }
  | _ => none }
def LapAloneWrongFalsely : Prop := lapAloneRow.holds Try.pinned (OpenSpec.ofChange lapAloneWrong)

/-- 'belfrylaw11.LapSeams': WHATEVER THE INPUT: true; the input reads as it did. -/
def lapSeamsSpec : ChangeSpec := { name := "lapSeams", fn := fun _ => fun
  | [d1, d2] => { results := [.lit (.bool true)], args := [d1, d2] }
  | _ => none }
def lapSeamsRow : OpenClaim := { program := "ytlfiaaoegeodnaa", sum := "43ea9076d7fffc552fdebda3ce43aa49c2013a071831ca628b39b05ae89306ba", func := "belfry/belfrylaw11.LapSeams", spec := "lapSeams", unfollowed := true, recurses := true, apart := false }
def LapSeamsSaid : Prop := lapSeamsRow.holds Try.pinned (OpenSpec.ofChange lapSeamsSpec)

/-- ITS FALSE NEIGHBOUR: 'it returns false'. Refute it at one input. -/
def lapSeamsWrong : ChangeSpec := { name := "lapSeams", fn := fun _ => fun
  | [d1, d2] => { results := [.lit (.bool false)], args := [d1, d2] }
  | _ => none }
def LapSeamsWrongFalsely : Prop := lapSeamsRow.holds Try.pinned (OpenSpec.ofChange lapSeamsWrong)

/-- 'belfrylaw11.LapPlays': WHATEVER THE INPUT: true; the input reads as it did. -/
def lapPlaysSpec : ChangeSpec := { name := "lapPlays", fn := fun _ => fun
  | [d1, d2] => { results := [.lit (.bool true)], args := [d1, d2] }
  | _ => none }
def lapPlaysRow : OpenClaim := { program := "ytlfiaaoegeodnaa", sum := "43ea9076d7fffc552fdebda3ce43aa49c2013a071831ca628b39b05ae89306ba", func := "belfry/belfrylaw11.LapPlays", spec := "lapPlays", unfollowed := true, recurses := true, apart := false }
def LapPlaysSaid : Prop := lapPlaysRow.holds Try.pinned (OpenSpec.ofChange lapPlaysSpec)

/-- ITS FALSE NEIGHBOUR: 'it returns false'. Refute it at one input. -/
def lapPlaysWrong : ChangeSpec := { name := "lapPlays", fn := fun _ => fun
  | [d1, d2] => { results := [.lit (.bool false)], args := [d1, d2] }
  | _ => none }
def LapPlaysWrongFalsely : Prop := lapPlaysRow.holds Try.pinned (OpenSpec.ofChange lapPlaysWrong)

/-- 'belfrylaw11.LapNear': WHATEVER THE INPUT: true; the input reads as it did. -/
def lapNearSpec : ChangeSpec := { name := "lapNear", fn := fun _ => fun
  | [d1, d2, d3] => { results := [.lit (.bool true)], args := [d1, d2, d3] }
  | _ => none }
def lapNearRow : OpenClaim := { program := "ytlfiaaoegeodnaa", sum := "43ea9076d7fffc552fdebda3ce43aa49c2013a071831ca628b39b05ae89306ba", func := "belfry/belfrylaw11.LapNear", spec := "lapNear", unfollowed := true, recurses := true, apart := false }
def LapNearSaid : Prop := lapNearRow.holds Try.pinned (OpenSpec.ofChange lapNearSpec)

/-- ITS FALSE NEIGHBOUR: 'it returns false'. Refute it at one input. -/
def lapNearWrong : ChangeSpec := { name := "lapNear", fn := fun _ => fun
  | [d1, d2, d3] => { results := [.lit (.bool false)], args := [d1, d2, d3] }
  | _ => none }
def LapNearWrongFalsely : Prop := lapNearRow.holds Try.pinned (OpenSpec.ofChange lapNearWrong)

/-- 'belfrylaw11.LapCounts': WHATEVER THE INPUT: true; the input reads as it did. -/
def lapCountsSpec : ChangeSpec := { name := "lapCounts", fn := fun _ => fun
  | [d] => { results := [.lit (.bool true)], args := [d] }
  | _ => none }
def lapCountsRow : OpenClaim := { program := "ytlfiaaoegeodnaa", sum := "43ea9076d7fffc552fdebda3ce43aa49c2013a071831ca628b39b05ae89306ba", func := "belfry/belfrylaw11.LapCounts", spec := "lapCounts", unfollowed := true, recurses := true, apart := false }
def LapCountsSaid : Prop := lapCountsRow.holds Try.pinned (OpenSpec.ofChange lapCountsSpec)

/-- ITS FALSE NEIGHBOUR: 'it returns false'. Refute it at one input. -/
def lapCountsWrong : ChangeSpec := { name := "lapCounts", fn := fun _ => fun
  | [d] => { results := [.lit (.bool false)], args := [d] }
  | _ => none }
def LapCountsWrongFalsely : Prop := lapCountsRow.holds Try.pinned (OpenSpec.ofChange lapCountsWrong)

/- THE SECOND FORM. 'bulk': how many values and letters a reading holds, each counted each time it is reached (what is shared counts as often as it is met; a slice's spare places count too). A statement '..UptoSaid' is the law's where the arguments, and the package variables that the reading takes, are together of bulk at most 1048576: NARROWER than '..Said'. Prove '..Said' where nothing that the law and all that it calls make is longer than what came in: it says more and counts as full. Else prove '..UptoSaid'. A law counts once. -/
mutual
def uptoBulk {H : Type} : DataW H → Nat
  | .lit (.string bytes) => bytes.length + 1
  | .lit _ => 1
  | .nil => 1
  | .ptr d => uptoBulk d + 1
  | .slice elems spare => uptoBulkAll elems + uptoBulkAll spare + 1
  | .agg parts => uptoBulkAll parts + 1
  | .iface _ d => uptoBulk d + 1
  | .map entries => uptoBulkEntries entries + 1
  | .held _ => 1
def uptoBulkAll {H : Type} : List (DataW H) → Nat
  | [] => 0
  | d :: r => uptoBulk d + uptoBulkAll r
def uptoBulkEntries {H : Type} : List (Lit × DataW H) → Nat
  | [] => 0
  | x :: r => uptoBulkEntry x + uptoBulkEntries r
def uptoBulkEntry {H : Type} : Lit × DataW H → Nat
  | (.string bytes, d) => bytes.length + uptoBulk d + 1
  | (_, d) => uptoBulk d + 1
 end
def uptoSmall : (H : Type) → List (DataW H) → Bool := fun _ ds => decide (uptoBulkAll ds ≤ 1048576)
def OpenSpec.upto (s : _root_.Go.ChangeSpec) : _root_.Go.OpenSpec := { _root_.Go.OpenSpec.ofChange s with cond := some uptoSmall }

/-- 'belfrylaw08.TrigRoot', WHERE WHAT IT READS IS OF BULK AT MOST 1048576: true; the input reads as it did. -/
def trigRootUptoRow : OpenClaim := { program := "ytlfiaaoegeodnaa", sum := "43ea9076d7fffc552fdebda3ce43aa49c2013a071831ca628b39b05ae89306ba", func := "belfry/belfrylaw08.TrigRoot", spec := "trigRoot", apart := false, narrowed := true }
def TrigRootUptoSaid : Prop := trigRootUptoRow.holds Try.pinned (OpenSpec.upto trigRootSpec)

/-- 'belfrylaw08.TrigTurns', WHERE WHAT IT READS IS OF BULK AT MOST 1048576: true; the input reads as it did. -/
def trigTurnsUptoRow : OpenClaim := { program := "ytlfiaaoegeodnaa", sum := "43ea9076d7fffc552fdebda3ce43aa49c2013a071831ca628b39b05ae89306ba", func := "belfry/belfrylaw08.TrigTurns", spec := "trigTurns", apart := false, narrowed := true }
def TrigTurnsUptoSaid : Prop := trigTurnsUptoRow.holds Try.pinned (OpenSpec.upto trigTurnsSpec)

/-- 'belfrylaw08.TrigSums', WHERE WHAT IT READS IS OF BULK AT MOST 1048576: true; the input reads as it did. -/
def trigSumsUptoRow : OpenClaim := { program := "ytlfiaaoegeodnaa", sum := "43ea9076d7fffc552fdebda3ce43aa49c2013a071831ca628b39b05ae89306ba", func := "belfry/belfrylaw08.TrigSums", spec := "trigSums", apart := false, narrowed := true }
def TrigSumsUptoSaid : Prop := trigSumsUptoRow.holds Try.pinned (OpenSpec.upto trigSumsSpec)

/-- 'belfrylaw08.TrigRises', WHERE WHAT IT READS IS OF BULK AT MOST 1048576: true; the input reads as it did. -/
def trigRisesUptoRow : OpenClaim := { program := "ytlfiaaoegeodnaa", sum := "43ea9076d7fffc552fdebda3ce43aa49c2013a071831ca628b39b05ae89306ba", func := "belfry/belfrylaw08.TrigRises", spec := "trigRises", apart := false, narrowed := true }
def TrigRisesUptoSaid : Prop := trigRisesUptoRow.holds Try.pinned (OpenSpec.upto trigRisesSpec)

/-- 'belfrylaw08.TrigClose', WHERE WHAT IT READS IS OF BULK AT MOST 1048576: true; the input reads as it did. -/
def trigCloseUptoRow : OpenClaim := { program := "ytlfiaaoegeodnaa", sum := "43ea9076d7fffc552fdebda3ce43aa49c2013a071831ca628b39b05ae89306ba", func := "belfry/belfrylaw08.TrigClose", spec := "trigClose", apart := false, narrowed := true }
def TrigCloseUptoSaid : Prop := trigCloseUptoRow.holds Try.pinned (OpenSpec.upto trigCloseSpec)

/-- 'belfrylaw08.TrigPlays', WHERE WHAT IT READS IS OF BULK AT MOST 1048576: true; the input reads as it did. -/
def trigPlaysUptoRow : OpenClaim := { program := "ytlfiaaoegeodnaa", sum := "43ea9076d7fffc552fdebda3ce43aa49c2013a071831ca628b39b05ae89306ba", func := "belfry/belfrylaw08.TrigPlays", spec := "trigPlays", apart := false, narrowed := true }
def TrigPlaysUptoSaid : Prop := trigPlaysUptoRow.holds Try.pinned (OpenSpec.upto trigPlaysSpec)

/-- 'belfrylaw09.LiftUnlike', WHERE WHAT IT READS IS OF BULK AT MOST 1048576: true; the input reads as it did. -/
def liftUnlikeUptoRow : OpenClaim := { program := "ytlfiaaoegeodnaa", sum := "43ea9076d7fffc552fdebda3ce43aa49c2013a071831ca628b39b05ae89306ba", func := "belfry/belfrylaw09.LiftUnlike", spec := "liftUnlike", unfollowed := true, recurses := true, apart := false, narrowed := true }
def LiftUnlikeUptoSaid : Prop := liftUnlikeUptoRow.holds Try.pinned (OpenSpec.upto liftUnlikeSpec)

/-- 'belfrylaw09.LiftQuarters', WHERE WHAT IT READS IS OF BULK AT MOST 1048576: true; the input reads as it did. -/
def liftQuartersUptoRow : OpenClaim := { program := "ytlfiaaoegeodnaa", sum := "43ea9076d7fffc552fdebda3ce43aa49c2013a071831ca628b39b05ae89306ba", func := "belfry/belfrylaw09.LiftQuarters", spec := "liftQuarters", unfollowed := true, recurses := true, apart := false, narrowed := true }
def LiftQuartersUptoSaid : Prop := liftQuartersUptoRow.holds Try.pinned (OpenSpec.upto liftQuartersSpec)

/-- 'belfrylaw09.LiftSize', WHERE WHAT IT READS IS OF BULK AT MOST 1048576: true; the input reads as it did. -/
def liftSizeUptoRow : OpenClaim := { program := "ytlfiaaoegeodnaa", sum := "43ea9076d7fffc552fdebda3ce43aa49c2013a071831ca628b39b05ae89306ba", func := "belfry/belfrylaw09.LiftSize", spec := "liftSize", unfollowed := true, recurses := true, apart := false, narrowed := true }
def LiftSizeUptoSaid : Prop := liftSizeUptoRow.holds Try.pinned (OpenSpec.upto liftSizeSpec)

/-- 'belfrylaw09.LiftParts', WHERE WHAT IT READS IS OF BULK AT MOST 1048576: true; the input reads as it did. -/
def liftPartsUptoRow : OpenClaim := { program := "ytlfiaaoegeodnaa", sum := "43ea9076d7fffc552fdebda3ce43aa49c2013a071831ca628b39b05ae89306ba", func := "belfry/belfrylaw09.LiftParts", spec := "liftParts", unfollowed := true, recurses := true, apart := false, narrowed := true }
def LiftPartsUptoSaid : Prop := liftPartsUptoRow.holds Try.pinned (OpenSpec.upto liftPartsSpec)

/-- 'belfrylaw09.LiftTwice', WHERE WHAT IT READS IS OF BULK AT MOST 1048576: true; the input reads as it did. -/
def liftTwiceUptoRow : OpenClaim := { program := "ytlfiaaoegeodnaa", sum := "43ea9076d7fffc552fdebda3ce43aa49c2013a071831ca628b39b05ae89306ba", func := "belfry/belfrylaw09.LiftTwice", spec := "liftTwice", unfollowed := true, recurses := true, apart := false, narrowed := true }
def LiftTwiceUptoSaid : Prop := liftTwiceUptoRow.holds Try.pinned (OpenSpec.upto liftTwiceSpec)

/-- 'belfrylaw09.LiftBack', WHERE WHAT IT READS IS OF BULK AT MOST 1048576: true; the input reads as it did. -/
def liftBackUptoRow : OpenClaim := { program := "ytlfiaaoegeodnaa", sum := "43ea9076d7fffc552fdebda3ce43aa49c2013a071831ca628b39b05ae89306ba", func := "belfry/belfrylaw09.LiftBack", spec := "liftBack", unfollowed := true, recurses := true, apart := false, narrowed := true }
def LiftBackUptoSaid : Prop := liftBackUptoRow.holds Try.pinned (OpenSpec.upto liftBackSpec)

/-- 'belfrylaw09.LiftPlays', WHERE WHAT IT READS IS OF BULK AT MOST 1048576: true; the input reads as it did. -/
def liftPlaysUptoRow : OpenClaim := { program := "ytlfiaaoegeodnaa", sum := "43ea9076d7fffc552fdebda3ce43aa49c2013a071831ca628b39b05ae89306ba", func := "belfry/belfrylaw09.LiftPlays", spec := "liftPlays", unfollowed := true, recurses := true, apart := false, narrowed := true }
def LiftPlaysUptoSaid : Prop := liftPlaysUptoRow.holds Try.pinned (OpenSpec.upto liftPlaysSpec)

/-- 'belfrylaw10.DctBack', WHERE WHAT IT READS IS OF BULK AT MOST 1048576: true; the input reads as it did. -/
def dctBackUptoRow : OpenClaim := { program := "ytlfiaaoegeodnaa", sum := "43ea9076d7fffc552fdebda3ce43aa49c2013a071831ca628b39b05ae89306ba", func := "belfry/belfrylaw10.DctBack", spec := "dctBack", unfollowed := true, recurses := true, apart := false, narrowed := true }
def DctBackUptoSaid : Prop := dctBackUptoRow.holds Try.pinned (OpenSpec.upto dctBackSpec)

/-- 'belfrylaw10.DctUnlike', WHERE WHAT IT READS IS OF BULK AT MOST 1048576: true; the input reads as it did. -/
def dctUnlikeUptoRow : OpenClaim := { program := "ytlfiaaoegeodnaa", sum := "43ea9076d7fffc552fdebda3ce43aa49c2013a071831ca628b39b05ae89306ba", func := "belfry/belfrylaw10.DctUnlike", spec := "dctUnlike", unfollowed := true, recurses := true, apart := false, narrowed := true }
def DctUnlikeUptoSaid : Prop := dctUnlikeUptoRow.holds Try.pinned (OpenSpec.upto dctUnlikeSpec)

/-- 'belfrylaw10.DctSize', WHERE WHAT IT READS IS OF BULK AT MOST 1048576: true; the input reads as it did. -/
def dctSizeUptoRow : OpenClaim := { program := "ytlfiaaoegeodnaa", sum := "43ea9076d7fffc552fdebda3ce43aa49c2013a071831ca628b39b05ae89306ba", func := "belfry/belfrylaw10.DctSize", spec := "dctSize", unfollowed := true, recurses := true, apart := false, narrowed := true }
def DctSizeUptoSaid : Prop := dctSizeUptoRow.holds Try.pinned (OpenSpec.upto dctSizeSpec)

/-- 'belfrylaw10.DctPlays', WHERE WHAT IT READS IS OF BULK AT MOST 1048576: true; the input reads as it did. -/
def dctPlaysUptoRow : OpenClaim := { program := "ytlfiaaoegeodnaa", sum := "43ea9076d7fffc552fdebda3ce43aa49c2013a071831ca628b39b05ae89306ba", func := "belfry/belfrylaw10.DctPlays", spec := "dctPlays", unfollowed := true, recurses := true, apart := false, narrowed := true }
def DctPlaysUptoSaid : Prop := dctPlaysUptoRow.holds Try.pinned (OpenSpec.upto dctPlaysSpec)

/-- 'belfrylaw10.DctSmall', WHERE WHAT IT READS IS OF BULK AT MOST 1048576: true; the input reads as it did. -/
def dctSmallUptoRow : OpenClaim := { program := "ytlfiaaoegeodnaa", sum := "43ea9076d7fffc552fdebda3ce43aa49c2013a071831ca628b39b05ae89306ba", func := "belfry/belfrylaw10.DctSmall", spec := "dctSmall", unfollowed := true, recurses := true, apart := false, narrowed := true }
def DctSmallUptoSaid : Prop := dctSmallUptoRow.holds Try.pinned (OpenSpec.upto dctSmallSpec)

/-- 'belfrylaw11.LapBack', WHERE WHAT IT READS IS OF BULK AT MOST 1048576: true; the input reads as it did. -/
def lapBackUptoRow : OpenClaim := { program := "ytlfiaaoegeodnaa", sum := "43ea9076d7fffc552fdebda3ce43aa49c2013a071831ca628b39b05ae89306ba", func := "belfry/belfrylaw11.LapBack", spec := "lapBack", unfollowed := true, recurses := true, apart := false, narrowed := true }
def LapBackUptoSaid : Prop := lapBackUptoRow.holds Try.pinned (OpenSpec.upto lapBackSpec)

/-- 'belfrylaw11.LapAlone', WHERE WHAT IT READS IS OF BULK AT MOST 1048576: true; the input reads as it did. -/
def lapAloneUptoRow : OpenClaim := { program := "ytlfiaaoegeodnaa", sum := "43ea9076d7fffc552fdebda3ce43aa49c2013a071831ca628b39b05ae89306ba", func := "belfry/belfrylaw11.LapAlone", spec := "lapAlone", unfollowed := true, recurses := true, apart := false, narrowed := true }
def LapAloneUptoSaid : Prop := lapAloneUptoRow.holds Try.pinned (OpenSpec.upto lapAloneSpec)

/-- 'belfrylaw11.LapSeams', WHERE WHAT IT READS IS OF BULK AT MOST 1048576: true; the input reads as it did. -/
def lapSeamsUptoRow : OpenClaim := { program := "ytlfiaaoegeodnaa", sum := "43ea9076d7fffc552fdebda3ce43aa49c2013a071831ca628b39b05ae89306ba", func := "belfry/belfrylaw11.LapSeams", spec := "lapSeams", unfollowed := true, recurses := true, apart := false, narrowed := true }
def LapSeamsUptoSaid : Prop := lapSeamsUptoRow.holds Try.pinned (OpenSpec.upto lapSeamsSpec)

/-- 'belfrylaw11.LapPlays', WHERE WHAT IT READS IS OF BULK AT MOST 1048576: true; the input reads as it did. -/
def lapPlaysUptoRow : OpenClaim := { program := "ytlfiaaoegeodnaa", sum := "43ea9076d7fffc552fdebda3ce43aa49c2013a071831ca628b39b05ae89306ba", func := "belfry/belfrylaw11.LapPlays", spec := "lapPlays", unfollowed := true, recurses := true, apart := false, narrowed := true }
def LapPlaysUptoSaid : Prop := lapPlaysUptoRow.holds Try.pinned (OpenSpec.upto lapPlaysSpec)

/-- 'belfrylaw11.LapNear', WHERE WHAT IT READS IS OF BULK AT MOST 1048576: true; the input reads as it did. -/
def lapNearUptoRow : OpenClaim := { program := "ytlfiaaoegeodnaa", sum := "43ea9076d7fffc552fdebda3ce43aa49c2013a071831ca628b39b05ae89306ba", func := "belfry/belfrylaw11.LapNear", spec := "lapNear", unfollowed := true, recurses := true, apart := false, narrowed := true }
def LapNearUptoSaid : Prop := lapNearUptoRow.holds Try.pinned (OpenSpec.upto lapNearSpec)

/-- 'belfrylaw11.LapCounts', WHERE WHAT IT READS IS OF BULK AT MOST 1048576: true; the input reads as it did. -/
def lapCountsUptoRow : OpenClaim := { program := "ytlfiaaoegeodnaa", sum := "43ea9076d7fffc552fdebda3ce43aa49c2013a071831ca628b39b05ae89306ba", func := "belfry/belfrylaw11.LapCounts", spec := "lapCounts", unfollowed := true, recurses := true, apart := false, narrowed := true }
def LapCountsUptoSaid : Prop := lapCountsUptoRow.holds Try.pinned (OpenSpec.upto lapCountsSpec)

end Rows
end Go.Proofs.Ytlfiaaoegeodnaa
