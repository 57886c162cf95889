/- The facts of this seat's head that every row asks: the words of its head, spelt sign by sign. -/
import Derived.Test.YtiigipnfnfpepaaGreatDoorRows
import Derived.ProofKit
namespace Go.Proofs.YtiigipnfnfpepaaGreatDoor

def headSigns : List Char := ([
 104, 97, 114, 110, 101, 115, 115, 32, 50, 51, 102, 97, 101, 50, 98, 49, 48, 99, 52, 51, 48, 98, 56, 97, 101, 52, 57, 100, 54, 98, 50, 57, 101, 97, 97, 102, 99, 102, 48, 48,
 56, 98, 52, 53, 52, 51, 54, 51, 53, 55, 57, 54, 54, 50, 56, 55, 101, 53, 98, 97, 55, 52, 55, 54, 51, 51, 99, 100, 49, 48, 102, 100, 32, 99, 117, 116, 32, 97, 116, 32,
 98, 101, 108, 102, 114, 121, 47, 98, 101, 108, 102, 114, 121, 116, 111, 112, 46, 87, 104, 111, 108, 101, 66, 101, 103, 105, 110, 115, 32, 98, 101, 108, 102, 114, 121, 47, 98, 101, 108, 102,
 114, 121, 116, 111, 112, 46, 87, 104, 111, 108, 101, 77, 97, 114, 107, 115] : List Nat).map Char.ofNat
theorem head_text : Tryz.prog.initOrder = String.ofList headSigns := by kernel_rfl
theorem head_signs : Tryz.prog.initOrder.toList = headSigns := by rw [head_text, String.toList_ofList]

def word (l : List Nat) : List Char := l.map Char.ofNat
def headRest : List (List Char) := [word [97, 116],
 word [98, 101, 108, 102, 114, 121, 47, 98, 101, 108, 102, 114, 121, 116, 111, 112, 46, 87, 104, 111, 108, 101, 66, 101, 103, 105, 110, 115],
 word [98, 101, 108, 102, 114, 121, 47, 98, 101, 108, 102, 114, 121, 116, 111, 112, 46, 87, 104, 111, 108, 101, 77, 97, 114, 107, 115]]
theorem head_words : behindMainWord (wordsSigns Tryz.prog.initOrder.toList) = "cut".toList :: headRest := by
 rw [head_signs]
 kernel_rfl

theorem strip_cut (r : List (List Char)) : stripLifts liftWords ("cut".toList :: r) = ([], "cut".toList :: r) := by rfl
theorem mayEnter_of (P : Program) (r : List (List Char)) (h : behindMainWord (wordsSigns P.initOrder.toList) = "cut".toList :: r) (h1 : P.laysLater = false) (h2 : P.bearsReflect = false) (h3 : P.doorFits [] = true) : P.mayEnter = true := by
 unfold Program.mayEnter
 rw [h]
 simp only [strip_cut, h1, h2, h3]
 rfl
theorem liftsFinal_of (P : Program) (r : List (List Char)) (h : behindMainWord (wordsSigns P.initOrder.toList) = "cut".toList :: r) : P.liftsFinal = false := by
 unfold Program.liftsFinal Program.headLifts
 rw [h]
 simp only [strip_cut]
 rfl
theorem make_of (P : Program) (r : List (List Char)) (h : behindMainWord (wordsSigns P.initOrder.toList) = "cut".toList :: r) : P.make = some .cut := by
 unfold Program.make
 rw [h]
 rfl
theorem head_mayEnter : Tryz.prog.mayEnter = true := mayEnter_of _ _ head_words (by kernel_rfl) (by kernel_rfl) (by kernel_rfl)
theorem head_liftsFinal : Tryz.prog.liftsFinal = false := liftsFinal_of _ _ head_words
theorem head_make : Tryz.prog.make = some .cut := make_of _ _ head_words
theorem and_true {a b : Bool} (ha : a = true) (hb : b = true) : (a && b) = true := by rw [ha, hb]; rfl
end Go.Proofs.YtiigipnfnfpepaaGreatDoor
