/- Plain laws of the wheel: 16 points, each two numbers, as 32 numbers. No Go in it. -/
import Derived.Test.YtlfiaaoegeodnaaLiftS
namespace Go.Proofs.Ytlfiaaoegeodnaa

/-- all numbers are from -c to c -/
def AllIn (c : Int) (zs : List Int) : Prop := ∀ z ∈ zs, -c ≤ z ∧ z ≤ c
theorem allIn_get {c : Int} {zs : List Int} (h : AllIn c zs) (i : Nat) (hc : 0 ≤ c := by omega) : -c ≤ zs.getD i 0 ∧ zs.getD i 0 ≤ c := by
  rw [List.getD_eq_getElem?_getD]
  cases hi : zs[i]? with
  | none => simp; omega
  | some z => exact h z (List.mem_of_getElem? hi)
theorem allIn_set {c : Int} {zs : List Int} (h : AllIn c zs) (i : Nat) {v : Int} (h0 : -c ≤ v) (h1 : v ≤ c) : AllIn c (zs.set i v) := by
  intro z hz
  rcases List.mem_or_eq_of_mem_set hz with hz | rfl
  · exact h z hz
  · exact ⟨h0, h1⟩
theorem allIn_mono {c d : Int} {zs : List Int} (h : AllIn c zs) (hcd : c ≤ d) : AllIn d zs := fun z hz => by have := h z hz; omega

def wTurn (i : Nat) (k : Int) (zs : List Int) : List Int :=
  (zs.set (i * 2) (turnL (zs.getD (i * 2) 0) (zs.getD (i * 2 + 1) 0) k).1).set (i * 2 + 1) (turnL (zs.getD (i * 2) 0) (zs.getD (i * 2 + 1) 0) k).2
def wBack (i : Nat) (k : Int) (zs : List Int) : List Int :=
  (zs.set (i * 2) (backL (zs.getD (i * 2) 0) (zs.getD (i * 2 + 1) 0) k).1).set (i * 2 + 1) (backL (zs.getD (i * 2) 0) (zs.getD (i * 2 + 1) 0) k).2
/-- two numbers crossed -/
def wCross1 (p q : Nat) (zs : List Int) : List Int :=
  (zs.set p (turnL (zs.getD p 0) (zs.getD q 0) 64).2).set q (turnL (zs.getD p 0) (zs.getD q 0) 64).1
def wUncross1 (p q : Nat) (zs : List Int) : List Int :=
  (zs.set p (backL (zs.getD q 0) (zs.getD p 0) 64).1).set q (backL (zs.getD q 0) (zs.getD p 0) 64).2
theorem wCross1_in {p q : Nat} {c : Int} {zs : List Int} (h : AllIn c zs) (hc : 0 ≤ c) : AllIn (c + c / 2 + 2) (wCross1 p q zs) := by
  have h1 := allIn_get h p
  have h2 := allIn_get h q
  have h3 := turnL_in (a := zs.getD p 0) (b := zs.getD q 0) (k := 64) hc h1.1 h1.2 h2.1 h2.2
  exact allIn_set (allIn_set (allIn_mono h (by omega)) p h3.2.2.1 h3.2.2.2) q h3.1 h3.2.1
theorem wUncross1_in {p q : Nat} {c : Int} {zs : List Int} (h : AllIn c zs) (hc : 0 ≤ c) : AllIn (c + c / 2 + 2) (wUncross1 p q zs) := by
  have h1 := allIn_get h p
  have h2 := allIn_get h q
  have h3 := backL_in (a := zs.getD q 0) (b := zs.getD p 0) (k := 64) hc h2.1 h2.2 h1.1 h1.2
  exact allIn_set (allIn_set (allIn_mono h (by omega)) p h3.1 h3.2.1) q h3.2.2.1 h3.2.2.2
def wCross (i j : Nat) (zs : List Int) : List Int := wCross1 (i * 2 + 1) (j * 2 + 1) (wCross1 (i * 2) (j * 2) zs)
def wUncross (i j : Nat) (zs : List Int) : List Int := wUncross1 (i * 2 + 1) (j * 2 + 1) (wUncross1 (i * 2) (j * 2) zs)

end Go.Proofs.Ytlfiaaoegeodnaa
