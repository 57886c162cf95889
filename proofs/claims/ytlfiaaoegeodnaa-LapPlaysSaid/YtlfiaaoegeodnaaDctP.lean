/- What dct computes, in plain Lean. No Go in it. -/
import Derived.Test.YtlfiaaoegeodnaaDctW
namespace Go.Proofs.Ytlfiaaoegeodnaa

/-- the first n points, turned, on the way in -/
def inTo (zs : List Int) : Nat → List Int
  | 0 => List.replicate 32 0
  | n + 1 => ((inTo zs n).set (n * 2) (turnL (zs.getD (2 * n) 0) (zs.getD (31 - 2 * n) 0) (edgeN n)).1).set (n * 2 + 1) (turnL (zs.getD (2 * n) 0) (zs.getD (31 - 2 * n) 0) (edgeN n)).2
def mid4 (zs : List Int) : List Int := stageTo wAhead 2 8 (stageTo wAhead 4 4 (stageTo wAhead 8 2 (stageTo wAhead 16 1 zs)))
/-- the first n points turned, on the way out -/
def turnTo (zs : List Int) : Nat → List Int
  | 0 => zs
  | n + 1 => wTurn (flipN n) (edgeN n) (turnTo zs n)
def outTo (st zs : List Int) : Nat → List Int
  | 0 => zs
  | n + 1 => ((outTo st zs n).set (2 * n) ((turnTo st (n + 1)).getD (flipN n * 2) 0)).set (31 - 2 * n) (-(turnTo st (n + 1)).getD (flipN n * 2 + 1) 0)
def wavesL (zs : List Int) : List Int := outTo (mid4 (inTo zs 16)) zs 16

def binTo (zs : List Int) : Nat → List Int
  | 0 => List.replicate 32 0
  | n + 1 => ((binTo zs n).set (flipN n * 2) (backL (zs.getD (2 * n) 0) (-zs.getD (31 - 2 * n) 0) (edgeN n)).1).set (flipN n * 2 + 1) (backL (zs.getD (2 * n) 0) (-zs.getD (31 - 2 * n) 0) (edgeN n)).2
def bmid4 (zs : List Int) : List Int := stageTo wBehind 16 1 (stageTo wBehind 8 2 (stageTo wBehind 4 4 (stageTo wBehind 2 8 zs)))
def backTo (zs : List Int) : Nat → List Int
  | 0 => zs
  | n + 1 => wBack n (edgeN n) (backTo zs n)
def boutTo (st zs : List Int) : Nat → List Int
  | 0 => zs
  | n + 1 => ((boutTo st zs n).set (2 * n) ((backTo st (n + 1)).getD (n * 2) 0)).set (31 - 2 * n) ((backTo st (n + 1)).getD (n * 2 + 1) 0)
def dbackL (zs : List Int) : List Int := boutTo (bmid4 (binTo zs 16)) zs 16

/-- a stage's numbers stay small enough, at every step -/
def StageFit (F : Nat → Nat → Int → List Int → List Int) (s n : Nat) (zs : List Int) : Prop := ∀ t m, t < n → m ≤ s / 2 → Fit (stageIn F s (t * s) m (stageTo F s t zs))
def WavesFit (zs : List Int) : Prop :=
  (∀ n, n ≤ 16 → Fit (inTo zs n)) ∧ StageFit wAhead 16 1 (inTo zs 16) ∧ StageFit wAhead 8 2 (stageTo wAhead 16 1 (inTo zs 16)) ∧ StageFit wAhead 4 4 (stageTo wAhead 8 2 (stageTo wAhead 16 1 (inTo zs 16)))
  ∧ StageFit wAhead 2 8 (stageTo wAhead 4 4 (stageTo wAhead 8 2 (stageTo wAhead 16 1 (inTo zs 16)))) ∧ (∀ n, n ≤ 16 → Fit (turnTo (mid4 (inTo zs 16)) n))
def BackFit (zs : List Int) : Prop :=
  (∀ n, n ≤ 16 → Fit (binTo zs n)) ∧ StageFit wBehind 2 8 (binTo zs 16) ∧ StageFit wBehind 4 4 (stageTo wBehind 2 8 (binTo zs 16)) ∧ StageFit wBehind 8 2 (stageTo wBehind 4 4 (stageTo wBehind 2 8 (binTo zs 16)))
  ∧ StageFit wBehind 16 1 (stageTo wBehind 8 2 (stageTo wBehind 4 4 (stageTo wBehind 2 8 (binTo zs 16)))) ∧ (∀ n, n ≤ 16 → Fit (backTo (bmid4 (binTo zs 16)) n))

theorem stageIn_len {F : Nat → Nat → Int → List Int → List Int} (hF : ∀ i j k zs, (F i j k zs).length = zs.length) (s p m : Nat) (zs : List Int) : (stageIn F s p m zs).length = zs.length := by
  induction m with
  | zero => rfl
  | succ m ih => rw [stageIn, hF, ih]
theorem stageTo_len {F : Nat → Nat → Int → List Int → List Int} (hF : ∀ i j k zs, (F i j k zs).length = zs.length) (s t : Nat) (zs : List Int) : (stageTo F s t zs).length = zs.length := by
  induction t with
  | zero => rfl
  | succ t ih => rw [stageTo, stageIn_len hF, ih]
theorem inTo_len (zs : List Int) (n : Nat) : (inTo zs n).length = 32 := by
  induction n with
  | zero => rfl
  | succ n ih => simp [inTo, ih]
theorem binTo_len (zs : List Int) (n : Nat) : (binTo zs n).length = 32 := by
  induction n with
  | zero => rfl
  | succ n ih => simp [binTo, ih]
theorem turnTo_len (zs : List Int) (n : Nat) : (turnTo zs n).length = zs.length := by
  induction n with
  | zero => rfl
  | succ n ih => simp [turnTo, wTurn_len, ih]
theorem backTo_len (zs : List Int) (n : Nat) : (backTo zs n).length = zs.length := by
  induction n with
  | zero => rfl
  | succ n ih => simp [backTo, wBack_len, ih]
theorem outTo_len (st zs : List Int) (n : Nat) : (outTo st zs n).length = zs.length := by
  induction n with
  | zero => rfl
  | succ n ih => simp [outTo, ih]
theorem boutTo_len (st zs : List Int) (n : Nat) : (boutTo st zs n).length = zs.length := by
  induction n with
  | zero => rfl
  | succ n ih => simp [boutTo, ih]
theorem mid4_len (zs : List Int) : (mid4 zs).length = zs.length := by simp only [mid4, stageTo_len wAhead_len]
theorem bmid4_len (zs : List Int) : (bmid4 zs).length = zs.length := by simp only [bmid4, stageTo_len wBehind_len]
theorem wavesL_len (zs : List Int) : (wavesL zs).length = zs.length := outTo_len _ _ _
theorem dbackL_len (zs : List Int) : (dbackL zs).length = zs.length := boutTo_len _ _ _

theorem getD_set_eq {zs : List Int} {i : Nat} (h : i < zs.length) (v : Int) : (zs.set i v).getD i 0 = v := by simp [List.getD_eq_getElem?_getD, h]
theorem getD_set_ne {zs : List Int} {i j : Nat} (h : i ≠ j) (v : Int) : (zs.set i v).getD j 0 = zs.getD j 0 := by simp [List.getD_eq_getElem?_getD, h]

/-- a turn of a point that was just laid -/
theorem wTurn_sets {zs : List Int} (hl : zs.length = 32) {i : Nat} (hi : i < 16) (a b k : Int) :
    wTurn i k ((zs.set (i * 2) a).set (i * 2 + 1) b) = (zs.set (i * 2) (turnL a b k).1).set (i * 2 + 1) (turnL a b k).2 := by
  unfold wTurn
  rw [getD_set_ne (by omega), getD_set_eq (by omega), getD_set_eq (by simp; omega)]
  rw [List.set_comm _ _ (show i * 2 + 1 ≠ i * 2 by omega), List.set_set, List.set_set]
theorem wBack_sets {zs : List Int} (hl : zs.length = 32) {i : Nat} (hi : i < 16) (a b k : Int) :
    wBack i k ((zs.set (i * 2) a).set (i * 2 + 1) b) = (zs.set (i * 2) (backL a b k).1).set (i * 2 + 1) (backL a b k).2 := by
  unfold wBack
  rw [getD_set_ne (by omega), getD_set_eq (by omega), getD_set_eq (by simp; omega)]
  rw [List.set_comm _ _ (show i * 2 + 1 ≠ i * 2 by omega), List.set_set, List.set_set]

/-- numbers small enough for the waves -/
def heldB (zs : List Int) : Bool := !(zs.any fun x => decide (x < -1073741824) || decide (1073741824 < x))
theorem held_in {zs : List Int} : heldB zs = true ↔ AllIn 1073741824 zs := by
  simp only [heldB, AllIn, Bool.not_eq_true', List.any_eq_false, Bool.or_eq_true, decide_eq_true_eq]
  constructor
  · intro h z hz; have := h z hz; omega
  · intro h z hz; have := h z hz; omega
end Go.Proofs.Ytlfiaaoegeodnaa
