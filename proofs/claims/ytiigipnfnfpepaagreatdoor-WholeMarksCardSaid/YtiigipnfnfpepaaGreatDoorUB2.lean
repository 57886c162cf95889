/- Contracts of dct: bits read backward, the edges' angles, steps and stages. What dct computes, in plain Lean. No Go in it. Plain laws of the wheel: what undoes what. No Go in it. Plain laws of dct: the -/
import Derived.Test.YtiigipnfnfpepaaGreatDoorUB1
import Derived.Deep.LoopGhost
import Derived.ChangeKeysEq
import Derived.Test.YtiigipnfnfpepaaGreatDoorUA
import Derived.Deep.RegionWith
import Derived.Deep.DrawnRows
import Derived.StillTailTactics
import Derived.Deep.RegionHeld3
import Derived.Deep.Cut
namespace Go.Proofs.YtiigipnfnfpepaaGreatDoor
open Go.RowKit

def flipN (k : Nat) : Nat := k % 2 * 8 + k / 2 % 2 * 4 + k / 4 % 2 * 2 + k / 8 % 2
theorem flip_lt (k : Nat) : flipN k < 16 := by unfold flipN; omega
def edgeN (n : Nat) : Int := -(8 * n + 2)

theorem flip_calls (k : Nat) (w : World) (h : k < 16) : Calls Tryz.prog 149 #[.int .i64 k] w fun e w' => e = .returned (.int .i64 (flipN k)) ∧ w = w' := by
 have hk : k = 0 ∨ k = 1 ∨ k = 2 ∨ k = 3 ∨ k = 4 ∨ k = 5 ∨ k = 6 ∨ k = 7 ∨ k = 8 ∨ k = 9 ∨ k = 10 ∨ k = 11 ∨ k = 12 ∨ k = 13 ∨ k = 14 ∨ k = 15 := by omega
 rcases hk with rfl | rfl | rfl | rfl | rfl | rfl | rfl | rfl | rfl | rfl | rfl | rfl | rfl | rfl | rfl | rfl <;>
  (go_enter Tryz.func149, Tryz.ntmps149; go_wp2; go_ret; exact ⟨rfl, rfl⟩)

set_option maxRecDepth 100000 in
theorem edge_calls (n : Nat) (w : World) (h : n < 16) : Calls Tryz.prog 146 #[.int .i64 n] w fun e w' => e = .returned (.int .i64 (edgeN n)) ∧ w = w' := by
 unfold edgeN
 go_enter Tryz.func146, Tryz.ntmps146
 go_wp2
 go_ret
 exact ⟨rfl, rfl⟩

def wAhead (i j : Nat) (k : Int) (zs : List Int) : List Int := wTurn j k (wCross i j zs)
theorem wCross_in {i j : Nat} {c : Int} {zs : List Int} (h : AllIn c zs) (hc : 0 ≤ c) : AllIn (2 * c + c / 2 + 8) (wCross i j zs) := by
 exact allIn_mono (wCross1_in (p := i * 2 + 1) (q := j * 2 + 1) (wCross1_in (p := i * 2) (q := j * 2) h hc) (by omega)) (by omega)
theorem wTurn_len (i : Nat) (k : Int) (zs : List Int) : (wTurn i k zs).length = zs.length := by simp [wTurn]
theorem wCross_len (i j : Nat) (zs : List Int) : (wCross i j zs).length = zs.length := by simp [wCross, wCross1]
theorem wAhead_len (i j : Nat) (k : Int) (zs : List Int) : (wAhead i j k zs).length = zs.length := by simp [wAhead, wTurn_len, wCross_len]
def Fit (zs : List Int) : Prop := AllIn 274877906944 zs

set_option maxRecDepth 100000 in
theorem ahead_calls (g i j : Nat) (k : Int) (zs : List Int) (w : World) (hb : Blk w g 226 (ints zs)) (hl : zs.length = 32) (hf : Fit zs) (hi : i < 16) (hj : j < 16) (hij : i ≠ j) (h0 : -9223372036854775808 ≤ k) (h1 : k ≤ 9223372036854775807) :
 Calls Tryz.prog 148 #[.pointer (some ⟨g, 0, none⟩), .int .i64 i, .int .i64 j, .int .i64 k] w (BlkTo 226 w g (wAhead i j k zs)) := by
 have c1 := wcross_calls g i j zs w hb hl hi hj hij (allIn_mono hf (by omega))
 have hf2 : AllIn 1099511627776 (wCross i j zs) := allIn_mono (wCross_in hf (by omega)) (by omega)
 have hl2 := (wCross_len i j zs).trans hl
 unfold wAhead
 generalize wCross i j zs = zs1 at *
 clear hb hl hf
 go_enter Tryz.func148, Tryz.ntmps148
 go_wp2_with (go_at_call 164; refine c1.mono ?_; rintro e w1 ⟨rfl, b1, g1⟩)
 refine (wturn_calls g j k zs1 _ b1 hl2 hj hf2 h0 h1).mono ?_
 rintro e w2 ⟨rfl, b2, g2⟩
 go_wp2_with fail
 go_end0
 exact ⟨rfl, b2, grown_trans g1 g2⟩

def stageIn (F : Nat → Nat → Int → List Int → List Int) (s p : Nat) : Nat → List Int → List Int
 | 0, zs => zs
 | m + 1, zs => F (p + m) (p + m + s / 2) (-((m : Int) * 512 / s)) (stageIn F s p m zs)
def stageTo (F : Nat → Nat → Int → List Int → List Int) (s : Nat) : Nat → List Int → List Int
 | 0, zs => zs
 | t + 1, zs => stageIn F s (t * s) (s / 2) (stageTo F s t zs)

end Go.Proofs.YtiigipnfnfpepaaGreatDoor
namespace Go.Proofs.YtiigipnfnfpepaaGreatDoor

def inTo (zs : List Int) : Nat → List Int
 | 0 => List.replicate 32 0
 | n + 1 => ((inTo zs n).set (n * 2) (turnL (zs.getD (2 * n) 0) (zs.getD (31 - 2 * n) 0) (edgeN n)).1).set (n * 2 + 1) (turnL (zs.getD (2 * n) 0) (zs.getD (31 - 2 * n) 0) (edgeN n)).2
def mid4 (zs : List Int) : List Int := stageTo wAhead 2 8 (stageTo wAhead 4 4 (stageTo wAhead 8 2 (stageTo wAhead 16 1 zs)))
def turnTo (zs : List Int) : Nat → List Int
 | 0 => zs
 | n + 1 => wTurn (flipN n) (edgeN n) (turnTo zs n)
def outTo (st zs : List Int) : Nat → List Int
 | 0 => zs
 | n + 1 => ((outTo st zs n).set (2 * n) ((turnTo st (n + 1)).getD (flipN n * 2) 0)).set (31 - 2 * n) (-(turnTo st (n + 1)).getD (flipN n * 2 + 1) 0)
def wavesL (zs : List Int) : List Int := outTo (mid4 (inTo zs 16)) zs 16

def StageFit (F : Nat → Nat → Int → List Int → List Int) (s n : Nat) (zs : List Int) : Prop := ∀ t m, t < n → m ≤ s / 2 → Fit (stageIn F s (t * s) m (stageTo F s t zs))
def WavesFit (zs : List Int) : Prop :=
 (∀ n, n ≤ 16 → Fit (inTo zs n)) ∧ StageFit wAhead 16 1 (inTo zs 16) ∧ StageFit wAhead 8 2 (stageTo wAhead 16 1 (inTo zs 16)) ∧ StageFit wAhead 4 4 (stageTo wAhead 8 2 (stageTo wAhead 16 1 (inTo zs 16)))
 ∧ StageFit wAhead 2 8 (stageTo wAhead 4 4 (stageTo wAhead 8 2 (stageTo wAhead 16 1 (inTo zs 16)))) ∧ (∀ n, n ≤ 16 → Fit (turnTo (mid4 (inTo zs 16)) n))
theorem stageIn_len {F : Nat → Nat → Int → List Int → List Int} (hF : ∀ i j k zs, (F i j k zs).length = zs.length) (s p m : Nat) (zs : List Int) : (stageIn F s p m zs).length = zs.length := by
 induction m with
 | zero => rfl
 | succ m ih => rw [stageIn, hF, ih]
theorem stageTo_len {F : Nat → Nat → Int → List Int → List Int} (hF : ∀ i j k zs, (F i j k zs).length = zs.length) (s t : Nat) (zs : List Int) : (stageTo F s t zs).length = zs.length := by
 induction t with
 | zero => rfl
 | succ t ih => rw [stageTo, stageIn_len hF, ih]
theorem inTo_len (zs : List Int) (n : Nat) : (inTo zs n).length = 32 := by
 induction n with
 | zero => rfl
 | succ n ih => simp [inTo, ih]
theorem turnTo_len (zs : List Int) (n : Nat) : (turnTo zs n).length = zs.length := by
 induction n with
 | zero => rfl
 | succ n ih => simp [turnTo, wTurn_len, ih]
theorem outTo_len (st zs : List Int) (n : Nat) : (outTo st zs n).length = zs.length := by
 induction n with
 | zero => rfl
 | succ n ih => simp [outTo, ih]
theorem wavesL_len (zs : List Int) : (wavesL zs).length = zs.length := outTo_len _ _ _
theorem getD_set_eq {zs : List Int} {i : Nat} (h : i < zs.length) (v : Int) : (zs.set i v).getD i 0 = v := by simp [List.getD_eq_getElem?_getD, h]
theorem getD_set_ne {zs : List Int} {i j : Nat} (h : i ≠ j) (v : Int) : (zs.set i v).getD j 0 = zs.getD j 0 := by simp [List.getD_eq_getElem?_getD, h]

theorem wTurn_sets {zs : List Int} (hl : zs.length = 32) {i : Nat} (hi : i < 16) (a b k : Int) :
 wTurn i k ((zs.set (i * 2) a).set (i * 2 + 1) b) = (zs.set (i * 2) (turnL a b k).1).set (i * 2 + 1) (turnL a b k).2 := by
 unfold wTurn
 rw [getD_set_ne (by omega), getD_set_eq (by omega), getD_set_eq (by simp; omega)]
 rw [List.set_comm _ _ (show i * 2 + 1 ≠ i * 2 by omega), List.set_set, List.set_set]
def heldB (zs : List Int) : Bool := !(zs.any fun x => decide (x < -1073741824) || decide (1073741824 < x))
theorem held_in {zs : List Int} : heldB zs = true ↔ AllIn 1073741824 zs := by
 simp only [heldB, AllIn, Bool.not_eq_true', List.any_eq_false, Bool.or_eq_true, decide_eq_true_eq]
 constructor
 · intro h z hz; have := h z hz; omega
 · intro h z hz; have := h z hz; omega
end Go.Proofs.YtiigipnfnfpepaaGreatDoor
namespace Go.Proofs.YtiigipnfnfpepaaGreatDoor

def op2 (f : Int → Int → Int × Int) (p q : Nat) (zs : List Int) : List Int := (zs.set p (f (zs.getD p 0) (zs.getD q 0)).1).set q (f (zs.getD p 0) (zs.getD q 0)).2
theorem op2_len (f : Int → Int → Int × Int) (p q : Nat) (zs : List Int) : (op2 f p q zs).length = zs.length := by simp [op2]
def fT (k a b : Int) : Int × Int := turnL a b k
def fB (k a b : Int) : Int × Int := backL a b k
def fC (a b : Int) : Int × Int := ((turnL a b 64).2, (turnL a b 64).1)
def fU (a b : Int) : Int × Int := backL b a 64
abbrev Step := Nat → Nat → Int → List Int → List Int
def steps (F : Step) (L : List (Nat × Nat × Int)) (zs : List Int) : List Int := L.foldl (fun z t => F t.1 t.2.1 t.2.2 z) zs
end Go.Proofs.YtiigipnfnfpepaaGreatDoor
namespace Go.Proofs.YtiigipnfnfpepaaGreatDoor

end Go.Proofs.YtiigipnfnfpepaaGreatDoor
namespace Go.Proofs.YtiigipnfnfpepaaGreatDoor

def sumN (f : Nat → Int) : Nat → Int
 | 0 => 0
 | n + 1 => sumN f n + f n
def sq (zs : List Int) (i : Nat) : Int := zs.getD i 0 * zs.getD i 0
def T (zs : List Int) : Int := sumN (sq zs) 32
theorem sqz_nonneg (zs : List Int) (i : Nat) : 0 ≤ sq zs i := by
 unfold sq
 rcases Int.le_total 0 (zs.getD i 0) with h | h
 · exact Int.mul_nonneg h h
 · exact Int.mul_nonneg_of_nonpos_of_nonpos h h
theorem sumN_nonneg {f : Nat → Int} (h : ∀ i, 0 ≤ f i) (n : Nat) : 0 ≤ sumN f n := by
 induction n with
 | zero => exact Int.le_refl 0
 | succ n ih => have := h n; rw [sumN]; omega
theorem T_nonneg (zs : List Int) : 0 ≤ T zs := sumN_nonneg (sqz_nonneg zs) 32
theorem sumN_set (zs : List Int) {i : Nat} (hi : i < zs.length) (v : Int) (n : Nat) : sumN (sq (zs.set i v)) n = sumN (sq zs) n + if i < n then v * v - sq zs i else 0 := by
 induction n with
 | zero => rfl
 | succ n ih =>
  rw [sumN, sumN, ih]
  by_cases e : i = n
  · subst e
    rw [if_neg (by omega), if_pos (by omega)]
    unfold sq
    rw [getD_set_eq hi]
    omega
  · have : sq (zs.set i v) n = sq zs n := by unfold sq; rw [getD_set_ne e]
    rw [this]
    by_cases h : i < n
    · rw [if_pos h, if_pos (by omega)]; omega
    · rw [if_neg h, if_neg (by omega)]; omega
theorem T_set {zs : List Int} (hl : zs.length = 32) {i : Nat} (hi : i < 32) (v : Int) : T (zs.set i v) = T zs + v * v - sq zs i := by
 unfold T
 rw [sumN_set zs (by omega), if_pos hi]; omega
theorem sq_set_ne {zs : List Int} {i j : Nat} (h : i ≠ j) (v : Int) : sq (zs.set i v) j = sq zs j := by unfold sq; rw [getD_set_ne h]
theorem T_op2 {f : Int → Int → Int × Int} {p q : Nat} {zs : List Int} (hl : zs.length = 32) (hp : p < 32) (hq : q < 32) (hpq : p ≠ q) :
 T (op2 f p q zs) = T zs + (f (zs.getD p 0) (zs.getD q 0)).1 * (f (zs.getD p 0) (zs.getD q 0)).1 + (f (zs.getD p 0) (zs.getD q 0)).2 * (f (zs.getD p 0) (zs.getD q 0)).2 - sq zs p - sq zs q := by
 unfold op2
 rw [T_set (by simpa using hl) hq, T_set hl hp, sq_set_ne hpq]
 omega
theorem sq2_le {zs : List Int} (hl : zs.length = 32) {p q : Nat} (hp : p < 32) (hq : q < 32) (hpq : p ≠ q) : sq zs p + sq zs q ≤ T zs := by
 have h := T_nonneg ((zs.set p 0).set q 0)
 rw [T_set (by simpa using hl) hq, T_set hl hp, sq_set_ne hpq] at h
 omega
theorem sq_le {zs : List Int} (hl : zs.length = 32) {p : Nat} (hp : p < 32) : sq zs p ≤ T zs := by
 have h := T_nonneg (zs.set p 0)
 rw [T_set hl hp] at h
 omega
def Gr (A C : Int) (f : Int → Int → Int × Int) : Prop := ∀ a b, 1024 * ((f a b).1 * (f a b).1 + (f a b).2 * (f a b).2) ≤ A * (a * a + b * b) + C
theorem mul_self_nn (x : Int) : 0 ≤ x * x := by
 rcases Int.le_total 0 x with h | h
 · exact Int.mul_nonneg h h
 · exact Int.mul_nonneg_of_nonpos_of_nonpos h h
theorem great_of (a b : Int) : ∃ m : Int, 0 ≤ m ∧ -m ≤ a ∧ a ≤ m ∧ -m ≤ b ∧ b ≤ m ∧ m * m ≤ a * a + b * b := by
 have ha := mul_self_nn a
 have hb := mul_self_nn b
 have key : ∀ x y : Int, 0 ≤ y * y → x.natAbs ≥ y.natAbs → ∃ m : Int, 0 ≤ m ∧ -m ≤ x ∧ x ≤ m ∧ -m ≤ y ∧ y ≤ m ∧ m * m ≤ x * x + y * y := by
  intro x y hy h
  refine ⟨x.natAbs, by omega, by omega, by omega, by omega, by omega, ?_⟩
  have : (x.natAbs : Int) * x.natAbs = x * x := by
   rcases Int.natAbs_eq x with e | e
   · rw [← e]
   · rw [show (x.natAbs : Int) = -x by omega, Int.neg_mul_neg]
  omega
 by_cases h : a.natAbs ≥ b.natAbs
 · exact key a b hb h
 · obtain ⟨m, h0, h1, h2, h3, h4, h5⟩ := key b a ha (by omega)
   exact ⟨m, h0, h3, h4, h1, h2, by omega⟩
theorem turn_grows (a b k : Int) : ∃ m : Int, 0 ≤ m ∧ m * m ≤ a * a + b * b ∧ 1024 * ((turnL a b k).1 * (turnL a b k).1 + (turnL a b k).2 * (turnL a b k).2 - (a * a + b * b)) ≤ a * a + b * b + 8192 * m + 8192 := by
 obtain ⟨m, h0, h1, h2, h3, h4, h5⟩ := great_of a b
 exact ⟨m, h0, h5, (turnL_size h0 h1 h2 h3 h4 h5 k).1⟩
theorem back_grows (a b k : Int) : ∃ m : Int, 0 ≤ m ∧ m * m ≤ a * a + b * b ∧ 1024 * ((backL a b k).1 * (backL a b k).1 + (backL a b k).2 * (backL a b k).2 - (a * a + b * b)) ≤ a * a + b * b + 8192 * m + 8192 := by
 obtain ⟨m, h0, h1, h2, h3, h4, h5⟩ := great_of a b
 exact ⟨m, h0, h5, backL_size h0 h1 h2 h3 h4 h5 k⟩

def Grows (A C : Int) : Prop := (∀ k, Gr A C (fT k)) ∧ (∀ k, Gr A C (fB k)) ∧ Gr A C fC ∧ Gr A C fU

theorem room1 {m S : Int} (h : m * m ≤ S) : 8192 * m ≤ 8 * S + 2097152 := by
 have h1 := mul_self_nn (m - 512)
 have h2 : (m - 512) * (m - 512) = m * m - 2 * 512 * m + 512 * 512 := by grind
 omega
theorem grows1 : Grows 1033 2105344 := by
 have hT : ∀ k, Gr 1033 2105344 (fT k) := fun k a b => by
  obtain ⟨m, h0, h1, h2⟩ := turn_grows a b k
  have h3 := room1 h1
  show 1024 * ((turnL a b k).1 * (turnL a b k).1 + (turnL a b k).2 * (turnL a b k).2) ≤ _
  omega
 have hB : ∀ k, Gr 1033 2105344 (fB k) := fun k a b => by
  obtain ⟨m, h0, h1, h2⟩ := back_grows a b k
  have h3 := room1 h1
  show 1024 * ((backL a b k).1 * (backL a b k).1 + (backL a b k).2 * (backL a b k).2) ≤ _
  omega
 refine ⟨hT, hB, fun a b => ?_, fun a b => ?_⟩
 · have h : 1024 * ((turnL a b 64).1 * (turnL a b 64).1 + (turnL a b 64).2 * (turnL a b 64).2) ≤ 1033 * (a * a + b * b) + 2105344 := hT 64 a b
   show 1024 * ((turnL a b 64).2 * (turnL a b 64).2 + (turnL a b 64).1 * (turnL a b 64).1) ≤ _
   omega
 · have h : 1024 * ((backL b a 64).1 * (backL b a 64).1 + (backL b a 64).2 * (backL b a 64).2) ≤ 1033 * (b * b + a * a) + 2105344 := hB 64 b a
   show 1024 * ((backL b a 64).1 * (backL b a 64).1 + (backL b a 64).2 * (backL b a 64).2) ≤ _
   omega

theorem T_step {A C : Int} {f : Int → Int → Int × Int} (hf : Gr A C f) {p q : Nat} {zs : List Int} (hl : zs.length = 32) (hp : p < 32) (hq : q < 32) (hpq : p ≠ q) :
 1024 * T (op2 f p q zs) ≤ 1024 * T zs + (A * (sq zs p + sq zs q) + C) - 1024 * (sq zs p + sq zs q) := by
 have h := hf (zs.getD p 0) (zs.getD q 0)
 rw [T_op2 hl hp hq hpq]
 unfold sq
 omega

def bnd : Nat → Int
 | 0 => 147573952589676412928
 | n + 1 => bnd n + bnd n / 64 + 3000
theorem bnd_pos : ∀ n, 0 ≤ bnd n
 | 0 => by decide
 | n + 1 => by have := bnd_pos n; rw [bnd]; omega
theorem bnd_mono {m n : Nat} (h : m ≤ n) : bnd m ≤ bnd n := by
 induction n with
 | zero => have : m = 0 := by omega
           subst this; exact Int.le_refl _
 | succ n ih =>
  by_cases e : m = n + 1
  · subst e; exact Int.le_refl _
  · have := ih (by omega)
    have := bnd_pos n
    rw [bnd]; omega
theorem bnd_200 : bnd 200 ≤ 75557863725914323419136 := by decide +kernel
def TB (n : Nat) (zs : List Int) : Prop := zs.length = 32 ∧ T zs ≤ bnd n
theorem tb_mono {m n : Nat} {zs : List Int} (h : TB m zs) (hmn : m ≤ n) : TB n zs := ⟨h.1, Int.le_trans h.2 (bnd_mono hmn)⟩
theorem tb_op2 {f : Int → Int → Int × Int} (hf : Gr 1033 2105344 f) {n p q : Nat} {zs : List Int} (h : TB n zs) (hp : p < 32) (hq : q < 32) (hpq : p ≠ q) : TB (n + 1) (op2 f p q zs) := by
 have h1 := T_step hf h.1 hp hq hpq
 have h2 := sq2_le h.1 hp hq hpq
 have h3 := h.2
 have h4 := bnd_pos n
 refine ⟨(op2_len _ _ _ _).trans h.1, ?_⟩
 rw [bnd]
 omega
theorem tb_fit {n : Nat} {zs : List Int} (h : TB n zs) (hn : n ≤ 200) : Fit zs := by
 intro z hz
 obtain ⟨i, hi, rfl⟩ := List.mem_iff_getElem.1 hz
 have h1 := sq_le h.1 (p := i) (by have := h.1; omega)
 have h2 := h.2
 have h3 := bnd_mono hn
 have h4 := bnd_200
 have e : sq zs i = zs[i] * zs[i] := by unfold sq; rw [List.getD_eq_getElem?_getD, List.getElem?_eq_getElem hi]; rfl
 rw [e] at h1
 generalize zs[i] = z at *
 have key : z * z ≤ 75557863725914323419136 := by omega
 constructor
 · apply Classical.byContradiction
   intro hc
   have h5 : (274877906945 : Int) * 274877906945 ≤ (-z) * (-z) := Int.mul_le_mul (by omega) (by omega) (by omega) (by omega)
   rw [Int.neg_mul_neg] at h5
   omega
 · apply Classical.byContradiction
   intro hc
   have h5 : (274877906945 : Int) * 274877906945 ≤ z * z := Int.mul_le_mul (by omega) (by omega) (by omega) (by omega)
   omega
theorem tb_turn {n i : Nat} {k : Int} {zs : List Int} (h : TB n zs) (hi : i < 16) : TB (n + 1) (wTurn i k zs) := tb_op2 (grows1.1 k) h (by omega) (by omega) (by omega)
theorem tb_ahead {n i j : Nat} {k : Int} {zs : List Int} (h : TB n zs) (hi : i < 16) (hj : j < 16) (hij : i ≠ j) : TB (n + 3) (wAhead i j k zs) :=
 tb_op2 (grows1.1 k) (tb_op2 grows1.2.2.1 (tb_op2 grows1.2.2.1 h (by omega) (by omega) (by omega)) (by omega) (by omega) (by omega)) (by omega) (by omega) (by omega)
def Three (F : Step) : Prop := ∀ n i j k zs, TB n zs → i < 16 → j < 16 → i ≠ j → TB (n + 3) (F i j k zs)
theorem tb_in {F : Step} (hF : Three F) {c s p : Nat} {zs : List Int} (h : TB c zs) : ∀ m, (∀ x, x < m → p + x < 16 ∧ p + x + s / 2 < 16 ∧ 0 < s / 2) → TB (c + 3 * m) (stageIn F s p m zs)
 | 0, _ => h
 | m + 1, hb => by
  have h1 := hb m (by omega)
  exact tb_mono (hF _ _ _ _ _ (tb_in hF h m (fun x hx => hb x (by omega))) h1.1 h1.2.1 (by omega)) (by omega)
theorem tb_to {F : Step} (hF : Three F) {c s n : Nat} {zs : List Int} (h : TB c zs) (hb : ∀ t x, t < n → x < s / 2 → t * s + x < 16 ∧ t * s + x + s / 2 < 16 ∧ 0 < s / 2) : ∀ t, t ≤ n → TB (c + 3 * (t * (s / 2))) (stageTo F s t zs)
 | 0, _ => by rw [Nat.zero_mul]; exact h
 | t + 1, ht => by
  have h1 := tb_to hF h hb t (by omega)
  have h2 := tb_in hF (s := s) (p := t * s) h1 (s / 2) (fun x hx => hb t x (by omega) hx)
  rw [stageTo]
  exact tb_mono h2 (by have := Nat.add_mul t 1 (s / 2); omega)
theorem tb_stage {F : Step} (hF : Three F) {c s n : Nat} {zs : List Int} (h : TB c zs) (hb : ∀ t x, t < n → x < s / 2 → t * s + x < 16 ∧ t * s + x + s / 2 < 16 ∧ 0 < s / 2) (h8 : n * (s / 2) = 8) (hc : c ≤ 150) :
 StageFit F s n zs ∧ TB (c + 24) (stageTo F s n zs) := by
 refine ⟨fun t m ht hm => ?_, ?_⟩
 · have h1 := tb_in hF (s := s) (p := t * s) (tb_to hF h hb t (by omega)) m (fun x hx => hb t x ht (by omega))
   have h2 : (t + 1) * (s / 2) ≤ n * (s / 2) := Nat.mul_le_mul_right _ (by omega)
   have h3 := Nat.add_mul t 1 (s / 2)
   exact tb_fit h1 (by omega)
 · exact tb_mono (tb_to hF h hb n (by omega)) (by omega)

theorem sumN_le_const {f : Nat → Int} {c : Int} (h : ∀ i, f i ≤ c) (n : Nat) : sumN f n ≤ n * c := by
 induction n with
 | zero => simp [sumN]
 | succ n ih => have := h n; rw [sumN, show ((n + 1 : Nat) : Int) * c = n * c + c by rw [Int.natCast_add]; grind]; omega
theorem tb_start {zs : List Int} (hl : zs.length = 32) (h : AllIn 1610612738 zs) : TB 0 zs := by
 refine ⟨hl, ?_⟩
 have h1 : ∀ i, sq zs i ≤ 2594073391807856644 := by
  intro i
  have hz := allIn_get h i
  unfold sq
  generalize zs.getD i 0 = z at *
  rcases Int.le_total 0 z with h0 | h0
  · exact Int.le_trans (Int.mul_le_mul hz.2 hz.2 h0 (by omega)) (by decide)
  · have := Int.mul_le_mul (a := -z) (b := -z) (c := 1610612738) (d := 1610612738) (by omega) (by omega) (by omega) (by omega)
    rw [Int.neg_mul_neg] at this
    exact Int.le_trans this (by decide)
 have h2 := sumN_le_const h1 32
 unfold T
 rw [bnd]
 omega

theorem inTo_in {zs : List Int} (h : AllIn 1073741824 zs) : ∀ n, AllIn 1610612738 (inTo zs n)
 | 0 => by intro z hz; have : z = 0 := by simpa [inTo] using hz
           omega
 | n + 1 => by
  have h1 := allIn_get h (2 * n)
  have h2 := allIn_get h (31 - 2 * n)
  have h3 := turnL_in (a := zs.getD (2 * n) 0) (b := zs.getD (31 - 2 * n) 0) (k := edgeN n) (c := 1073741824) (by omega) h1.1 h1.2 h2.1 h2.2
  exact allIn_set (allIn_set (inTo_in h n) _ (by omega) (by omega)) _ (by omega) (by omega)
theorem tb_turnTo {c : Nat} {st : List Int} (h : TB c st) : ∀ n, TB (c + n) (turnTo st n)
 | 0 => h
 | n + 1 => tb_turn (tb_turnTo h n) (flip_lt n)
theorem waves_fit {zs : List Int} (h : AllIn 1073741824 zs) : WavesFit zs := by
 have h0 : ∀ n, TB 0 (inTo zs n) := fun n => tb_start (inTo_len zs n) (inTo_in h n)
 have hF : Three wAhead := fun _ _ _ _ _ a b c d => tb_ahead a b c d
 have s1 := tb_stage hF (s := 16) (n := 1) (h0 16) (fun t x _ _ => by omega) (by omega) (by omega)
 have s2 := tb_stage hF (s := 8) (n := 2) s1.2 (fun t x _ _ => by omega) (by omega) (by omega)
 have s3 := tb_stage hF (s := 4) (n := 4) s2.2 (fun t x _ _ => by omega) (by omega) (by omega)
 have s4 := tb_stage hF (s := 2) (n := 8) s3.2 (fun t x _ _ => by omega) (by omega) (by omega)
 exact ⟨fun n _ => tb_fit (h0 n) (by omega), s1.1, s2.1, s3.1, s4.1, fun n hn => tb_fit (tb_turnTo s4.2 n) (by omega)⟩
end Go.Proofs.YtiigipnfnfpepaaGreatDoor
namespace Go.Proofs.YtiigipnfnfpepaaGreatDoor

def zeros : List Int := List.replicate 32 0
end Go.Proofs.YtiigipnfnfpepaaGreatDoor
namespace Go.Proofs.YtiigipnfnfpepaaGreatDoor

end Go.Proofs.YtiigipnfnfpepaaGreatDoor
namespace Go.Proofs.YtiigipnfnfpepaaGreatDoor
open Go.RowKit

set_option maxRecDepth 100000 in
theorem great_calls (x : Int) (W : World) (_h0 : -9223372036854775808 ≤ x) (_h1 : x ≤ 9223372036854775807) :
 Calls Tryz.prog 163 #[.int .i64 x] W fun e w' => e = .returned (.bool (decide (x < -1073741824) || decide (1073741824 < x))) ∧ Below W.heap.size W w' := by
 by_cases h : x < -1073741824
 · go_enter Tryz.func163, Tryz.ntmps163
   go_wp2
   go_ret
   exact ⟨by simp [h], by first | exact Below.refl _ _ | exact (Below.refl _ _).drew | exact below_draws (Below.refl _ _) _⟩
 · by_cases h2 : 1073741824 < x
   · go_enter Tryz.func163, Tryz.ntmps163
     go_wp2
     go_ret
     exact ⟨by simp, by first | exact Below.refl _ _ | exact (Below.refl _ _).drew | exact below_draws (Below.refl _ _) _⟩
   · go_enter Tryz.func163, Tryz.ntmps163
     go_wp2
     go_ret
     exact ⟨by simp [h, h2], by first | exact Below.refl _ _ | exact (Below.refl _ _).drew | exact below_draws (Below.refl _ _) _⟩

theorem great_tells (w : World) : Tells 163 #[] (fun x => decide (x < -1073741824) || decide (1073741824 < x)) w :=
 fun W x hb h0 h1 => (great_calls x W h0 h1).mono fun _ _ h => ⟨h.1, bnext hb h.2⟩

set_option maxRecDepth 100000 in
theorem held_calls (zs : List Int) (w : World) (hl : zs.length = 32) (hi : ∀ z ∈ zs, -9223372036854775808 ≤ z ∧ z ≤ 9223372036854775807) :
 Calls Tryz.prog 144 #[.agg (ints zs)] w fun e w' => e = .returned (.bool (heldB zs)) ∧ Below w.heap.size w w' := by
 have hg := blk_new w 94 (ints zs)
 have eg : ∀ args w, (callFunc 163 args).run Tryz.prog w = .ok (.enter 163 args) w := enters_at Tryz.func163 (by kernel_rfl) rfl
 have hcall := containsf_calls 163 #[] (fun x => decide (x < -1073741824) || decide (1073741824 < x)) w.heap.size 0 32 32 zs (w.alloc (.cells (ints zs) 94)) hl (by omega) (by simp)
  (fun j hj => by rw [Nat.zero_add]; exact blk_int hg (by omega)) hi eg (great_tells _)
 unfold heldB
 clear eg hg hi
 generalize zs.any (fun x => decide (x < -1073741824) || decide (1073741824 < x)) = r at *
 go_enter Tryz.func144, Tryz.ntmps144
 go_wp2_with fail
 refine hcall.mono ?_
 rintro e w1 ⟨rfl, hB⟩
 go_wp2_with fail
 go_ret
 exact ⟨rfl, bnext ((Below.refl _ w).alloc (Nat.le_refl _) _) hB⟩
end Go.Proofs.YtiigipnfnfpepaaGreatDoor
namespace Go.Proofs.YtiigipnfnfpepaaGreatDoor
open Go.RowKit

set_option maxRecDepth 100000 in
set_option maxHeartbeats 4000000 in
theorem stage_16 (fd : Nat) (F : Nat → Nat → Int → List Int → List Int) (g : Nat) (zs : List Int) (w : World) (hb : Blk w g 226 (ints zs)) (hl : zs.length = 32)
 (eg : ∀ args w, (callFunc fd args).run Tryz.prog w = .ok (.enter fd args) w)
 (hdo : ∀ (i j : Nat) (k : Int) (zs : List Int) (w : World), Blk w g 226 (ints zs) → zs.length = 32 → Fit zs → i < 16 → j < 16 → i ≠ j → -9223372036854775808 ≤ k → k ≤ 9223372036854775807 →
  Calls Tryz.prog fd #[.pointer (some ⟨g, 0, none⟩), .int .i64 i, .int .i64 j, .int .i64 k] w (BlkTo 226 w g (F i j k zs)))
 (hlen : ∀ i j k zs, (F i j k zs).length = zs.length) (hfit : ∀ t m, t < 1 → m ≤ 8 → Fit (stageIn F 16 (t * 16) m (stageTo F 16 t zs))) :
 Calls Tryz.prog 147 #[.pointer (some ⟨g, 0, none⟩), .int .i64 16, .func (.func fd) #[] #[]] w (BlkTo 226 w g (stageTo F 16 1 zs)) := by
 have hlI : ∀ (p : Nat) (zs : List Int) (m : Nat), (stageIn F 16 p m zs).length = zs.length := fun p zs m => by
  induction m with
  | zero => rfl
  | succ m ih => rw [stageIn, hlen, ih]
 have hlT : ∀ t, (stageTo F 16 t zs).length = 32 := fun t => by
  induction t with
  | zero => exact hl
  | succ t ih => rw [stageTo, hlI, ih]
 have HD := hid hdo
 have HF := hid hfit
 have HI := hid hlI
 have HT := hid hlT
 have HB := hid hb
 clear hdo hfit hlI hlT hb hl hlen
 go_enter Tryz.func147, Tryz.ntmps147
 go_wp2_with fail
 go_loopg [6, 7] 1 (fun gg a _ wr => ∃ t : Nat, t ≤ 1 ∧ 1 - t ≤ gg ∧ a = .int .i64 ((t : Int) * 16) ∧ Aside (Blk wr g 226 (ints (stageTo F 16 t zs))) ∧ Aside (w.grownBy wr (some g)))
 case atStart => exact ⟨0, by omega, by omega, rfl, HB.out, World.grownBy.refl w _⟩
 case round =>
  obtain ⟨t, ht, hg, rfl, B, G⟩ := hrel
  by_cases hlt : t < 1
  · go_wp2_with fail
    generalize decide ((t : Int) * 16 < 16) = v9
    go_loopg [7, 15] 8 (fun gg _ a wr => ∃ m : Nat, m ≤ 8 ∧ 8 - m ≤ gg ∧ a = .int .i64 m ∧ Aside (Blk wr g 226 (ints (stageIn F 16 (t * 16) m (stageTo F 16 t zs)))) ∧ Aside (w.grownBy wr (some g)))
    case atStart => exact ⟨0, by omega, by omega, rfl, B.out, G.out⟩
    case round =>
     obtain ⟨m, hm, hg2, rfl, B2, G2⟩ := hrel
     by_cases hlt2 : m < 8
     · have hcall := HD.out (t * 16 + m) (t * 16 + m + 8) (-((m : Int) * 512 / 16)) _ _ B2.out ((HI.out _ _ _).trans (HT.out t)) (HF.out t m hlt (by omega)) (by omega) (by omega) (by omega) (by omega) (by omega)
       simp only [Int.natCast_add, Int.natCast_mul, Int.cast_ofNat_Int] at hcall
       go_wp2_with fail
       refine hcall.mono ?_
       rintro e w' ⟨rfl, b', g'⟩
       go_wp2_with fail
       go_roundg (8 - (m + 1))
       case measure => omega
       case rel => exact ⟨m + 1, by omega, by omega, by go_num, b', grown_trans G2.out g'⟩
     · obtain rfl : m = 8 := by omega
       go_wp2_with fail
       go_roundg (1 - (t + 1))
       case measure => omega
       case rel => exact ⟨t + 1, by omega, by omega, by go_num, B2.out, G2.out⟩
  · obtain rfl : t = 1 := by omega
    go_wp2_with fail
    go_end0
    exact ⟨rfl, B.out, G.out⟩

set_option maxRecDepth 100000 in
set_option maxHeartbeats 4000000 in
theorem stage_8 (fd : Nat) (F : Nat → Nat → Int → List Int → List Int) (g : Nat) (zs : List Int) (w : World) (hb : Blk w g 226 (ints zs)) (hl : zs.length = 32)
 (eg : ∀ args w, (callFunc fd args).run Tryz.prog w = .ok (.enter fd args) w)
 (hdo : ∀ (i j : Nat) (k : Int) (zs : List Int) (w : World), Blk w g 226 (ints zs) → zs.length = 32 → Fit zs → i < 16 → j < 16 → i ≠ j → -9223372036854775808 ≤ k → k ≤ 9223372036854775807 →
  Calls Tryz.prog fd #[.pointer (some ⟨g, 0, none⟩), .int .i64 i, .int .i64 j, .int .i64 k] w (BlkTo 226 w g (F i j k zs)))
 (hlen : ∀ i j k zs, (F i j k zs).length = zs.length) (hfit : ∀ t m, t < 2 → m ≤ 4 → Fit (stageIn F 8 (t * 8) m (stageTo F 8 t zs))) :
 Calls Tryz.prog 147 #[.pointer (some ⟨g, 0, none⟩), .int .i64 8, .func (.func fd) #[] #[]] w (BlkTo 226 w g (stageTo F 8 2 zs)) := by
 have hlI : ∀ (p : Nat) (zs : List Int) (m : Nat), (stageIn F 8 p m zs).length = zs.length := fun p zs m => by
  induction m with
  | zero => rfl
  | succ m ih => rw [stageIn, hlen, ih]
 have hlT : ∀ t, (stageTo F 8 t zs).length = 32 := fun t => by
  induction t with
  | zero => exact hl
  | succ t ih => rw [stageTo, hlI, ih]
 have HD := hid hdo
 have HF := hid hfit
 have HI := hid hlI
 have HT := hid hlT
 have HB := hid hb
 clear hdo hfit hlI hlT hb hl hlen
 go_enter Tryz.func147, Tryz.ntmps147
 go_wp2_with fail
 go_loopg [6, 7] 2 (fun gg a _ wr => ∃ t : Nat, t ≤ 2 ∧ 2 - t ≤ gg ∧ a = .int .i64 ((t : Int) * 8) ∧ Aside (Blk wr g 226 (ints (stageTo F 8 t zs))) ∧ Aside (w.grownBy wr (some g)))
 case atStart => exact ⟨0, by omega, by omega, rfl, HB.out, World.grownBy.refl w _⟩
 case round =>
  obtain ⟨t, ht, hg, rfl, B, G⟩ := hrel
  by_cases hlt : t < 2
  · go_wp2_with fail
    generalize decide ((t : Int) * 8 < 16) = v9
    go_loopg [7, 15] 4 (fun gg _ a wr => ∃ m : Nat, m ≤ 4 ∧ 4 - m ≤ gg ∧ a = .int .i64 m ∧ Aside (Blk wr g 226 (ints (stageIn F 8 (t * 8) m (stageTo F 8 t zs)))) ∧ Aside (w.grownBy wr (some g)))
    case atStart => exact ⟨0, by omega, by omega, rfl, B.out, G.out⟩
    case round =>
     obtain ⟨m, hm, hg2, rfl, B2, G2⟩ := hrel
     by_cases hlt2 : m < 4
     · have hcall := HD.out (t * 8 + m) (t * 8 + m + 4) (-((m : Int) * 512 / 8)) _ _ B2.out ((HI.out _ _ _).trans (HT.out t)) (HF.out t m hlt (by omega)) (by omega) (by omega) (by omega) (by omega) (by omega)
       simp only [Int.natCast_add, Int.natCast_mul, Int.cast_ofNat_Int] at hcall
       go_wp2_with fail
       refine hcall.mono ?_
       rintro e w' ⟨rfl, b', g'⟩
       go_wp2_with fail
       go_roundg (4 - (m + 1))
       case measure => omega
       case rel => exact ⟨m + 1, by omega, by omega, by go_num, b', grown_trans G2.out g'⟩
     · obtain rfl : m = 4 := by omega
       go_wp2_with fail
       go_roundg (2 - (t + 1))
       case measure => omega
       case rel => exact ⟨t + 1, by omega, by omega, by go_num, B2.out, G2.out⟩
  · obtain rfl : t = 2 := by omega
    go_wp2_with fail
    go_end0
    exact ⟨rfl, B.out, G.out⟩

set_option maxRecDepth 100000 in
set_option maxHeartbeats 4000000 in
theorem stage_4 (fd : Nat) (F : Nat → Nat → Int → List Int → List Int) (g : Nat) (zs : List Int) (w : World) (hb : Blk w g 226 (ints zs)) (hl : zs.length = 32)
 (eg : ∀ args w, (callFunc fd args).run Tryz.prog w = .ok (.enter fd args) w)
 (hdo : ∀ (i j : Nat) (k : Int) (zs : List Int) (w : World), Blk w g 226 (ints zs) → zs.length = 32 → Fit zs → i < 16 → j < 16 → i ≠ j → -9223372036854775808 ≤ k → k ≤ 9223372036854775807 →
  Calls Tryz.prog fd #[.pointer (some ⟨g, 0, none⟩), .int .i64 i, .int .i64 j, .int .i64 k] w (BlkTo 226 w g (F i j k zs)))
 (hlen : ∀ i j k zs, (F i j k zs).length = zs.length) (hfit : ∀ t m, t < 4 → m ≤ 2 → Fit (stageIn F 4 (t * 4) m (stageTo F 4 t zs))) :
 Calls Tryz.prog 147 #[.pointer (some ⟨g, 0, none⟩), .int .i64 4, .func (.func fd) #[] #[]] w (BlkTo 226 w g (stageTo F 4 4 zs)) := by
 have hlI : ∀ (p : Nat) (zs : List Int) (m : Nat), (stageIn F 4 p m zs).length = zs.length := fun p zs m => by
  induction m with
  | zero => rfl
  | succ m ih => rw [stageIn, hlen, ih]
 have hlT : ∀ t, (stageTo F 4 t zs).length = 32 := fun t => by
  induction t with
  | zero => exact hl
  | succ t ih => rw [stageTo, hlI, ih]
 have HD := hid hdo
 have HF := hid hfit
 have HI := hid hlI
 have HT := hid hlT
 have HB := hid hb
 clear hdo hfit hlI hlT hb hl hlen
 go_enter Tryz.func147, Tryz.ntmps147
 go_wp2_with fail
 go_loopg [6, 7] 4 (fun gg a _ wr => ∃ t : Nat, t ≤ 4 ∧ 4 - t ≤ gg ∧ a = .int .i64 ((t : Int) * 4) ∧ Aside (Blk wr g 226 (ints (stageTo F 4 t zs))) ∧ Aside (w.grownBy wr (some g)))
 case atStart => exact ⟨0, by omega, by omega, rfl, HB.out, World.grownBy.refl w _⟩
 case round =>
  obtain ⟨t, ht, hg, rfl, B, G⟩ := hrel
  by_cases hlt : t < 4
  · go_wp2_with fail
    generalize decide ((t : Int) * 4 < 16) = v9
    go_loopg [7, 15] 2 (fun gg _ a wr => ∃ m : Nat, m ≤ 2 ∧ 2 - m ≤ gg ∧ a = .int .i64 m ∧ Aside (Blk wr g 226 (ints (stageIn F 4 (t * 4) m (stageTo F 4 t zs)))) ∧ Aside (w.grownBy wr (some g)))
    case atStart => exact ⟨0, by omega, by omega, rfl, B.out, G.out⟩
    case round =>
     obtain ⟨m, hm, hg2, rfl, B2, G2⟩ := hrel
     by_cases hlt2 : m < 2
     · have hcall := HD.out (t * 4 + m) (t * 4 + m + 2) (-((m : Int) * 512 / 4)) _ _ B2.out ((HI.out _ _ _).trans (HT.out t)) (HF.out t m hlt (by omega)) (by omega) (by omega) (by omega) (by omega) (by omega)
       simp only [Int.natCast_add, Int.natCast_mul, Int.cast_ofNat_Int] at hcall
       go_wp2_with fail
       refine hcall.mono ?_
       rintro e w' ⟨rfl, b', g'⟩
       go_wp2_with fail
       go_roundg (2 - (m + 1))
       case measure => omega
       case rel => exact ⟨m + 1, by omega, by omega, by go_num, b', grown_trans G2.out g'⟩
     · obtain rfl : m = 2 := by omega
       go_wp2_with fail
       go_roundg (4 - (t + 1))
       case measure => omega
       case rel => exact ⟨t + 1, by omega, by omega, by go_num, B2.out, G2.out⟩
  · obtain rfl : t = 4 := by omega
    go_wp2_with fail
    go_end0
    exact ⟨rfl, B.out, G.out⟩

set_option maxRecDepth 100000 in
set_option maxHeartbeats 4000000 in
theorem stage_2 (fd : Nat) (F : Nat → Nat → Int → List Int → List Int) (g : Nat) (zs : List Int) (w : World) (hb : Blk w g 226 (ints zs)) (hl : zs.length = 32)
 (eg : ∀ args w, (callFunc fd args).run Tryz.prog w = .ok (.enter fd args) w)
 (hdo : ∀ (i j : Nat) (k : Int) (zs : List Int) (w : World), Blk w g 226 (ints zs) → zs.length = 32 → Fit zs → i < 16 → j < 16 → i ≠ j → -9223372036854775808 ≤ k → k ≤ 9223372036854775807 →
  Calls Tryz.prog fd #[.pointer (some ⟨g, 0, none⟩), .int .i64 i, .int .i64 j, .int .i64 k] w (BlkTo 226 w g (F i j k zs)))
 (hlen : ∀ i j k zs, (F i j k zs).length = zs.length) (hfit : ∀ t m, t < 8 → m ≤ 1 → Fit (stageIn F 2 (t * 2) m (stageTo F 2 t zs))) :
 Calls Tryz.prog 147 #[.pointer (some ⟨g, 0, none⟩), .int .i64 2, .func (.func fd) #[] #[]] w (BlkTo 226 w g (stageTo F 2 8 zs)) := by
 have hlI : ∀ (p : Nat) (zs : List Int) (m : Nat), (stageIn F 2 p m zs).length = zs.length := fun p zs m => by
  induction m with
  | zero => rfl
  | succ m ih => rw [stageIn, hlen, ih]
 have hlT : ∀ t, (stageTo F 2 t zs).length = 32 := fun t => by
  induction t with
  | zero => exact hl
  | succ t ih => rw [stageTo, hlI, ih]
 have HD := hid hdo
 have HF := hid hfit
 have HI := hid hlI
 have HT := hid hlT
 have HB := hid hb
 clear hdo hfit hlI hlT hb hl hlen
 go_enter Tryz.func147, Tryz.ntmps147
 go_wp2_with fail
 go_loopg [6, 7] 8 (fun gg a _ wr => ∃ t : Nat, t ≤ 8 ∧ 8 - t ≤ gg ∧ a = .int .i64 ((t : Int) * 2) ∧ Aside (Blk wr g 226 (ints (stageTo F 2 t zs))) ∧ Aside (w.grownBy wr (some g)))
 case atStart => exact ⟨0, by omega, by omega, rfl, HB.out, World.grownBy.refl w _⟩
 case round =>
  obtain ⟨t, ht, hg, rfl, B, G⟩ := hrel
  by_cases hlt : t < 8
  · go_wp2_with fail
    generalize decide ((t : Int) * 2 < 16) = v9
    go_loopg [7, 15] 1 (fun gg _ a wr => ∃ m : Nat, m ≤ 1 ∧ 1 - m ≤ gg ∧ a = .int .i64 m ∧ Aside (Blk wr g 226 (ints (stageIn F 2 (t * 2) m (stageTo F 2 t zs)))) ∧ Aside (w.grownBy wr (some g)))
    case atStart => exact ⟨0, by omega, by omega, rfl, B.out, G.out⟩
    case round =>
     obtain ⟨m, hm, hg2, rfl, B2, G2⟩ := hrel
     by_cases hlt2 : m < 1
     · have hcall := HD.out (t * 2 + m) (t * 2 + m + 1) (-((m : Int) * 512 / 2)) _ _ B2.out ((HI.out _ _ _).trans (HT.out t)) (HF.out t m hlt (by omega)) (by omega) (by omega) (by omega) (by omega) (by omega)
       simp only [Int.natCast_add, Int.natCast_mul, Int.cast_ofNat_Int] at hcall
       go_wp2_with fail
       refine hcall.mono ?_
       rintro e w' ⟨rfl, b', g'⟩
       go_wp2_with fail
       go_roundg (1 - (m + 1))
       case measure => omega
       case rel => exact ⟨m + 1, by omega, by omega, by go_num, b', grown_trans G2.out g'⟩
     · obtain rfl : m = 1 := by omega
       go_wp2_with fail
       go_roundg (8 - (t + 1))
       case measure => omega
       case rel => exact ⟨t + 1, by omega, by omega, by go_num, B2.out, G2.out⟩
  · obtain rfl : t = 8 := by omega
    go_wp2_with fail
    go_end0
    exact ⟨rfl, B.out, G.out⟩

end Go.Proofs.YtiigipnfnfpepaaGreatDoor
namespace Go.Proofs.YtiigipnfnfpepaaGreatDoor
open Go.RowKit
attribute [local go_sem ↓] Go.wp_at_zero Go.wp_at_succ

set_option maxRecDepth 100000 in
set_option maxHeartbeats 8000000 in
theorem waves_calls (zs : List Int) (w : World) (hl : zs.length = 32) (hi : ∀ z ∈ zs, -9223372036854775808 ≤ z ∧ z ≤ 9223372036854775807) (hh : heldB zs = true) (hf : WavesFit zs) :
 Calls Tryz.prog 117 #[.agg (ints zs)] w fun e w' => e = .returned (.agg (ints (wavesL zs))) ∧ Below w.heap.size w w' := by
 have hzf : (#[Value.int .i64 0, .int .i64 0, .int .i64 0, .int .i64 0, .int .i64 0, .int .i64 0, .int .i64 0, .int .i64 0, .int .i64 0, .int .i64 0, .int .i64 0, .int .i64 0, .int .i64 0, .int .i64 0, .int .i64 0, .int .i64 0, .int .i64 0, .int .i64 0, .int .i64 0, .int .i64 0, .int .i64 0, .int .i64 0, .int .i64 0, .int .i64 0, .int .i64 0, .int .i64 0, .int .i64 0, .int .i64 0, .int .i64 0, .int .i64 0, .int .i64 0, .int .i64 0]) = ints (List.replicate 32 0) := by kernel_rfl
 have b0 : Blk ((w.alloc (.cells (ints zs) 94)).alloc (.cells (#[Value.int .i64 0, .int .i64 0, .int .i64 0, .int .i64 0, .int .i64 0, .int .i64 0, .int .i64 0, .int .i64 0, .int .i64 0, .int .i64 0, .int .i64 0, .int .i64 0, .int .i64 0, .int .i64 0, .int .i64 0, .int .i64 0, .int .i64 0, .int .i64 0, .int .i64 0, .int .i64 0, .int .i64 0, .int .i64 0, .int .i64 0, .int .i64 0, .int .i64 0, .int .i64 0, .int .i64 0, .int .i64 0, .int .i64 0, .int .i64 0, .int .i64 0, .int .i64 0]) 94)) w.heap.size 94 (ints zs) := blk_alloc (blk_new w 94 (ints zs)) _
 have b1 : Blk ((w.alloc (.cells (ints zs) 94)).alloc (.cells (#[Value.int .i64 0, .int .i64 0, .int .i64 0, .int .i64 0, .int .i64 0, .int .i64 0, .int .i64 0, .int .i64 0, .int .i64 0, .int .i64 0, .int .i64 0, .int .i64 0, .int .i64 0, .int .i64 0, .int .i64 0, .int .i64 0, .int .i64 0, .int .i64 0, .int .i64 0, .int .i64 0, .int .i64 0, .int .i64 0, .int .i64 0, .int .i64 0, .int .i64 0, .int .i64 0, .int .i64 0, .int .i64 0, .int .i64 0, .int .i64 0, .int .i64 0, .int .i64 0]) 94)) (w.heap.size + 1) 94 (ints (List.replicate 32 0)) := by
  have h := blk_new (w.alloc (.cells (ints zs) 94)) 94 (#[Value.int .i64 0, .int .i64 0, .int .i64 0, .int .i64 0, .int .i64 0, .int .i64 0, .int .i64 0, .int .i64 0, .int .i64 0, .int .i64 0, .int .i64 0, .int .i64 0, .int .i64 0, .int .i64 0, .int .i64 0, .int .i64 0, .int .i64 0, .int .i64 0, .int .i64 0, .int .i64 0, .int .i64 0, .int .i64 0, .int .i64 0, .int .i64 0, .int .i64 0, .int .i64 0, .int .i64 0, .int .i64 0, .int .i64 0, .int .i64 0, .int .i64 0, .int .i64 0])
  rw [hzf] at h ⊢
  simpa using h
 have hA : Below w.heap.size w ((w.alloc (.cells (ints zs) 94)).alloc (.cells (#[Value.int .i64 0, .int .i64 0, .int .i64 0, .int .i64 0, .int .i64 0, .int .i64 0, .int .i64 0, .int .i64 0, .int .i64 0, .int .i64 0, .int .i64 0, .int .i64 0, .int .i64 0, .int .i64 0, .int .i64 0, .int .i64 0, .int .i64 0, .int .i64 0, .int .i64 0, .int .i64 0, .int .i64 0, .int .i64 0, .int .i64 0, .int .i64 0, .int .i64 0, .int .i64 0, .int .i64 0, .int .i64 0, .int .i64 0, .int .i64 0, .int .i64 0, .int .i64 0]) 94)) := ((Below.refl _ w).alloc (Nat.le_refl _) _).alloc (by simp) _
 have eg : ∀ args w, (callFunc 148 args).run Tryz.prog w = .ok (.enter 148 args) w := enters_at Tryz.func148 (by kernel_rfl) rfl
 have hH := held_in.1 hh
 obtain ⟨hF1, hF2, hF3, hF4, hF5, hF6⟩ := hf
 have F1 := hid hF1
 have F2 := hid hF2
 have F3 := hid hF3
 have F4 := hid hF4
 have F5 := hid hF5
 obtain ⟨st, hst⟩ : ∃ st, st = mid4 (inTo zs 16) := ⟨_, rfl⟩
 unfold wavesL
 rw [← hst] at hF6 ⊢
 have F6 := hid hF6
 have HST := hid hst
 have HH := hid hH
 have EG := hid eg
 clear hF1 hF2 hF3 hF4 hF5 hF6 hH eg hst
 go_enter Tryz.func117, Tryz.ntmps117
 go_wp2_with (first | (refine wpList_load_row rfl 94 _ rfl w.heap.size rfl 94 (ints zs) (0, 0) _ b0 Tryz.underlying94 rfl (by rw [ints_size, hl]; kernel_rfl) ?_))
 refine (held_calls zs _ hl hi).mono ?_
 rintro e w1 ⟨rfl, hB⟩
 have k0 := blk_below b0 hB (blk_lt b0)
 have k1 := blk_below b1 hB (blk_lt b1)
 have kA := bnext hA hB
 have ks : w.heap.size + 2 ≤ w1.heap.size := by have := hB.size; simp at this; omega
 clear b0 b1 hA hB hzf
 rw [hh]
 go_wp2_with fail
 have hz : (#[Value.int .i64 0, .int .i64 0, .int .i64 0, .int .i64 0, .int .i64 0, .int .i64 0, .int .i64 0, .int .i64 0, .int .i64 0, .int .i64 0, .int .i64 0, .int .i64 0, .int .i64 0, .int .i64 0, .int .i64 0, .int .i64 0, .int .i64 0, .int .i64 0, .int .i64 0, .int .i64 0, .int .i64 0, .int .i64 0, .int .i64 0, .int .i64 0, .int .i64 0, .int .i64 0, .int .i64 0, .int .i64 0, .int .i64 0, .int .i64 0, .int .i64 0, .int .i64 0]) = ints (List.replicate 32 0) := by kernel_rfl
 have g0 : Blk (w1.alloc (.cells (#[Value.int .i64 0, .int .i64 0, .int .i64 0, .int .i64 0, .int .i64 0, .int .i64 0, .int .i64 0, .int .i64 0, .int .i64 0, .int .i64 0, .int .i64 0, .int .i64 0, .int .i64 0, .int .i64 0, .int .i64 0, .int .i64 0, .int .i64 0, .int .i64 0, .int .i64 0, .int .i64 0, .int .i64 0, .int .i64 0, .int .i64 0, .int .i64 0, .int .i64 0, .int .i64 0, .int .i64 0, .int .i64 0, .int .i64 0, .int .i64 0, .int .i64 0, .int .i64 0]) 226)) w1.heap.size 226 (ints (List.replicate 32 0)) := by
  have h := blk_new w1 226 (#[Value.int .i64 0, .int .i64 0, .int .i64 0, .int .i64 0, .int .i64 0, .int .i64 0, .int .i64 0, .int .i64 0, .int .i64 0, .int .i64 0, .int .i64 0, .int .i64 0, .int .i64 0, .int .i64 0, .int .i64 0, .int .i64 0, .int .i64 0, .int .i64 0, .int .i64 0, .int .i64 0, .int .i64 0, .int .i64 0, .int .i64 0, .int .i64 0, .int .i64 0, .int .i64 0, .int .i64 0, .int .i64 0, .int .i64 0, .int .i64 0, .int .i64 0, .int .i64 0])
  rw [hz] at h ⊢
  exact h
 have K0 := hid (blk_alloc k0 (.cells (#[Value.int .i64 0, .int .i64 0, .int .i64 0, .int .i64 0, .int .i64 0, .int .i64 0, .int .i64 0, .int .i64 0, .int .i64 0, .int .i64 0, .int .i64 0, .int .i64 0, .int .i64 0, .int .i64 0, .int .i64 0, .int .i64 0, .int .i64 0, .int .i64 0, .int .i64 0, .int .i64 0, .int .i64 0, .int .i64 0, .int .i64 0, .int .i64 0, .int .i64 0, .int .i64 0, .int .i64 0, .int .i64 0, .int .i64 0, .int .i64 0, .int .i64 0, .int .i64 0]) 226))
 have K1 := hid (blk_alloc k1 (.cells (#[Value.int .i64 0, .int .i64 0, .int .i64 0, .int .i64 0, .int .i64 0, .int .i64 0, .int .i64 0, .int .i64 0, .int .i64 0, .int .i64 0, .int .i64 0, .int .i64 0, .int .i64 0, .int .i64 0, .int .i64 0, .int .i64 0, .int .i64 0, .int .i64 0, .int .i64 0, .int .i64 0, .int .i64 0, .int .i64 0, .int .i64 0, .int .i64 0, .int .i64 0, .int .i64 0, .int .i64 0, .int .i64 0, .int .i64 0, .int .i64 0, .int .i64 0, .int .i64 0]) 226))
 have KA := hid (kA.alloc kA.size (.cells (#[Value.int .i64 0, .int .i64 0, .int .i64 0, .int .i64 0, .int .i64 0, .int .i64 0, .int .i64 0, .int .i64 0, .int .i64 0, .int .i64 0, .int .i64 0, .int .i64 0, .int .i64 0, .int .i64 0, .int .i64 0, .int .i64 0, .int .i64 0, .int .i64 0, .int .i64 0, .int .i64 0, .int .i64 0, .int .i64 0, .int .i64 0, .int .i64 0, .int .i64 0, .int .i64 0, .int .i64 0, .int .i64 0, .int .i64 0, .int .i64 0, .int .i64 0, .int .i64 0]) 226))
 have G0 := hid g0
 clear k0 k1 kA g0 hi hh
 generalize hg : w1.heap.size = g at *
 go_loopg [4, 12] 16 (fun gg _ a wr => ∃ n : Nat, n ≤ 16 ∧ 16 - n ≤ gg ∧ a = .int .i64 n ∧ Aside (Blk wr w.heap.size 94 (ints zs)) ∧ Aside (Blk wr (w.heap.size + 1) 94 (ints (List.replicate 32 0))) ∧ Aside (Blk wr g 226 (ints (inTo zs n))) ∧ Aside (Below w.heap.size w wr))
 case atStart => exact ⟨0, by omega, by omega, rfl, K0.out, K1.out, by first | exact G0.out | exact hg ▸ G0.out, KA.out⟩
 case round =>
  obtain ⟨n, hn, hgg, rfl, R0, R1, RG, RB⟩ := hrel
  clear K0 K1 KA G0 hg
  by_cases hlt : n < 16
  · have hx := allIn_get HH.out (2 * n)
    have hy := allIn_get HH.out (31 - 2 * n)
    have a0 := blk_int R0.out (i := 2 * n) (by omega)
    have a1 := blk_int R0.out (i := 31 - 2 * n) (by omega)
    have hlI := inTo_len zs n
    have p0 := blk_int RG.out (i := n * 2) (by omega)
    have p1 := blk_int RG.out (i := n * 2 + 1) (by omega)
    have q0 := blk_free RG.out (n * 2)
    have q1 := blk_free RG.out (n * 2 + 1)
    have e31 : ((31 - 2 * n : Nat) : Int) = 31 - 2 * (n : Int) := by omega
    generalize hX : zs.getD (2 * n) 0 = x at *
    generalize hY : zs.getD (31 - 2 * n) 0 = y at *
    have X := hid hX
    have Y := hid hY
    clear hX hY
    go_wp2_with fail
    go_region
    go_wp2_with fail
    refine (edge_calls n _ hlt).mono ?_
    rintro e w2 ⟨rfl, rfl⟩
    go_wp2_with fail
    have B2 := blk_set_int (blk_set_int RG.out (n * 2) x) (n * 2 + 1) y
    have hfs : AllIn 1099511627776 (((inTo zs n).set (n * 2) x).set (n * 2 + 1) y) := allIn_set (allIn_set (allIn_mono (F1.out n hn) (by omega)) _ (by omega) (by omega)) _ (by omega) (by omega)
    have c := wturn_calls g n (edgeN n) _ _ (blk_drew B2) (by simp [hlI]) hlt hfs (by unfold edgeN; omega) (by unfold edgeN; omega)
    rw [wTurn_sets hlI hlt] at c
    refine c.mono ?_
    rintro e w3 ⟨rfl, b3, g3⟩
    have R0' := blk_grown (blk_drew (blk_far (blk_far R0.out (b := g) (i := n * 2) (by omega) (.int .i64 x)) (b := g) (i := n * 2 + 1) (by omega) (.int .i64 y))) g3 (by simp; omega)
    have R1' := blk_grown (blk_drew (blk_far (blk_far R1.out (b := g) (i := n * 2) (by omega) (.int .i64 x)) (b := g) (i := n * 2 + 1) (by omega) (.int .i64 y))) g3 (by simp; omega)
    have RB' := below_grown (((RB.out.setCell (p := ⟨g, n * 2, none⟩) (by simp; omega) (.int .i64 x)).setCell (p := ⟨g, n * 2 + 1, none⟩) (by simp; omega) (.int .i64 y)).drew) g3 (by have := RB.out.size; simp; omega) (by omega)
    clear R0 R1 RG RB B2 c
    go_wp2_with fail
    go_roundg (16 - (n + 1))
    case measure => omega
    case rel =>
     refine ⟨n + 1, by omega, by omega, by go_num, R0', R1', ?_, RB'⟩
     rw [inTo, X.out, Y.out]
     exact b3
  · obtain rfl : n = 16 := by omega
    clear hlt hn hgg
    go_wp2_with fail
    refine wp_loop_rounds 5 ?_
    rw [rounds_succ]
    go_wp2_with fail
    refine (stage_16 148 wAhead g _ _ (RG.out) (inTo_len zs 16) EG.out (fun i j k zs w => ahead_calls g i j k zs w) wAhead_len F2.out).mono ?_
    rintro e w1 ⟨rfl, b1, g1⟩
    have l1 := (stageTo_len wAhead_len 16 1 (inTo zs 16)).trans (inTo_len zs 16)
    go_wp2_with fail
    rw [rounds_succ]
    go_wp2_with fail
    refine (stage_8 148 wAhead g _ _ (b1) (l1) EG.out (fun i j k zs w => ahead_calls g i j k zs w) wAhead_len F3.out).mono ?_
    rintro e w2 ⟨rfl, b2, g2⟩
    have l2 := (stageTo_len wAhead_len 8 2 (stageTo wAhead 16 1 (inTo zs 16))).trans (l1)
    go_wp2_with fail
    rw [rounds_succ]
    go_wp2_with fail
    refine (stage_4 148 wAhead g _ _ (b2) (l2) EG.out (fun i j k zs w => ahead_calls g i j k zs w) wAhead_len F4.out).mono ?_
    rintro e w3 ⟨rfl, b3, g3⟩
    have l3 := (stageTo_len wAhead_len 4 4 (stageTo wAhead 8 2 (stageTo wAhead 16 1 (inTo zs 16)))).trans (l2)
    go_wp2_with fail
    rw [rounds_succ]
    go_wp2_with fail
    refine (stage_2 148 wAhead g _ _ (b3) (l3) EG.out (fun i j k zs w => ahead_calls g i j k zs w) wAhead_len F5.out).mono ?_
    rintro e w4 ⟨rfl, b4, g4⟩
    have l4 := (stageTo_len wAhead_len 2 8 (stageTo wAhead 4 4 (stageTo wAhead 8 2 (stageTo wAhead 16 1 (inTo zs 16))))).trans (l3)
    go_wp2_with fail
    rw [rounds_succ]
    go_wp2_with fail
    have G := grown_trans (grown_trans (grown_trans g1 g2) g3) g4
    have C0 := blk_grown R0.out G (by simp; omega)
    have C1 := blk_grown R1.out G (by simp; omega)
    have CB := below_grown RB.out G (by have := RB.out.size; omega) (by omega)
    have hst : stageTo wAhead 2 8 (stageTo wAhead 4 4 (stageTo wAhead 8 2 (stageTo wAhead 16 1 (inTo zs 16)))) = st := HST.out.symm
    rw [hst] at b4 l4
    have K0 := hid C0
    have K1 := hid C1
    have KB := hid CB
    have KG := hid b4
    clear hst R0 R1 RB RG b1 b2 b3 b4 g1 g2 g3 g4 l1 l2 l3 G C0 C1 CB F1 F2 F3 F4 F5 EG
    go_loopg [6, 7, 38] 16 (fun gg _ _ a wr => ∃ n : Nat, n ≤ 16 ∧ 16 - n ≤ gg ∧ a = .int .i64 n ∧ Aside (Blk wr w.heap.size 94 (ints (outTo st zs n))) ∧ Aside (Blk wr (w.heap.size + 1) 94 (ints (List.replicate 32 0))) ∧ Aside (Blk wr g 226 (ints (turnTo st n))) ∧ Aside (Below w.heap.size w wr))
    case atStart => exact ⟨0, by omega, by omega, rfl, K0.out, K1.out, KG.out, KB.out⟩
    case round =>
     obtain ⟨n, hn, hgg, rfl, R0, R1, RG, RB⟩ := hrel
     clear K0 K1 KB KG
     by_cases hlt : n < 16
     · go_wp2_with fail
       refine (flip_calls n _ hlt).mono ?_
       rintro e w2 ⟨rfl, rfl⟩
       go_wp2_with fail
       refine (edge_calls n _ hlt).mono ?_
       rintro e w2 ⟨rfl, rfl⟩
       go_wp2_with fail
       have c := wturn_calls g (flipN n) (edgeN n) _ _ RG.out ((turnTo_len st n).trans l4) (flip_lt n) (allIn_mono (F6.out n hn) (by omega)) (by unfold edgeN; omega) (by unfold edgeN; omega)
       refine c.mono ?_
       rintro e w3 ⟨rfl, b3, g3⟩
       have R0' := blk_grown R0.out g3 (by simp; omega)
       have R1' := blk_grown R1.out g3 (by simp; omega)
       have RB' := below_grown RB.out g3 (by have := RB.out.size; omega) (by omega)
       have hf' := F6.out (n + 1) (by omega)
       have hl' := (turnTo_len st (n + 1)).trans l4
       have hs' := blk_lt b3
       have hst : wTurn (flipN n) (edgeN n) (turnTo st n) = turnTo st (n + 1) := rfl
       rw [hst] at b3
       have hfl := flip_lt n
       clear R0 R1 RG RB c g3 hst
       go_wp2_with fail
       refine (flip_calls n _ hlt).mono ?_
       rintro e w2 ⟨rfl, rfl⟩
       have c0 := blk_int b3 (i := flipN n * 2) (by omega)
       have c1 := blk_int b3 (i := flipN n * 2 + 1) (by omega)
       have hx := allIn_get hf' (flipN n * 2)
       have hy := allIn_get hf' (flipN n * 2 + 1)
       generalize hX : (turnTo st (n + 1)).getD (flipN n * 2) 0 = x at *
       generalize hY : (turnTo st (n + 1)).getD (flipN n * 2 + 1) 0 = y at *
       have X := hid hX
       have Y := hid hY
       clear hX hY
       go_wp2_with fail
       refine wp_any (fun W => Blk W w.heap.size 94 (ints (outTo st zs n)) ∧ Blk W (w.heap.size + 1) 94 (ints (List.replicate 32 0)) ∧ Blk W g 226 (ints (turnTo st (n + 1))) ∧ Blk W w3.heap.size 224 #[.int .i64 x, .int .i64 y] ∧ Below w.heap.size w W) ⟨blk_alloc R0' _, blk_alloc R1' _, blk_alloc b3 _, blk_new w3 224 #[.int .i64 x, .int .i64 y], RB'.alloc RB'.size _⟩ ?_
       rintro W ⟨S0, S1, SG, SP, SB⟩
       clear R0' R1' RB' b3 c0 c1
       have c0 : W.cell? ⟨w3.heap.size, 0, none⟩ = some (.int .i64 x) := (blk_cell SP 0).trans rfl
       have c1 : W.cell? ⟨w3.heap.size, 1, none⟩ = some (.int .i64 y) := (blk_cell SP 1).trans rfl
       have hlo := (outTo_len st zs n).trans hl
       have d0 := blk_int S0 (i := 2 * n) (by omega)
       have d1 := blk_int S0 (i := 31 - 2 * n) (by omega)
       have f0 := blk_free S0 (2 * n)
       have f1 := blk_free S0 (31 - 2 * n)
       go_region
       go_wp2_with fail
       go_roundg (16 - (n + 1))
       case measure => omega
       case rel =>
        refine ⟨n + 1, by omega, by omega, by go_num, ?_, ?_, ?_, ?_⟩
        · have h := blk_set_int (blk_set_int S0 (2 * n) x) (31 - 2 * n) (-y)
          rw [outTo, X.out, Y.out]
          exact h
        · exact blk_far (blk_far S1 (by omega) _) (by omega) _
        · exact blk_far (blk_far SG (by omega) _) (by omega) _
        · exact ((SB.setCell (p := ⟨w.heap.size, _, none⟩) (by simp) _).setCell (p := ⟨w.heap.size, _, none⟩) (by simp) _).drew
     · obtain rfl : n = 16 := by omega
       have hs := RB.out.size
       have r0 := R0.out
       have r1 := R1.out
       have hlo := (outTo_len st zs 16).trans hl
       clear hlt hn hgg R0 R1 RG
       go_wp2_with (first | (refine wpList_load_row rfl 94 _ rfl w.heap.size rfl 94 (ints (outTo st zs 16)) (0, 0) _ r0 Tryz.underlying94 rfl (by rw [ints_size, hlo]; kernel_rfl) ?_) | (refine wpList_store_blk rfl 94 _ _ rfl (w.heap.size + 1) 94 _ (ints (outTo st zs 16)) rfl rfl r1 (by rw [ints_size, ints_size, hlo]; simp) (by rw [ints_size, hlo]; kernel_rfl) (ints_one _) ?_; intro w2 n0 hg))
       exact bodyPost_ret (results_cell_row rfl _ _ (w.heap.size + 1) 94 (ints (outTo st zs 16)) (0, 0) _ rfl n0 Tryz.underlying94 rfl (by rw [ints_size, hlo]; kernel_rfl)) rfl ⟨rfl, below_grown RB.out hg hs (by omega)⟩
end Go.Proofs.YtiigipnfnfpepaaGreatDoor
namespace Go.Proofs.YtiigipnfnfpepaaGreatDoor
open Go.RowKit
attribute [local go_sem ↓] Go.wp_at_zero Go.wp_at_succ

end Go.Proofs.YtiigipnfnfpepaaGreatDoor
namespace Go.Proofs.YtiigipnfnfpepaaGreatDoor
open Go.RowKit

theorem allIn_i64 {c : Int} {zs : List Int} (h : AllIn c zs) (hc : c ≤ 9223372036854775807 := by omega) : ∀ z ∈ zs, -9223372036854775808 ≤ z ∧ z ≤ 9223372036854775807 := fun z hz => by have := h z hz; omega

theorem waves_of {zs : List Int} (hl : zs.length = 32) (h : AllIn 1073741824 zs) (w : World) : Calls Tryz.prog 117 #[.agg (ints zs)] w fun e w' => e = .returned (.agg (ints (wavesL zs))) ∧ Below w.heap.size w w' :=
 waves_calls zs w hl (allIn_i64 h) (held_in.2 h) (waves_fit h)
end Go.Proofs.YtiigipnfnfpepaaGreatDoor
namespace Go.Proofs.YtiigipnfnfpepaaGreatDoor
open Go.RowKit
attribute [local go_sem ↓] Go.wp_at_zero Go.wp_at_succ

end Go.Proofs.YtiigipnfnfpepaaGreatDoor
