/- Plain laws on the angles' table: sines and cosines as whole numbers. No Go in it. Plain laws on angles: turns by right angles. No Go in it. Plain laws on angles: the sum of two angles. No Go in it. Pl -/
import Derived.Test.YtiigipnfnfpepaaGreatDoorUA
import Derived.Test.YtiigipnfnfpepaaGreatDoorChecked
import Derived.Outline
import Derived.Deep.QuietTactic
import Derived.BigQuiet
import Derived.Deep.RegionWith
import Derived.StillTailTactics
import Derived.Deep.RegionHeld3
import Derived.Deep.DrawnRows
namespace Go.Proofs.YtiigipnfnfpepaaGreatDoor

def hc : Nat → Int
 | 0 => 759250124
 | 1 => 992008094
 | 2 => 1053110175
 | 3 => 1068571463
 | 4 => 1072448454
 | 5 => 1073418432
 | 6 => 1073660972
 | _ => 0
def hs : Nat → Int
 | 0 => 759250124
 | 1 => 410903207
 | 2 => 209476638
 | 3 => 105245105
 | 4 => 52686017
 | 5 => 26350953
 | 6 => 13176485
 | _ => 0
def hd : Nat → Int
 | 0 => 64
 | 1 => 32
 | 2 => 16
 | 3 => 8
 | 4 => 4
 | 5 => 2
 | 6 => 1
 | _ => 1

def bel (k : Int) : Nat → Int × Int
 | 0 => (1073741824, 0)
 | n + 1 => if k / hd n % 2 = 1 then (((bel k n).1 * hc n - (bel k n).2 * hs n + 536870912) / 1073741824, ((bel k n).1 * hs n + (bel k n).2 * hc n + 536870912) / 1073741824) else bel k n

theorem bel_bd_all : ∀ k : Fin 128, ∀ n : Fin 8, 0 ≤ (bel k.val n.val).1 ∧ (bel k.val n.val).1 ≤ 1073741824 ∧ 0 ≤ (bel k.val n.val).2 ∧ (bel k.val n.val).2 ≤ 1073741824 := by decide +kernel

theorem bel_bd {k : Int} (h0 : 0 ≤ k) (h1 : k < 128) {n : Nat} (hn : n ≤ 7) : 0 ≤ (bel k n).1 ∧ (bel k n).1 ≤ 1073741824 ∧ 0 ≤ (bel k n).2 ∧ (bel k n).2 ≤ 1073741824 := by
 have h := bel_bd_all ⟨k.toNat, by omega⟩ ⟨n, by omega⟩
 have e : ((k.toNat : Nat) : Int) = k := by omega
 simpa only [e] using h

def trigT (k : Int) : Int × Int :=
 if k % 512 / 128 = 0 then ((bel (k % 512 % 128) 7).1, (bel (k % 512 % 128) 7).2)
 else if k % 512 / 128 = 1 then (-(bel (k % 512 % 128) 7).2, (bel (k % 512 % 128) 7).1)
 else if k % 512 / 128 = 2 then (-(bel (k % 512 % 128) 7).1, -(bel (k % 512 % 128) 7).2)
 else ((bel (k % 512 % 128) 7).2, -(bel (k % 512 % 128) 7).1)

theorem trigT_0 {k : Int} (h : k % 512 / 128 = 0) : trigT k = ((bel (k % 512 % 128) 7).1, (bel (k % 512 % 128) 7).2) := by
 unfold trigT; rw [if_pos h]
theorem trigT_1 {k : Int} (h : k % 512 / 128 = 1) : trigT k = (-(bel (k % 512 % 128) 7).2, (bel (k % 512 % 128) 7).1) := by
 unfold trigT; rw [if_neg (by omega), if_pos h]
theorem trigT_2 {k : Int} (h : k % 512 / 128 = 2) : trigT k = (-(bel (k % 512 % 128) 7).1, -(bel (k % 512 % 128) 7).2) := by
 unfold trigT; rw [if_neg (by omega), if_neg (by omega), if_pos h]
theorem trigT_3 {k : Int} (h : k % 512 / 128 = 3) : trigT k = ((bel (k % 512 % 128) 7).2, -(bel (k % 512 % 128) 7).1) := by
 unfold trigT; rw [if_neg (by omega), if_neg (by omega), if_neg (by omega)]

theorem trigT_bd (k : Int) : -1073741824 ≤ (trigT k).1 ∧ (trigT k).1 ≤ 1073741824 ∧ -1073741824 ≤ (trigT k).2 ∧ (trigT k).2 ≤ 1073741824 := by
 have hb := bel_bd (k := k % 512 % 128) (by omega) (by omega) (n := 7) (by omega)
 unfold trigT
 split
 · dsimp only; omega
 · split
   · dsimp only; omega
   · split <;> (dsimp only; omega)

theorem trigT_512 (k : Int) : trigT (k % 512) = trigT k := by
 unfold trigT; rw [Int.emod_emod_of_dvd _ (by decide)]

end Go.Proofs.YtiigipnfnfpepaaGreatDoor
namespace Go.Proofs.YtiigipnfnfpepaaGreatDoor

def rot (p : Int × Int) : Int × Int := (-p.2, p.1)

theorem trigT_congr {a b : Int} (h : a % 512 = b % 512) : trigT a = trigT b := by
 rw [← trigT_512 a, ← trigT_512 b, h]

theorem trigT_128 (k : Int) : trigT (k + 128) = rot (trigT k) := by
 have hq : k % 512 / 128 = 0 ∨ k % 512 / 128 = 1 ∨ k % 512 / 128 = 2 ∨ k % 512 / 128 = 3 := by omega
 have e : (k + 128) % 512 % 128 = k % 512 % 128 := by omega
 rcases hq with hq | hq | hq | hq
 · rw [trigT_0 hq, trigT_1 (by omega), e]; rfl
 · rw [trigT_1 hq, trigT_2 (by omega), e]; rfl
 · rw [trigT_2 hq, trigT_3 (by omega), e]; simp [rot]
 · rw [trigT_3 hq, trigT_0 (by omega), e]; simp [rot]

theorem quarters {Q : Int → Prop} (hp : ∀ j, Q (j % 512) → Q j) (hs : ∀ j, Q j → Q (j + 128)) (h0 : ∀ j, 0 ≤ j → j < 128 → Q j) (j : Int) : Q j := by
 apply hp
 have hq : j % 512 / 128 = 0 ∨ j % 512 / 128 = 1 ∨ j % 512 / 128 = 2 ∨ j % 512 / 128 = 3 := by omega
 rcases hq with hq | hq | hq | hq
 · exact h0 _ (by omega) (by omega)
 · have := hs _ (h0 (j % 512 - 128) (by omega) (by omega))
   rwa [show j % 512 - 128 + 128 = j % 512 by omega] at this
 · have := hs _ (hs _ (h0 (j % 512 - 256) (by omega) (by omega)))
   rwa [show j % 512 - 256 + 128 + 128 = j % 512 by omega] at this
 · have := hs _ (hs _ (hs _ (h0 (j % 512 - 384) (by omega) (by omega))))
   rwa [show j % 512 - 384 + 128 + 128 + 128 = j % 512 by omega] at this

theorem close_all : ∀ i : Fin 512, (trigT i.val).1 - (trigT (128 - i.val)).2 ≤ 2048 ∧ (trigT (128 - i.val)).2 - (trigT i.val).1 ≤ 2048 ∧
 (trigT i.val).1 * (trigT i.val).1 + (trigT i.val).2 * (trigT i.val).2 - 1152921504606846976 ≤ 4398046511104 ∧
 1152921504606846976 - ((trigT i.val).1 * (trigT i.val).1 + (trigT i.val).2 * (trigT i.val).2) ≤ 4398046511104 := by decide +kernel

theorem trig_close (k : Int) : (trigT k).1 - (trigT (128 - k)).2 ≤ 2048 ∧ (trigT (128 - k)).2 - (trigT k).1 ≤ 2048 ∧
 (trigT k).1 * (trigT k).1 + (trigT k).2 * (trigT k).2 - 1152921504606846976 ≤ 4398046511104 ∧
 1152921504606846976 - ((trigT k).1 * (trigT k).1 + (trigT k).2 * (trigT k).2) ≤ 4398046511104 := by
 have h := close_all ⟨(k % 512).toNat, by omega⟩
 have e : (((k % 512).toNat : Nat) : Int) = k % 512 := by omega
 simp only [e] at h
 rw [trigT_512, trigT_congr (a := 128 - k % 512) (b := 128 - k) (by omega)] at h
 exact h
end Go.Proofs.YtiigipnfnfpepaaGreatDoor
namespace Go.Proofs.YtiigipnfnfpepaaGreatDoor

end Go.Proofs.YtiigipnfnfpepaaGreatDoor
namespace Go.Proofs.YtiigipnfnfpepaaGreatDoor

def part (x m : Int) : Int := (x * m + 16384) / 32768
def facP (k : Int) : Int := ((1073741824 - (trigT k).1) * 32768 + (trigT k).2 / 2) / (trigT k).2
def facQ (k : Int) : Int := ((trigT k).2 + 16384) / 32768

theorem fac_all : ∀ k : Fin 65, 0 ≤ facP k.val ∧ facP k.val ≤ 13573 ∧ 0 ≤ facQ k.val ∧ facQ k.val ≤ 23170 ∧ (1 ≤ k.val → 13176485 ≤ (trigT k.val).2) := by decide +kernel
theorem fac_bd {k : Int} (h0 : 0 ≤ k) (h1 : k ≤ 64) : 0 ≤ facP k ∧ facP k ≤ 13573 ∧ 0 ≤ facQ k ∧ facQ k ≤ 23170 ∧ (1 ≤ k → 13176485 ≤ (trigT k).2) := by
 have h := fac_all ⟨k.toNat, by omega⟩
 have e : ((k.toNat : Nat) : Int) = k := by omega
 simp only [e] at h
 exact ⟨h.1, h.2.1, h.2.2.1, h.2.2.2.1, fun hk => h.2.2.2.2 (by omega)⟩
theorem facP_0 : facP 0 = 0 := by decide +kernel
theorem facQ_0 : facQ 0 = 0 := by decide +kernel

theorem mul_bd {x m b c : Int} (hm : 0 ≤ m) (hc : m ≤ c) (hx : -b ≤ x) (hx1 : x ≤ b) : -(b * c) ≤ x * m ∧ x * m ≤ b * c := by
 have hb : 0 ≤ b := by omega
 have h1 : x * m ≤ b * m := Int.mul_le_mul_of_nonneg_right hx1 hm
 have h2 : -b * m ≤ x * m := Int.mul_le_mul_of_nonneg_right hx hm
 have h3 : b * m ≤ b * c := Int.mul_le_mul_of_nonneg_left hc hb
 rw [Int.neg_mul] at h2
 omega

theorem part_bd {x m b : Int} (hm : 0 ≤ m) (hc : m ≤ 32768) (hx : -b ≤ x) (hx1 : x ≤ b) : -b ≤ part x m ∧ part x m ≤ b := by
 have h := mul_bd hm hc hx hx1
 unfold part
 omega

def small (a b k : Int) (back : Bool) : Int × Int :=
 if back then
  (a + part b (facP k) + part (b - part (a + part b (facP k)) (facQ k)) (facP k), b - part (a + part b (facP k)) (facQ k))
 else
  (a - part b (facP k) - part (b + part (a - part b (facP k)) (facQ k)) (facP k), b + part (a - part b (facP k)) (facQ k))

theorem part_sp (x m : Int) : x * m - 16383 ≤ 32768 * part x m ∧ 32768 * part x m ≤ x * m + 16384 := by
 unfold part
 omega

theorem steps_bd {a b p q c u v z : Int} (_hp : 0 ≤ p) (_hp1 : p ≤ 13573) (_hq : 0 ≤ q) (_hq1 : q ≤ 23170) (ha : -c ≤ a) (ha1 : a ≤ c) (hb : -c ≤ b) (hb1 : b ≤ c)
 (hu : -(c * 13573) - 16384 ≤ 32768 * u ∧ 32768 * u ≤ c * 13573 + 16384)
 (hv : ∀ d, -d ≤ a - u → a - u ≤ d → -(d * 23170) - 16384 ≤ 32768 * v ∧ 32768 * v ≤ d * 23170 + 16384)
 (hz : ∀ d, -d ≤ b + v → b + v ≤ d → -(d * 13573) - 16384 ≤ 32768 * z ∧ 32768 * z ≤ d * 13573 + 16384) :
 -(3 * c + 3) ≤ a - u - z ∧ a - u - z ≤ 3 * c + 3 ∧ -(3 * c + 3) ≤ b + v ∧ b + v ≤ 3 * c + 3 := by
 have h1 := hv (c + (c * 13573 + 16384) / 32768) (by omega) (by omega)
 have h2 := hz (2 * c + 1) (by omega) (by omega)
 omega

theorem part_of {x m d c : Int} (hm : 0 ≤ m) (hc : m ≤ c) (h0 : -d ≤ x) (h1 : x ≤ d) : -(d * c) - 16384 ≤ 32768 * part x m ∧ 32768 * part x m ≤ d * c + 16384 := by
 have h := mul_bd hm hc h0 h1
 have h2 := part_sp x m
 omega

theorem small_bd {a b k : Int} (s : Bool) {c : Int} (h0 : 0 ≤ k) (h1 : k ≤ 64) (ha : -c ≤ a) (ha1 : a ≤ c) (hb : -c ≤ b) (hb1 : b ≤ c) :
 -(3 * c + 3) ≤ (small a b k s).1 ∧ (small a b k s).1 ≤ 3 * c + 3 ∧ -(3 * c + 3) ≤ (small a b k s).2 ∧ (small a b k s).2 ≤ 3 * c + 3 := by
 have hf := fac_bd h0 h1
 cases s with
 | false =>
  simp only [small, Bool.false_eq_true, if_false]
  exact steps_bd hf.1 hf.2.1 hf.2.2.1 hf.2.2.2.1 ha ha1 hb hb1 (part_of hf.1 hf.2.1 hb hb1) (fun d h0 h1 => part_of hf.2.2.1 hf.2.2.2.1 h0 h1) (fun d h0 h1 => part_of hf.1 hf.2.1 h0 h1)
 | true =>
  simp only [small, if_true]
  have h := steps_bd (a := a) (b := b) (c := c) (u := -part b (facP k)) (v := -part (a + part b (facP k)) (facQ k)) (z := -part (b - part (a + part b (facP k)) (facQ k)) (facP k)) hf.1 hf.2.1 hf.2.2.1 hf.2.2.2.1 ha ha1 hb hb1
   (by have := part_of (x := b) hf.1 hf.2.1 hb hb1; omega)
   (fun d h0 h1 => by have := part_of (x := a + part b (facP k)) (d := d) hf.2.2.1 hf.2.2.2.1 (by omega) (by omega); omega)
   (fun d h0 h1 => by have := part_of (x := b - part (a + part b (facP k)) (facQ k)) (d := d) hf.1 hf.2.1 (by omega) (by omega); omega)
  omega

def rots : Nat → Int × Int → Int × Int
 | 0, p => p
 | n + 1, p => rots n (-p.2, p.1)
def unrots : Nat → Int × Int → Int × Int
 | 0, p => p
 | n + 1, p => unrots n (p.2, -p.1)
def quarts (k : Int) : Nat := (k % 512 / 128 + if k % 512 % 128 ≤ 64 then 0 else 1).toNat

def turnL (a b k : Int) : Int × Int :=
 if k % 512 % 128 ≤ 64 then rots (quarts k) (small a b (k % 512 % 128) false)
 else rots (quarts k) (small a b (128 - k % 512 % 128) true)
def backL (a b k : Int) : Int × Int :=
 if k % 512 % 128 ≤ 64 then small (unrots (quarts k) (a, b)).1 (unrots (quarts k) (a, b)).2 (k % 512 % 128) true
 else small (unrots (quarts k) (a, b)).1 (unrots (quarts k) (a, b)).2 (128 - k % 512 % 128) false

end Go.Proofs.YtiigipnfnfpepaaGreatDoor
namespace Go.Proofs.YtiigipnfnfpepaaGreatDoor

theorem near_b {a b p q c s u v r1 r2 : Int} (h1 : 32768 * u = b * p + r1) (h2 : 32768 * v = (a - u) * q + r2) :
 1073741824 * (b + v) - (a * s + b * c) = a * (32768 * q - s) + b * (1073741824 - p * q - c) + (32768 * r2 - q * r1) := by
 grind
theorem near_a {a b p q c s u v z r1 r2 r3 : Int} (h1 : 32768 * u = b * p + r1) (h2 : 32768 * v = (a - u) * q + r2) (h3 : 32768 * z = (b + v) * p + r3) :
 32768 * (1073741824 * (a - u - z) - (a * c - b * s)) = a * (32768 * (1073741824 - p * q - c)) - b * (p * (2147483648 - p * q) - 32768 * s) - r1 * (1073741824 - p * q) - p * (32768 * r2) - 1073741824 * r3 := by
 grind

theorem mul_in {x y b c : Int} (hx : -b ≤ x) (hx1 : x ≤ b) (hy : -c ≤ y) (hy1 : y ≤ c) : -(b * c) ≤ x * y ∧ x * y ≤ b * c := by
 have h1 := Int.mul_nonneg (a := b - x) (b := c - y) (by omega) (by omega)
 have h2 := Int.mul_nonneg (a := b + x) (b := c + y) (by omega) (by omega)
 have h3 := Int.mul_nonneg (a := b - x) (b := c + y) (by omega) (by omega)
 have h4 := Int.mul_nonneg (a := b + x) (b := c - y) (by omega) (by omega)
 constructor <;> grind

def FacNear (p q c s : Int) : Prop :=
 -32768 ≤ 1073741824 - p * q - c ∧ 1073741824 - p * q - c ≤ 32768 ∧ -32768 ≤ 32768 * q - s ∧ 32768 * q - s ≤ 32768 ∧
 -1073741824 ≤ p * (2147483648 - p * q) - 32768 * s ∧ p * (2147483648 - p * q) - 32768 * s ≤ 1073741824 ∧
 -13573 ≤ p ∧ p ≤ 13573 ∧ -23170 ≤ q ∧ q ≤ 23170 ∧ 0 ≤ 1073741824 - p * q ∧ 0 ≤ p * q
instance (p q c s : Int) : Decidable (FacNear p q c s) := by unfold FacNear; exact inferInstance

theorem facNear_all : ∀ k : Fin 65, FacNear (facP k.val) (facQ k.val) (trigT k.val).1 (trigT k.val).2 ∧ FacNear (-facP k.val) (-facQ k.val) (trigT (-k.val)).1 (trigT (-k.val)).2 := by decide +kernel
theorem facNear {k : Int} (h0 : 0 ≤ k) (h1 : k ≤ 64) : FacNear (facP k) (facQ k) (trigT k).1 (trigT k).2 ∧ FacNear (-facP k) (-facQ k) (trigT (-k)).1 (trigT (-k)).2 := by
 have h := facNear_all ⟨k.toNat, by omega⟩
 have e : ((k.toNat : Nat) : Int) = k := by omega
 simp only [e] at h
 exact h

def TurnNear (m a b c s x y : Int) : Prop :=
 -(65536 * m + 1296121856) ≤ 1073741824 * x - (a * c - b * s) ∧ 1073741824 * x - (a * c - b * s) ≤ 65536 * m + 1296121856 ∧
 -(65536 * m + 1296121856) ≤ 1073741824 * y - (a * s + b * c) ∧ 1073741824 * y - (a * s + b * c) ≤ 65536 * m + 1296121856

theorem steps_near {m a b p q c s u v z r1 r2 r3 : Int} (hf : FacNear p q c s) (ha : -m ≤ a) (ha1 : a ≤ m) (hb : -m ≤ b) (hb1 : b ≤ m)
 (h1 : 32768 * u = b * p + r1) (h2 : 32768 * v = (a - u) * q + r2) (h3 : 32768 * z = (b + v) * p + r3)
 (e1 : -16384 ≤ r1) (e1' : r1 ≤ 16384) (e2 : -16384 ≤ r2) (e2' : r2 ≤ 16384) (e3 : -16384 ≤ r3) (e3' : r3 ≤ 16384) : TurnNear m a b c s (a - u - z) (b + v) := by
 obtain ⟨f1, f2, f3, f4, f5, f6, f7, f8, f9, f10, f11, f12⟩ := hf
 have ea := near_a (c := c) (s := s) h1 h2 h3
 have eb := near_b (c := c) (s := s) h1 h2
 have g1 := mul_in ha ha1 f3 f4
 have g2 := mul_in hb hb1 f1 f2
 have g3 := mul_in (x := q) (y := r1) (b := 23170) (c := 16384) f9 f10 e1 e1'
 have g4 := mul_in (x := a) (y := 32768 * (1073741824 - p * q - c)) (b := m) (c := 1073741824) ha ha1 (by omega) (by omega)
 have g5 := mul_in (x := b) (y := p * (2147483648 - p * q) - 32768 * s) (b := m) (c := 1073741824) hb hb1 f5 f6
 have g6 := mul_in (x := r1) (y := 1073741824 - p * q) (b := 16384) (c := 1073741824) e1 e1' (by omega) (by omega)
 have g7 := mul_in (x := p) (y := 32768 * r2) (b := 13573) (c := 536870912) f7 f8 (by omega) (by omega)
 refine ⟨?_, ?_, ?_, ?_⟩
 · omega
 · omega
 · omega
 · omega

theorem small_near {m a b k : Int} (h0 : 0 ≤ k) (h1 : k ≤ 64) (ha : -m ≤ a) (ha1 : a ≤ m) (hb : -m ≤ b) (hb1 : b ≤ m) :
 TurnNear m a b (trigT k).1 (trigT k).2 (small a b k false).1 (small a b k false).2 ∧ TurnNear m a b (trigT (-k)).1 (trigT (-k)).2 (small a b k true).1 (small a b k true).2 := by
 have hf := facNear h0 h1
 refine ⟨?_, ?_⟩
 · simp only [small, Bool.false_eq_true, if_false]
   have p1 := part_sp b (facP k)
   have p2 := part_sp (a - part b (facP k)) (facQ k)
   have p3 := part_sp (b + part (a - part b (facP k)) (facQ k)) (facP k)
   exact steps_near hf.1 ha ha1 hb hb1 (u := part b (facP k)) (v := part (a - part b (facP k)) (facQ k)) (z := part (b + part (a - part b (facP k)) (facQ k)) (facP k))
    (r1 := 32768 * part b (facP k) - b * facP k) (r2 := 32768 * part (a - part b (facP k)) (facQ k) - (a - part b (facP k)) * facQ k)
    (r3 := 32768 * part (b + part (a - part b (facP k)) (facQ k)) (facP k) - (b + part (a - part b (facP k)) (facQ k)) * facP k)
    (by omega) (by omega) (by omega) (by omega) (by omega) (by omega) (by omega) (by omega) (by omega)
 · simp only [small, if_true]
   have p1 := part_sp b (facP k)
   have p2 := part_sp (a + part b (facP k)) (facQ k)
   have p3 := part_sp (b - part (a + part b (facP k)) (facQ k)) (facP k)
   have h := steps_near hf.2 ha ha1 hb hb1 (u := -part b (facP k)) (v := -part (a + part b (facP k)) (facQ k)) (z := -part (b - part (a + part b (facP k)) (facQ k)) (facP k))
    (r1 := b * facP k - 32768 * part b (facP k)) (r2 := (a + part b (facP k)) * facQ k - 32768 * part (a + part b (facP k)) (facQ k))
    (r3 := (b - part (a + part b (facP k)) (facQ k)) * facP k - 32768 * part (b - part (a + part b (facP k)) (facQ k)) (facP k))
    (by simp only [Int.mul_neg]; omega) (by simp only [Int.mul_neg, Int.sub_neg]; omega) (by simp only [Int.mul_neg, ← Int.sub_eq_add_neg]; omega) (by omega) (by omega) (by omega) (by omega) (by omega) (by omega)
   rw [Int.sub_neg, Int.sub_neg, ← Int.sub_eq_add_neg] at h
   exact h

theorem near_rot {m a b c s x y : Int} (h : TurnNear m a b c s x y) : TurnNear m a b (-s) c (-y) x := by
 unfold TurnNear at *
 simp only [Int.mul_neg] at *
 omega

theorem rots_succ : ∀ n p, rots (n + 1) p = rot (rots n p) := by
 intro n
 induction n with
 | zero => intro p; rfl
 | succ n ih => intro p; rw [rots, ih]; rfl
theorem rots_4 (p : Int × Int) : rots 4 p = p := by
 obtain ⟨x, y⟩ := p
 simp only [rots, Int.neg_neg]

theorem turnL_congr {j k : Int} (a b : Int) (h : j % 512 = k % 512) : turnL a b j = turnL a b k := by
 unfold turnL quarts
 rw [h]
theorem backL_congr {j k : Int} (a b : Int) (h : j % 512 = k % 512) : backL a b j = backL a b k := by
 unfold backL quarts
 rw [h]

theorem turnL_128 (a b k : Int) : turnL a b (k + 128) = rot (turnL a b k) := by
 have e : (k + 128) % 512 % 128 = k % 512 % 128 := by omega
 unfold turnL quarts
 rw [e]
 have hq : k % 512 / 128 = 0 ∨ k % 512 / 128 = 1 ∨ k % 512 / 128 = 2 ∨ k % 512 / 128 = 3 := by omega
 split
 · rcases hq with hq | hq | hq | hq
   · rw [hq, show (k + 128) % 512 / 128 = 1 by omega]; exact rots_succ _ _
   · rw [hq, show (k + 128) % 512 / 128 = 2 by omega]; exact rots_succ _ _
   · rw [hq, show (k + 128) % 512 / 128 = 3 by omega]; exact rots_succ _ _
   · rw [hq, show (k + 128) % 512 / 128 = 0 by omega, ← rots_succ]; exact (rots_4 _).symm
 · rcases hq with hq | hq | hq | hq
   · rw [hq, show (k + 128) % 512 / 128 = 1 by omega]; exact rots_succ _ _
   · rw [hq, show (k + 128) % 512 / 128 = 2 by omega]; exact rots_succ _ _
   · rw [hq, show (k + 128) % 512 / 128 = 3 by omega]; exact rots_succ _ _
   · rw [hq, show (k + 128) % 512 / 128 = 0 by omega, ← rots_succ]
     show rots 1 _ = rots 5 _
     rw [rots_succ 4, rots_4]; rfl

theorem turnL_near {m a b : Int} (ha : -m ≤ a) (ha1 : a ≤ m) (hb : -m ≤ b) (hb1 : b ≤ m) (k : Int) : TurnNear m a b (trigT k).1 (trigT k).2 (turnL a b k).1 (turnL a b k).2 := by
 refine quarters (Q := fun k => TurnNear m a b (trigT k).1 (trigT k).2 (turnL a b k).1 (turnL a b k).2) ?_ ?_ ?_ k
 · intro j h
   rw [trigT_512, turnL_congr a b (j := j % 512) (k := j) (by omega)] at h
   exact h
 · intro j h
   rw [trigT_128, turnL_128]
   exact near_rot h
 · intro j h0 h1
   by_cases h : j ≤ 64
   · have e : turnL a b j = small a b j false := by
      unfold turnL quarts
      rw [show j % 512 % 128 = j by omega, if_pos h, if_pos h, show j % 512 / 128 = 0 by omega]
      rfl
     rw [e]
     exact (small_near h0 h ha ha1 hb hb1).1
   · have e : turnL a b j = rot (small a b (128 - j) true) := by
      unfold turnL quarts
      rw [show j % 512 % 128 = j by omega, if_neg h, if_neg h, show j % 512 / 128 = 0 by omega]
      rfl
     have e2 : trigT j = rot (trigT (-(128 - j))) := by rw [← trigT_128]; exact congrArg trigT (by omega)
     rw [e, e2]
     exact near_rot (small_near (by omega) (by omega) ha ha1 hb hb1).2
end Go.Proofs.YtiigipnfnfpepaaGreatDoor
namespace Go.Proofs.YtiigipnfnfpepaaGreatDoor

theorem trig_sum_all : ∀ k : Fin 512, ((trigT k.val).1.natAbs : Int) + (trigT k.val).2.natAbs ≤ 1518500276 := by decide +kernel
theorem trig_sum (k : Int) : ((trigT k).1.natAbs : Int) + (trigT k).2.natAbs ≤ 1518500276 := by
 have h := trig_sum_all ⟨(k % 512).toNat, by omega⟩
 have e : (((k % 512).toNat : Nat) : Int) = k % 512 := by omega
 simp only [e] at h
 rw [trigT_512] at h
 exact h

theorem turned_in {m a b c s : Int} (ha : -m ≤ a) (ha1 : a ≤ m) (hb : -m ≤ b) (hb1 : b ≤ m) (h : (c.natAbs : Int) + s.natAbs ≤ 1518500276) :
 -(m * 1518500276) ≤ a * c - b * s ∧ a * c - b * s ≤ m * 1518500276 ∧ -(m * 1518500276) ≤ a * s + b * c ∧ a * s + b * c ≤ m * 1518500276 := by
 have h1 := mul_in (x := a) (y := c) (c := (c.natAbs : Int)) ha ha1 (by omega) (by omega)
 have h2 := mul_in (x := b) (y := s) (c := (s.natAbs : Int)) hb hb1 (by omega) (by omega)
 have h3 := mul_in (x := a) (y := s) (c := (s.natAbs : Int)) ha ha1 (by omega) (by omega)
 have h4 := mul_in (x := b) (y := c) (c := (c.natAbs : Int)) hb hb1 (by omega) (by omega)
 have h5 : m * ((c.natAbs : Int) + s.natAbs) ≤ m * 1518500276 := Int.mul_le_mul_of_nonneg_left h (by omega)
 rw [Int.mul_add] at h5
 omega

theorem sq_parts {a b c s x y : Int} : 1152921504606846976 * (x * x + y * y) = (a * a + b * b) * (c * c + s * s) +
 2 * ((a * c - b * s) * (1073741824 * x - (a * c - b * s)) + (a * s + b * c) * (1073741824 * y - (a * s + b * c))) +
 ((1073741824 * x - (a * c - b * s)) * (1073741824 * x - (a * c - b * s)) + (1073741824 * y - (a * s + b * c)) * (1073741824 * y - (a * s + b * c))) := by grind

theorem sq_nonneg (x : Int) : 0 ≤ x * x := by
 rcases Int.le_total 0 x with h | h
 · exact Int.mul_nonneg h h
 · exact Int.mul_nonneg_of_nonpos_of_nonpos h h

theorem exp_1 (m : Int) : m * 1518500276 * (65536 * m + 1296121856) = 99516434087936 * (m * m) + 1968161396065632256 * m := by grind
theorem exp_2 (m : Int) : (65536 * m + 1296121856) * (65536 * m + 1296121856) = 4294967296 * (m * m) + 169885283909632 * m + 1679931865600884736 := by grind

theorem size_near {m a b c s x y : Int} (_hm : 0 ≤ m) (ha : -m ≤ a) (ha1 : a ≤ m) (hb : -m ≤ b) (hb1 : b ≤ m) (hS : m * m ≤ a * a + b * b)
 (h : (c.natAbs : Int) + s.natAbs ≤ 1518500276) (hc1 : c * c + s * s ≤ 1152921504606846976 + 4398046511104) (hc2 : 1152921504606846976 - 4398046511104 ≤ c * c + s * s)
 (hn : TurnNear m a b c s x y) :
 1024 * (x * x + y * y - (a * a + b * b)) ≤ a * a + b * b + 8192 * m + 8192 ∧ 1024 * ((a * a + b * b) - (x * x + y * y)) ≤ a * a + b * b + 8192 * m + 8192 := by
 have hk := sq_parts (a := a) (b := b) (c := c) (s := s) (x := x) (y := y)
 have hU := turned_in ha ha1 hb hb1 h
 obtain ⟨n1, n2, n3, n4⟩ := hn
 generalize 1073741824 * x - (a * c - b * s) = e1 at *
 generalize 1073741824 * y - (a * s + b * c) = e2 at *
 generalize a * c - b * s = U at *
 generalize a * s + b * c = V at *
 have q1 := mul_in hU.1 hU.2.1 n1 n2
 have q2 := mul_in hU.2.2.1 hU.2.2.2 n3 n4
 have q3 := mul_in n1 n2 n1 n2
 have q4 := mul_in n3 n4 n3 n4
 have s1 : (a * a + b * b) * (c * c + s * s) ≤ (a * a + b * b) * (1152921504606846976 + 4398046511104) := Int.mul_le_mul_of_nonneg_left hc1 (by have := sq_nonneg a; have := sq_nonneg b; omega)
 have s2 : (a * a + b * b) * (1152921504606846976 - 4398046511104) ≤ (a * a + b * b) * (c * c + s * s) := Int.mul_le_mul_of_nonneg_left hc2 (by have := sq_nonneg a; have := sq_nonneg b; omega)
 have t1 := sq_nonneg e1
 have t2 := sq_nonneg e2
 have t3 := sq_nonneg m
 rw [exp_1] at q1 q2
 rw [exp_2] at q3 q4
 generalize (a * a + b * b) * (c * c + s * s) = W at *
 generalize hX : x * x + y * y = X at *
 generalize hA : a * a + b * b = A at *
 generalize hM : m * m = M at *
 generalize U * e1 = k1 at *
 generalize V * e2 = k2 at *
 generalize e1 * e1 = k3 at *
 generalize e2 * e2 = k4 at *
 omega

theorem turnL_size {m a b : Int} (hm : 0 ≤ m) (ha : -m ≤ a) (ha1 : a ≤ m) (hb : -m ≤ b) (hb1 : b ≤ m) (hS : m * m ≤ a * a + b * b) (k : Int) :
 1024 * ((turnL a b k).1 * (turnL a b k).1 + (turnL a b k).2 * (turnL a b k).2 - (a * a + b * b)) ≤ a * a + b * b + 8192 * m + 8192 ∧
 1024 * ((a * a + b * b) - ((turnL a b k).1 * (turnL a b k).1 + (turnL a b k).2 * (turnL a b k).2)) ≤ a * a + b * b + 8192 * m + 8192 := by
 have hc := trig_close k
 exact size_near hm ha ha1 hb hb1 hS (trig_sum k) (by omega) (by omega) (turnL_near ha ha1 hb hb1 k)

end Go.Proofs.YtiigipnfnfpepaaGreatDoor
namespace Go.Proofs.YtiigipnfnfpepaaGreatDoor

theorem unrots_4 (p : Int × Int) : unrots 4 p = p := by
 obtain ⟨x, y⟩ := p
 simp only [unrots, Int.neg_neg]

theorem backL_128 (a b k : Int) : backL a b (k + 128) = backL b (-a) k := by
 have e : (k + 128) % 512 % 128 = k % 512 % 128 := by omega
 have h : ∀ n, unrots (n + 1) (a, b) = unrots n (b, -a) := fun n => rfl
 unfold backL quarts
 rw [e]
 have hq : k % 512 / 128 = 0 ∨ k % 512 / 128 = 1 ∨ k % 512 / 128 = 2 ∨ k % 512 / 128 = 3 := by omega
 split
 · rcases hq with hq | hq | hq | hq
   · rw [hq, show (k + 128) % 512 / 128 = 1 by omega]; rfl
   · rw [hq, show (k + 128) % 512 / 128 = 2 by omega]; rfl
   · rw [hq, show (k + 128) % 512 / 128 = 3 by omega]; rfl
   · rw [hq, show (k + 128) % 512 / 128 = 0 by omega]
     show small (unrots 0 (a, b)).1 (unrots 0 (a, b)).2 _ _ = small (unrots 4 (a, b)).1 (unrots 4 (a, b)).2 _ _
     rw [unrots_4]; rfl
 · rcases hq with hq | hq | hq | hq
   · rw [hq, show (k + 128) % 512 / 128 = 1 by omega]; rfl
   · rw [hq, show (k + 128) % 512 / 128 = 2 by omega]; rfl
   · rw [hq, show (k + 128) % 512 / 128 = 3 by omega]; rfl
   · rw [hq, show (k + 128) % 512 / 128 = 0 by omega]
     show small (unrots 1 (a, b)).1 (unrots 1 (a, b)).2 _ _ = small (unrots 5 (a, b)).1 (unrots 5 (a, b)).2 _ _
     rw [show unrots 5 (a, b) = unrots 4 (b, -a) from rfl, unrots_4]; rfl

theorem near_unrot {m a b c s x y : Int} (h : TurnNear m b (-a) (-s) c x y) : TurnNear m a b c s x y := by
 unfold TurnNear at *
 simp only [Int.mul_neg, Int.neg_mul] at *
 omega

theorem backL_near {m a b : Int} (ha : -m ≤ a) (ha1 : a ≤ m) (hb : -m ≤ b) (hb1 : b ≤ m) (k : Int) : TurnNear m a b (trigT (-k)).1 (trigT (-k)).2 (backL a b k).1 (backL a b k).2 := by
 refine quarters (Q := fun k => ∀ a b : Int, -m ≤ a → a ≤ m → -m ≤ b → b ≤ m → TurnNear m a b (trigT (-k)).1 (trigT (-k)).2 (backL a b k).1 (backL a b k).2) ?_ ?_ ?_ k a b ha ha1 hb hb1
 · intro j h a b h1 h2 h3 h4
   have := h a b h1 h2 h3 h4
   rw [trigT_congr (a := -(j % 512)) (b := -j) (by omega), backL_congr a b (j := j % 512) (k := j) (by omega)] at this
   exact this
 · intro j h a b h1 h2 h3 h4
   have := h b (-a) h3 h4 (by omega) (by omega)
   rw [backL_128]
   have e : trigT (-j) = rot (trigT (-(j + 128))) := by rw [← trigT_128]; exact congrArg trigT (by omega)
   rw [e] at this
   exact near_unrot this
 · intro j h0 h1 a b k1 k2 k3 k4
   by_cases h : j ≤ 64
   · have e : backL a b j = small a b j true := by
      unfold backL quarts
      rw [show j % 512 % 128 = j by omega, if_pos h, if_pos h, show j % 512 / 128 = 0 by omega]
      rfl
     rw [e]
     exact (small_near h0 h k1 k2 k3 k4).2
   · have e : backL a b j = small b (-a) (128 - j) false := by
      unfold backL quarts
      rw [show j % 512 % 128 = j by omega, if_neg h, if_neg h, show j % 512 / 128 = 0 by omega]
      rfl
     have e2 : trigT (128 - j) = rot (trigT (-j)) := by rw [← trigT_128]; exact congrArg trigT (by omega)
     have := (small_near (k := 128 - j) (a := b) (b := -a) (m := m) (by omega) (by omega) k3 k4 (by omega) (by omega)).1
     rw [e]
     rw [e2] at this
     exact near_unrot this

theorem near_in {m a b c s x y : Int} (ha : -m ≤ a) (ha1 : a ≤ m) (hb : -m ≤ b) (hb1 : b ≤ m) (h : (c.natAbs : Int) + s.natAbs ≤ 1518500276) (hn : TurnNear m a b c s x y) :
 -(m + m / 2 + 2) ≤ x ∧ x ≤ m + m / 2 + 2 ∧ -(m + m / 2 + 2) ≤ y ∧ y ≤ m + m / 2 + 2 := by
 have hU := turned_in ha ha1 hb hb1 h
 obtain ⟨n1, n2, n3, n4⟩ := hn
 omega

theorem turnL_in {c a b k : Int} (_hc : 0 ≤ c) (ha : -c ≤ a) (ha1 : a ≤ c) (hb : -c ≤ b) (hb1 : b ≤ c) :
 -(c + c / 2 + 2) ≤ (turnL a b k).1 ∧ (turnL a b k).1 ≤ c + c / 2 + 2 ∧ -(c + c / 2 + 2) ≤ (turnL a b k).2 ∧ (turnL a b k).2 ≤ c + c / 2 + 2 :=
 near_in ha ha1 hb hb1 (trig_sum k) (turnL_near ha ha1 hb hb1 k)
theorem backL_size {m a b : Int} (hm : 0 ≤ m) (ha : -m ≤ a) (ha1 : a ≤ m) (hb : -m ≤ b) (hb1 : b ≤ m) (hS : m * m ≤ a * a + b * b) (k : Int) :
 1024 * ((backL a b k).1 * (backL a b k).1 + (backL a b k).2 * (backL a b k).2 - (a * a + b * b)) ≤ a * a + b * b + 8192 * m + 8192 := by
 have hc := trig_close (-k)
 exact (size_near hm ha ha1 hb hb1 hS (trig_sum (-k)) (by omega) (by omega) (backL_near ha ha1 hb hb1 k)).1
end Go.Proofs.YtiigipnfnfpepaaGreatDoor
namespace Go.Proofs.YtiigipnfnfpepaaGreatDoor

def AllIn (c : Int) (zs : List Int) : Prop := ∀ z ∈ zs, -c ≤ z ∧ z ≤ c
theorem allIn_get {c : Int} {zs : List Int} (h : AllIn c zs) (i : Nat) (hc : 0 ≤ c := by omega) : -c ≤ zs.getD i 0 ∧ zs.getD i 0 ≤ c := by
 rw [List.getD_eq_getElem?_getD]
 cases hi : zs[i]? with
 | none => simp; omega
 | some z => exact h z (List.mem_of_getElem? hi)
theorem allIn_set {c : Int} {zs : List Int} (h : AllIn c zs) (i : Nat) {v : Int} (h0 : -c ≤ v) (h1 : v ≤ c) : AllIn c (zs.set i v) := by
 intro z hz
 rcases List.mem_or_eq_of_mem_set hz with hz | rfl
 · exact h z hz
 · exact ⟨h0, h1⟩
theorem allIn_mono {c d : Int} {zs : List Int} (h : AllIn c zs) (hcd : c ≤ d) : AllIn d zs := fun z hz => by have := h z hz; omega

def wTurn (i : Nat) (k : Int) (zs : List Int) : List Int :=
 (zs.set (i * 2) (turnL (zs.getD (i * 2) 0) (zs.getD (i * 2 + 1) 0) k).1).set (i * 2 + 1) (turnL (zs.getD (i * 2) 0) (zs.getD (i * 2 + 1) 0) k).2
def wCross1 (p q : Nat) (zs : List Int) : List Int :=
 (zs.set p (turnL (zs.getD p 0) (zs.getD q 0) 64).2).set q (turnL (zs.getD p 0) (zs.getD q 0) 64).1
theorem wCross1_in {p q : Nat} {c : Int} {zs : List Int} (h : AllIn c zs) (hc : 0 ≤ c) : AllIn (c + c / 2 + 2) (wCross1 p q zs) := by
 have h1 := allIn_get h p
 have h2 := allIn_get h q
 have h3 := turnL_in (a := zs.getD p 0) (b := zs.getD q 0) (k := 64) hc h1.1 h1.2 h2.1 h2.2
 exact allIn_set (allIn_set (allIn_mono h (by omega)) p h3.2.2.1 h3.2.2.2) q h3.1 h3.2.1
def wCross (i j : Nat) (zs : List Int) : List Int := wCross1 (i * 2 + 1) (j * 2 + 1) (wCross1 (i * 2) (j * 2) zs)
end Go.Proofs.YtiigipnfnfpepaaGreatDoor
namespace Go.Proofs.YtiigipnfnfpepaaGreatDoor

def seamA (F : Int → Int → Int → Int × Int) (a b : List Int) (k : Nat) : List Int := (List.range a.length).map fun i => if 32 ≤ i + k ∧ i < 32 then (F (a.getD i 0) (b.getD (31 - i) 0) (62 - 4 * ((31 - i : Nat) : Int))).1 else a.getD i 0
def seamB (F : Int → Int → Int → Int × Int) (a b : List Int) (k : Nat) : List Int := (List.range b.length).map fun i => if i < k then (F (a.getD (31 - i) 0) (b.getD i 0) (62 - 4 * (i : Int))).2 else b.getD i 0
theorem seamA_len (F : Int → Int → Int → Int × Int) (a b : List Int) (k : Nat) : (seamA F a b k).length = a.length := by simp [seamA]
theorem seamB_len (F : Int → Int → Int → Int × Int) (a b : List Int) (k : Nat) : (seamB F a b k).length = b.length := by simp [seamB]
section
variable {F G : Int → Int → Int → Int × Int} {a b : List Int} {k i : Nat}
theorem seamA_get (hi : i < a.length) : (seamA F a b k).getD i 0 = if 32 ≤ i + k ∧ i < 32 then (F (a.getD i 0) (b.getD (31 - i) 0) (62 - 4 * ((31 - i : Nat) : Int))).1 else a.getD i 0 := by
 simp [seamA, List.getD_eq_getElem?_getD, List.getElem?_map, List.getElem?_range hi]
theorem seamB_get (hi : i < b.length) : (seamB F a b k).getD i 0 = if i < k then (F (a.getD (31 - i) 0) (b.getD i 0) (62 - 4 * (i : Int))).2 else b.getD i 0 := by
 simp [seamB, List.getD_eq_getElem?_getD, List.getElem?_map, List.getElem?_range hi]
theorem seamA_zero (ha : a.length = 32) : seamA F a b 0 = a := by
 refine list_getD_ext (seamA_len _ _ _ _) (fun i hi => ?_)
 rw [seamA_len] at hi
 rw [seamA_get hi, if_neg (by omega)]
theorem seamB_zero : seamB F a b 0 = b := by
 refine list_getD_ext (seamB_len _ _ _ _) (fun i hi => ?_)
 rw [seamB_len] at hi
 rw [seamB_get hi, if_neg (by omega)]
theorem seamA_succ (ha : a.length = 32) (hk : k < 16) : (seamA F a b k).set (31 - k) (F (a.getD (31 - k) 0) (b.getD k 0) (62 - 4 * (k : Int))).1 = seamA F a b (k + 1) := by
 refine list_getD_ext (by simp [seamA_len]) (fun i hi => ?_)
 have hi' : i < a.length := by simpa [seamA_len] using hi
 rw [set_getD, seamA_get hi', seamA_get hi', seamA_len]
 by_cases e : 31 - k = i
 · subst e
   rw [if_pos ⟨rfl, by omega⟩, if_pos (by omega), show 31 - (31 - k) = k by omega]
 · rw [if_neg (by omega)]
   by_cases h : 32 ≤ i + k ∧ i < 32
   · rw [if_pos h, if_pos (by omega)]
   · rw [if_neg h, if_neg (by omega)]
theorem seamB_succ (_hb : b.length = 32) (_hk : k < 16) : (seamB F a b k).set k (F (a.getD (31 - k) 0) (b.getD k 0) (62 - 4 * (k : Int))).2 = seamB F a b (k + 1) := by
 refine list_getD_ext (by simp [seamB_len]) (fun i hi => ?_)
 have hi' : i < b.length := by simpa [seamB_len] using hi
 rw [set_getD, seamB_get hi', seamB_get hi', seamB_len]
 by_cases e : k = i
 · subst e
   rw [if_pos ⟨rfl, by omega⟩, if_pos (by omega)]
 · rw [if_neg (by omega)]
   by_cases h : i < k
   · rw [if_pos h, if_pos (by omega)]
   · rw [if_neg h, if_neg (by omega)]
theorem seam_here (ha : a.length = 32) (hb : b.length = 32) (_hk : k < 16) : (seamA F a b k).getD (31 - k) 0 = a.getD (31 - k) 0 ∧ (seamB F a b k).getD k 0 = b.getD k 0 := by
 rw [seamA_get (by omega), seamB_get (by omega), if_neg (by omega), if_neg (by omega)]
 exact ⟨rfl, rfl⟩
theorem seamA_in {c : Int} (hc : 0 ≤ c) (ha : AllIn c a) (hb : AllIn c b) (h : ∀ x y k, -c ≤ x → x ≤ c → -c ≤ y → y ≤ c → -(c + c / 2 + 2) ≤ (F x y k).1 ∧ (F x y k).1 ≤ c + c / 2 + 2) (k : Nat) : AllIn (c + c / 2 + 2) (seamA F a b k) := by
 intro z hz
 simp only [seamA, List.mem_map, List.mem_range] at hz
 obtain ⟨i, _, rfl⟩ := hz
 have h1 := allIn_get ha i
 have h2 := allIn_get hb (31 - i)
 split
 · exact h _ _ _ h1.1 h1.2 h2.1 h2.2
 · omega
theorem seamB_in {c : Int} (hc : 0 ≤ c) (ha : AllIn c a) (hb : AllIn c b) (h : ∀ x y k, -c ≤ x → x ≤ c → -c ≤ y → y ≤ c → -(c + c / 2 + 2) ≤ (F x y k).2 ∧ (F x y k).2 ≤ c + c / 2 + 2) (k : Nat) : AllIn (c + c / 2 + 2) (seamB F a b k) := by
 intro z hz
 simp only [seamB, List.mem_map, List.mem_range] at hz
 obtain ⟨i, _, rfl⟩ := hz
 have h1 := allIn_get ha (31 - i)
 have h2 := allIn_get hb i
 split
 · exact h _ _ _ h1.1 h1.2 h2.1 h2.2
 · omega
end
def seam1 (a b : List Int) : List Int := seamA turnL a b 16
def seam2 (a b : List Int) : List Int := seamB turnL a b 16
end Go.Proofs.YtiigipnfnfpepaaGreatDoor
namespace Go.Proofs.YtiigipnfnfpepaaGreatDoor
open Go.RowKit

def RootOk (n : Int) (w : World) (e : Ending) (w' : World) : Prop := ∃ r, IsRoot n r ∧ e = .returned (.int .i64 r) ∧ w = w'
def RootInv (n : Int) (x y : Int) : Prop := ∃ j : Nat, j ≤ 32 ∧ y = 2^j/2 ∧ x * x ≤ n ∧ n < (x + 2^j) * (x + 2^j)

theorem rootInv_start {n : Int} (h0 : 0 < n) (h1 : n < 4611686018427387904) : RootInv n 0 2147483648 :=
 ⟨32, by omega, by decide, by omega, by
  have : ((0 : Int) + 2 ^ 32) * (0 + 2 ^ 32) = 18446744073709551616 := by decide
  omega⟩

theorem rootInv_step {n x y : Int} (h : RootInv n x y) (hy : 0 < y) : ∃ j : Nat, j + 1 ≤ 32 ∧ y = 2 ^ j ∧ (2 : Int) ^ (j + 1) = 2 * y := by
 obtain ⟨j, hj, e, _, _⟩ := h
 cases j with
 | zero => simp at e; omega
 | succ j =>
  have : (2 : Int) ^ (j + 1) = 2 * 2 ^ j := by rw [Int.pow_succ]; omega
  exact ⟨j, hj, by rw [e, this]; omega, by rw [e, this]; omega⟩

theorem small_of_sq {x n : Int} (h : x * x ≤ n) (hn : n < 4611686018427387904) : x < 2147483648 := by
 rcases Int.lt_or_le x 2147483648 with h1 | h1
 · exact h1
 · have := Int.mul_le_mul h1 h1 (by omega) (by omega)
   omega

theorem rootInv_yes {n x y : Int} (h : RootInv n x y) (hx : 0 ≤ x) (hy : 0 < y) (hc : x + y ≤ n / (x + y)) : RootInv n (x + y) (y / 2) := by
 obtain ⟨j, hj, e, e2⟩ := rootInv_step h hy
 obtain ⟨j', _, e', h1, h2⟩ := h
 have ej : (2 : Int) ^ j' = 2 * y ∨ j' = 0 := by
  cases j' with
  | zero => right; rfl
  | succ i => left; rw [e', Int.pow_succ]; omega
 have hsq : (x + y) * (x + y) ≤ n := (Int.le_ediv_iff_mul_le (by omega)).1 hc
 rcases ej with ej | ej
 · refine ⟨j, by omega, by rw [← e], hsq, ?_⟩
   rw [← e, show x + y + y = x + 2 ^ j' by rw [ej]; omega]
   exact h2
 · subst ej; simp at e'; omega

theorem rootInv_no {n x y : Int} (h : RootInv n x y) (hx : 0 ≤ x) (hy : 0 < y) (hc : ¬ x + y ≤ n / (x + y)) : RootInv n x (y / 2) := by
 obtain ⟨j, hj, e, e2⟩ := rootInv_step h hy
 obtain ⟨j', _, e', h1, h2⟩ := h
 have hsq : ¬ (x + y) * (x + y) ≤ n := fun hh => hc ((Int.le_ediv_iff_mul_le (by omega)).2 hh)
 exact ⟨j, by omega, by rw [← e], h1, by rw [← e]; omega⟩

theorem rootInv_end {n x y : Int} (h : RootInv n x y) (hx : 0 ≤ x) (hy : ¬ 0 < y) : IsRoot n x := by
 obtain ⟨j', _, e', h1, h2⟩ := h
 cases j' with
 | zero => exact ⟨hx, h1, by simpa using h2⟩
 | succ i =>
  have h3 : (2 : Int) ^ (i + 1) = 2 * 2 ^ i := by rw [Int.pow_succ]; omega
  have : (0 : Int) < 2 ^ i := Int.pow_pos (by omega)
  omega

set_option maxRecDepth 100000 in
set_option maxHeartbeats 400000 in
theorem root_calls (n : Int) (w : World) (h0 : 0 < n) (h1 : n < 4611686018427387904) :
 Calls Tryz.prog 177 #[.int .i64 n] w (RootOk n w) := by
 go_enter Tryz.func177, Tryz.ntmps177
 go_wp2
 go_loop [3, 4] (fun o b => ∃ (x y : Int), 0 ≤ x ∧ x ≤ 2147483648 ∧ 0 ≤ y ∧ y ≤ 2147483648 ∧ o = .int .i64 x ∧ b = .int .i64 y ∧ RootInv n x y) (fun _ b => (intOf b).toNat)
 case atStart => exact ⟨0, 2147483648, by omega, by omega, by omega, by omega, rfl, rfl, rootInv_start h0 h1⟩
 case round =>
  obtain ⟨x, y, hx0, hx1, hy0, hy1, rfl, rfl, hinv⟩ := hrel
  by_cases hy : 0 < y
  · by_cases hc : x + y ≤ n / (x + y)
    · have hn := rootInv_yes hinv hx0 hy hc
      have hs := small_of_sq hn.choose_spec.2.2.1 h1
      have H := hid hn
      clear hinv hn
      go_wp2
      refine ⟨⟨x + y, y / 2, by omega, by omega, by omega, by omega, rfl, rfl, H.out⟩, ?_⟩
      simp only [intOf]; omega
    · have hn := rootInv_no hinv hx0 hy hc
      have H := hid hn
      clear hinv hn
      go_wp2
      refine ⟨⟨x, y / 2, by omega, by omega, by omega, by omega, rfl, rfl, H.out⟩, ?_⟩
      simp only [intOf]; omega
  · have H := hid (rootInv_end hinv hx0 hy)
    clear hinv
    go_wp2
    go_ret
    exact ⟨x, H.out, rfl, rfl⟩

theorem root_at (n r : Int) (w : World) (hr : IsRoot n r) (h0 : 0 < n) (h1 : n < 4611686018427387904) :
 Calls Tryz.prog 177 #[.int .i64 n] w fun e w' => e = .returned (.int .i64 r) ∧ w = w' :=
 (root_calls n w h0 h1).mono fun _ _ ⟨_, h, he, hw⟩ => ⟨by rw [he, isRoot_unique h hr], hw⟩

def halfCells : Array Value := #[.int .i64 1073660972, .int .i64 13176485, .int .i64 1073418432, .int .i64 26350953, .int .i64 1072448454, .int .i64 52686017, .int .i64 1068571463, .int .i64 105245105, .int .i64 1053110175, .int .i64 209476638, .int .i64 992008094, .int .i64 410903207, .int .i64 759250124, .int .i64 759250124]

set_option maxHeartbeats 1000000 in
set_option maxRecDepth 100000 in
theorem halves_calls (w : World) :
 Calls Tryz.prog 176 #[] w fun e w' => e = .returned (.agg halfCells) ∧ Below w.heap.size w w' := by
 go_enter Tryz.func176, Tryz.ntmps176
 go_wp2
 refine wp_loop_rounds 8 ?_
 rw [rounds_succ]
 go_wp2_with fail
 refine (root_at _ 759250124 _ (by unfold IsRoot; decide +kernel) (by omega) (by omega)).mono ?_
 rintro e w' ⟨rfl, rfl⟩
 go_wp2_with fail
 refine (root_at _ 759250124 _ (by unfold IsRoot; decide +kernel) (by omega) (by omega)).mono ?_
 rintro e w' ⟨rfl, rfl⟩
 go_wp2_with fail
 rw [rounds_succ]
 go_wp2_with fail
 refine (root_at _ 992008094 _ (by unfold IsRoot; decide +kernel) (by omega) (by omega)).mono ?_
 rintro e w' ⟨rfl, rfl⟩
 go_wp2_with fail
 refine (root_at _ 410903207 _ (by unfold IsRoot; decide +kernel) (by omega) (by omega)).mono ?_
 rintro e w' ⟨rfl, rfl⟩
 go_wp2_with fail
 rw [rounds_succ]
 go_wp2_with fail
 refine (root_at _ 1053110175 _ (by unfold IsRoot; decide +kernel) (by omega) (by omega)).mono ?_
 rintro e w' ⟨rfl, rfl⟩
 go_wp2_with fail
 refine (root_at _ 209476638 _ (by unfold IsRoot; decide +kernel) (by omega) (by omega)).mono ?_
 rintro e w' ⟨rfl, rfl⟩
 go_wp2_with fail
 rw [rounds_succ]
 go_wp2_with fail
 refine (root_at _ 1068571463 _ (by unfold IsRoot; decide +kernel) (by omega) (by omega)).mono ?_
 rintro e w' ⟨rfl, rfl⟩
 go_wp2_with fail
 refine (root_at _ 105245105 _ (by unfold IsRoot; decide +kernel) (by omega) (by omega)).mono ?_
 rintro e w' ⟨rfl, rfl⟩
 go_wp2_with fail
 rw [rounds_succ]
 go_wp2_with fail
 refine (root_at _ 1072448454 _ (by unfold IsRoot; decide +kernel) (by omega) (by omega)).mono ?_
 rintro e w' ⟨rfl, rfl⟩
 go_wp2_with fail
 refine (root_at _ 52686017 _ (by unfold IsRoot; decide +kernel) (by omega) (by omega)).mono ?_
 rintro e w' ⟨rfl, rfl⟩
 go_wp2_with fail
 rw [rounds_succ]
 go_wp2_with fail
 refine (root_at _ 1073418432 _ (by unfold IsRoot; decide +kernel) (by omega) (by omega)).mono ?_
 rintro e w' ⟨rfl, rfl⟩
 go_wp2_with fail
 refine (root_at _ 26350953 _ (by unfold IsRoot; decide +kernel) (by omega) (by omega)).mono ?_
 rintro e w' ⟨rfl, rfl⟩
 go_wp2_with fail
 rw [rounds_succ]
 go_wp2_with fail
 refine (root_at _ 1073660972 _ (by unfold IsRoot; decide +kernel) (by omega) (by omega)).mono ?_
 rintro e w' ⟨rfl, rfl⟩
 go_wp2_with fail
 refine (root_at _ 13176485 _ (by unfold IsRoot; decide +kernel) (by omega) (by omega)).mono ?_
 rintro e w' ⟨rfl, rfl⟩
 go_wp2_with fail
 rw [rounds_succ]
 go_wp2_with fail
 refine bodyPost_ret (v := .agg halfCells) (by simp [results, Tryz.results176, go_sem, halfCells]) rfl ⟨rfl, ?_⟩
 exact ((Below.refl _ _).alloc (Nat.le_refl _) _).alloc (by simp) _

end Go.Proofs.YtiigipnfnfpepaaGreatDoor
namespace Go.Proofs.YtiigipnfnfpepaaGreatDoor
open Go.RowKit

theorem and_one {a : Int} (h : 0 ≤ a) (h2 : a < 9223372036854775808) : bits BinOp.and IntKind.i64 a 1 = a % 2 := by
 obtain ⟨n, rfl⟩ := Int.eq_ofNat_of_zero_le h
 show IntKind.i64.wrap ((BitVec.ofInt 64 (n : Int) &&& BitVec.ofInt 64 (1 : Int)).toNat : Int) = _
 rw [BitVec.toNat_and, BitVec.ofInt_natCast, BitVec.toNat_ofNat, Nat.mod_eq_of_lt (by omega)]
 rw [show (BitVec.ofInt 64 1).toNat = 1 from rfl, Nat.and_one_is_mod, IntKind.wrap_i64]
 omega

theorem bit_yes {k d : Int} (h0 : 0 ≤ k) (h1 : k < 128) (hd : 0 < d) (h : k / d % 2 = 1) : (bits BinOp.and IntKind.i64 (k / d) 1 == 1) = true := by
 have a : 0 ≤ k / d := Int.ediv_nonneg h0 (by omega)
 have b : k / d ≤ k := Int.ediv_le_self _ h0
 rw [and_one a (by omega), beq_iff_eq]; exact h
theorem bit_no {k d : Int} (h0 : 0 ≤ k) (h1 : k < 128) (hd : 0 < d) (h : ¬ k / d % 2 = 1) : (bits BinOp.and IntKind.i64 (k / d) 1 == 1) = false := by
 have a : 0 ≤ k / d := Int.ediv_nonneg h0 (by omega)
 have b : k / d ≤ k := Int.ediv_le_self _ h0
 rw [and_one a (by omega), beq_eq_false_iff_ne]; exact h

def BelAt (k : Int) (n : Nat) (x y : Int) : Prop := bel k n = (x, y)
theorem belAt_yes {k : Int} {n : Nat} {x y : Int} (h : BelAt k n x y) (hb : k / hd n % 2 = 1) : BelAt k (n + 1) ((x * hc n - y * hs n + 536870912) / 1073741824) ((x * hs n + y * hc n + 536870912) / 1073741824) := by
 unfold BelAt at *
 simp only [bel, h, if_pos hb]
theorem belAt_no {k : Int} {n : Nat} {x y : Int} (h : BelAt k n x y) (hb : ¬ k / hd n % 2 = 1) : BelAt k (n + 1) x y := by
 unfold BelAt at *
 simp only [bel, h, if_neg hb]
theorem belAt_bd {k : Int} {n : Nat} {x y : Int} (h : BelAt k n x y) (h0 : 0 ≤ k) (h1 : k < 128) (hn : n ≤ 7) : 0 ≤ x ∧ x ≤ 1073741824 ∧ 0 ≤ y ∧ y ≤ 1073741824 := by
 have hb := bel_bd h0 h1 hn
 unfold BelAt at h
 rw [h] at hb
 exact hb

set_option maxHeartbeats 4000000 in
set_option maxRecDepth 100000 in
theorem below_calls (k : Int) (w : World) (h0 : 0 ≤ k) (h1 : k < 128) :
 Calls Tryz.prog 175 #[.int .i64 k, .agg halfCells] w fun e w' => e = .returned (.agg #[.int .i64 (bel k 7).1, .int .i64 (bel k 7).2]) ∧ Below w.heap.size w w' := by
 unfold halfCells
 go_enter Tryz.func175, Tryz.ntmps175
 go_wp2
 go_loopw [5, 6, 7] (fun a b c wr => ∃ (n : Nat) (x y : Int) (m : Nat), n ≤ 7 ∧ 0 ≤ x ∧ x ≤ 1073741824 ∧ 0 ≤ y ∧ y ≤ 1073741824 ∧ a = .int .i64 x ∧ b = .int .i64 y ∧ c = .int .i64 (6 - n) ∧ BelAt k n x y ∧
  wr = ((w.alloc (.cells (#[.int .i64 1073660972, .int .i64 13176485, .int .i64 1073418432, .int .i64 26350953, .int .i64 1072448454, .int .i64 52686017, .int .i64 1068571463, .int .i64 105245105, .int .i64 1053110175, .int .i64 209476638, .int .i64 992008094, .int .i64 410903207, .int .i64 759250124, .int .i64 759250124] : Array Value) 252)).alloc (.cells #[.int .i64 0, .int .i64 0] 224)).drewN m) (fun _ _ c _ => (intOf c + 1).toNat)
 case atStart => exact ⟨0, 1073741824, 0, 0, by omega, by omega, by omega, by omega, by omega, rfl, rfl, rfl, rfl, rfl⟩
 case round =>
  obtain ⟨n, x, y, m, hn, hx0, hx1, hy0, hy1, rfl, rfl, rfl, hat, rfl⟩ := hrel
  have cases : n = 0 ∨ n = 1 ∨ n = 2 ∨ n = 3 ∨ n = 4 ∨ n = 5 ∨ n = 6 ∨ n = 7 := by omega
  rcases cases with rfl | rfl | rfl | rfl | rfl | rfl | rfl | rfl
  · by_cases hb : k / hd 0 % 2 = 1
    · have hn := belAt_yes hat hb
      have hbd := belAt_bd hn h0 h1 (by omega)
      have hbit := bit_yes h0 h1 (by decide) hb
      have H := hid hn
      simp only [hc, hs, hd] at hbd hbit
      clear hn hat hb
      go_wp2
      all_goals go_quiet (fail)
      all_goals go_wp2
      exact ⟨⟨1, _, _, _, by omega, hbd.1, hbd.2.1, hbd.2.2.1, hbd.2.2.2, rfl, rfl, rfl, H.out, rfl⟩, by decide⟩
    · have hn := belAt_no hat hb
      have hbit := bit_no h0 h1 (by decide) hb
      have H := hid hn
      simp only [hd] at hbit
      clear hn hat hb
      go_wp2
      exact ⟨⟨1, _, _, _, by omega, hx0, hx1, hy0, hy1, rfl, rfl, rfl, H.out, rfl⟩, by decide⟩
  · by_cases hb : k / hd 1 % 2 = 1
    · have hn := belAt_yes hat hb
      have hbd := belAt_bd hn h0 h1 (by omega)
      have hbit := bit_yes h0 h1 (by decide) hb
      have H := hid hn
      simp only [hc, hs, hd] at hbd hbit
      clear hn hat hb
      go_wp2
      all_goals go_quiet (fail)
      all_goals go_wp2
      exact ⟨⟨2, _, _, _, by omega, hbd.1, hbd.2.1, hbd.2.2.1, hbd.2.2.2, rfl, rfl, rfl, H.out, rfl⟩, by decide⟩
    · have hn := belAt_no hat hb
      have hbit := bit_no h0 h1 (by decide) hb
      have H := hid hn
      simp only [hd] at hbit
      clear hn hat hb
      go_wp2
      exact ⟨⟨2, _, _, _, by omega, hx0, hx1, hy0, hy1, rfl, rfl, rfl, H.out, rfl⟩, by decide⟩
  · by_cases hb : k / hd 2 % 2 = 1
    · have hn := belAt_yes hat hb
      have hbd := belAt_bd hn h0 h1 (by omega)
      have hbit := bit_yes h0 h1 (by decide) hb
      have H := hid hn
      simp only [hc, hs, hd] at hbd hbit
      clear hn hat hb
      go_wp2
      all_goals go_quiet (fail)
      all_goals go_wp2
      exact ⟨⟨3, _, _, _, by omega, hbd.1, hbd.2.1, hbd.2.2.1, hbd.2.2.2, rfl, rfl, rfl, H.out, rfl⟩, by decide⟩
    · have hn := belAt_no hat hb
      have hbit := bit_no h0 h1 (by decide) hb
      have H := hid hn
      simp only [hd] at hbit
      clear hn hat hb
      go_wp2
      exact ⟨⟨3, _, _, _, by omega, hx0, hx1, hy0, hy1, rfl, rfl, rfl, H.out, rfl⟩, by decide⟩
  · by_cases hb : k / hd 3 % 2 = 1
    · have hn := belAt_yes hat hb
      have hbd := belAt_bd hn h0 h1 (by omega)
      have hbit := bit_yes h0 h1 (by decide) hb
      have H := hid hn
      simp only [hc, hs, hd] at hbd hbit
      clear hn hat hb
      go_wp2
      all_goals go_quiet (fail)
      all_goals go_wp2
      exact ⟨⟨4, _, _, _, by omega, hbd.1, hbd.2.1, hbd.2.2.1, hbd.2.2.2, rfl, rfl, rfl, H.out, rfl⟩, by decide⟩
    · have hn := belAt_no hat hb
      have hbit := bit_no h0 h1 (by decide) hb
      have H := hid hn
      simp only [hd] at hbit
      clear hn hat hb
      go_wp2
      exact ⟨⟨4, _, _, _, by omega, hx0, hx1, hy0, hy1, rfl, rfl, rfl, H.out, rfl⟩, by decide⟩
  · by_cases hb : k / hd 4 % 2 = 1
    · have hn := belAt_yes hat hb
      have hbd := belAt_bd hn h0 h1 (by omega)
      have hbit := bit_yes h0 h1 (by decide) hb
      have H := hid hn
      simp only [hc, hs, hd] at hbd hbit
      clear hn hat hb
      go_wp2
      all_goals go_quiet (fail)
      all_goals go_wp2
      exact ⟨⟨5, _, _, _, by omega, hbd.1, hbd.2.1, hbd.2.2.1, hbd.2.2.2, rfl, rfl, rfl, H.out, rfl⟩, by decide⟩
    · have hn := belAt_no hat hb
      have hbit := bit_no h0 h1 (by decide) hb
      have H := hid hn
      simp only [hd] at hbit
      clear hn hat hb
      go_wp2
      exact ⟨⟨5, _, _, _, by omega, hx0, hx1, hy0, hy1, rfl, rfl, rfl, H.out, rfl⟩, by decide⟩
  · by_cases hb : k / hd 5 % 2 = 1
    · have hn := belAt_yes hat hb
      have hbd := belAt_bd hn h0 h1 (by omega)
      have hbit := bit_yes h0 h1 (by decide) hb
      have H := hid hn
      simp only [hc, hs, hd] at hbd hbit
      clear hn hat hb
      go_wp2
      all_goals go_quiet (fail)
      all_goals go_wp2
      exact ⟨⟨6, _, _, _, by omega, hbd.1, hbd.2.1, hbd.2.2.1, hbd.2.2.2, rfl, rfl, rfl, H.out, rfl⟩, by decide⟩
    · have hn := belAt_no hat hb
      have hbit := bit_no h0 h1 (by decide) hb
      have H := hid hn
      simp only [hd] at hbit
      clear hn hat hb
      go_wp2
      exact ⟨⟨6, _, _, _, by omega, hx0, hx1, hy0, hy1, rfl, rfl, rfl, H.out, rfl⟩, by decide⟩
  · by_cases hb : k / hd 6 % 2 = 1
    · have hn := belAt_yes hat hb
      have hbd := belAt_bd hn h0 h1 (by omega)
      have hbit := bit_yes h0 h1 (by decide) hb
      have H := hid hn
      simp only [hc, hs, hd, Int.ediv_one] at hbd hbit
      clear hn hat hb
      go_wp2
      all_goals go_quiet (fail)
      all_goals go_wp2
      exact ⟨⟨7, _, _, _, by omega, hbd.1, hbd.2.1, hbd.2.2.1, hbd.2.2.2, rfl, rfl, rfl, H.out, rfl⟩, by decide⟩
    · have hn := belAt_no hat hb
      have hbit := bit_no h0 h1 (by decide) hb
      have H := hid hn
      simp only [hd, Int.ediv_one] at hbit
      clear hn hat hb
      go_wp2
      exact ⟨⟨7, _, _, _, by omega, hx0, hx1, hy0, hy1, rfl, rfl, rfl, H.out, rfl⟩, by decide⟩
  · have H := hid hat
    clear hat
    go_wp2
    refine bodyPost_ret (v := .agg #[.int .i64 x, .int .i64 y]) (by simp [results, Tryz.results175, go_sem]) rfl ⟨?_, ?_⟩
    · rw [show bel k 7 = (x, y) from H.out]
    · repeat' (first | exact Below.refl _ _ | refine below_draws ?_ _ | refine below_set ?_ (by simp) _ | refine below_new ?_ (by simp) _)
end Go.Proofs.YtiigipnfnfpepaaGreatDoor
namespace Go.Proofs.YtiigipnfnfpepaaGreatDoor
open Go.RowKit

theorem rest512 (k : Int) : 0 ≤ (k.tmod 512 + 512).tmod 512 ∧ (k.tmod 512 + 512).tmod 512 = k % 512 := by
 have h1 := tmod_bd k (m := 511) (by omega)
 have e : k.tmod 512 = k % 512 ∨ k.tmod 512 = k % 512 - 512 := by
  rw [Int.tmod_eq_emod]
  split
  · left; omega
  · right; omega
 simp only [Int.reduceAdd] at h1
 rw [Int.tmod_eq_emod_of_nonneg (by omega)]
 omega

set_option maxHeartbeats 4000000 in
set_option maxRecDepth 100000 in
theorem turn_q0 (k : Int) (w : World) (_h0 : -9223372036854775808 ≤ k) (_h1 : k ≤ 9223372036854775807) (hq : k % 512 / 128 = 0) :
 Calls Tryz.prog 173 #[.int .i64 k] w fun e w' => e = .returned (.tuple #[.int .i64 ((bel (k % 512 % 128) 7).1), .int .i64 ((bel (k % 512 % 128) 7).2)]) ∧ Below w.heap.size w w' := by
 have hb := bel_bd (k := k % 512 % 128) (by omega) (by omega) (n := 7) (by omega)
 have hr := tmod_bd k (m := 511) (by omega)
 have he := (rest512 k).2
 simp only [Int.reduceAdd] at hr
 generalize hx : (bel (k % 512 % 128) 7).1 = x at hb
 generalize hy : (bel (k % 512 % 128) 7).2 = y at hb
 have X := hid hx
 have Y := hid hy
 clear hx hy
 generalize hm : k % 512 = m at *
 have hm0 : 0 ≤ m := by omega
 have hm1 : m < 512 := by omega
 clear hm
 go_enter Tryz.func173, Tryz.ntmps173
 go_wp2_with fail
 refine (halves_calls _).mono ?_
 rintro e w1 ⟨rfl, hB1⟩
 go_wp2_with fail
 refine (below_calls _ _ (by omega) (by omega)).mono ?_
 rintro e w2 ⟨rfl, hB2⟩
 have hB := hB1.trans (hB2.mono hB1.size)
 clear hB1 hB2
 rw [X.out, Y.out]
 go_wp2_with fail
 go_quiet (fail)
 go_wp2_with fail
 refine wp_loop_rounds 1 ?_
 rw [rounds_succ]
 go_wp2_with fail
 go_ret2
 refine ⟨rfl, ?_⟩
 exact below_draws (hB.alloc hB.size _) _

set_option maxHeartbeats 4000000 in
set_option maxRecDepth 100000 in
theorem turn_q1 (k : Int) (w : World) (_h0 : -9223372036854775808 ≤ k) (_h1 : k ≤ 9223372036854775807) (hq : k % 512 / 128 = 1) :
 Calls Tryz.prog 173 #[.int .i64 k] w fun e w' => e = .returned (.tuple #[.int .i64 (-(bel (k % 512 % 128) 7).2), .int .i64 ((bel (k % 512 % 128) 7).1)]) ∧ Below w.heap.size w w' := by
 have hb := bel_bd (k := k % 512 % 128) (by omega) (by omega) (n := 7) (by omega)
 have hr := tmod_bd k (m := 511) (by omega)
 have he := (rest512 k).2
 simp only [Int.reduceAdd] at hr
 generalize hx : (bel (k % 512 % 128) 7).1 = x at hb
 generalize hy : (bel (k % 512 % 128) 7).2 = y at hb
 have X := hid hx
 have Y := hid hy
 clear hx hy
 generalize hm : k % 512 = m at *
 have hm0 : 0 ≤ m := by omega
 have hm1 : m < 512 := by omega
 clear hm
 go_enter Tryz.func173, Tryz.ntmps173
 go_wp2_with fail
 refine (halves_calls _).mono ?_
 rintro e w1 ⟨rfl, hB1⟩
 go_wp2_with fail
 refine (below_calls _ _ (by omega) (by omega)).mono ?_
 rintro e w2 ⟨rfl, hB2⟩
 have hB := hB1.trans (hB2.mono hB1.size)
 clear hB1 hB2
 rw [X.out, Y.out]
 go_wp2_with fail
 go_quiet (fail)
 go_wp2_with fail
 refine wp_loop_rounds 2 ?_
 rw [rounds_succ]
 go_wp2_with fail
 rw [rounds_succ]
 go_wp2_with fail
 go_ret2
 refine ⟨rfl, ?_⟩
 exact below_draws (hB.alloc hB.size _) _

set_option maxHeartbeats 4000000 in
set_option maxRecDepth 100000 in
theorem turn_q2 (k : Int) (w : World) (_h0 : -9223372036854775808 ≤ k) (_h1 : k ≤ 9223372036854775807) (hq : k % 512 / 128 = 2) :
 Calls Tryz.prog 173 #[.int .i64 k] w fun e w' => e = .returned (.tuple #[.int .i64 (-(bel (k % 512 % 128) 7).1), .int .i64 (-(bel (k % 512 % 128) 7).2)]) ∧ Below w.heap.size w w' := by
 have hb := bel_bd (k := k % 512 % 128) (by omega) (by omega) (n := 7) (by omega)
 have hr := tmod_bd k (m := 511) (by omega)
 have he := (rest512 k).2
 simp only [Int.reduceAdd] at hr
 generalize hx : (bel (k % 512 % 128) 7).1 = x at hb
 generalize hy : (bel (k % 512 % 128) 7).2 = y at hb
 have X := hid hx
 have Y := hid hy
 clear hx hy
 generalize hm : k % 512 = m at *
 have hm0 : 0 ≤ m := by omega
 have hm1 : m < 512 := by omega
 clear hm
 go_enter Tryz.func173, Tryz.ntmps173
 go_wp2_with fail
 refine (halves_calls _).mono ?_
 rintro e w1 ⟨rfl, hB1⟩
 go_wp2_with fail
 refine (below_calls _ _ (by omega) (by omega)).mono ?_
 rintro e w2 ⟨rfl, hB2⟩
 have hB := hB1.trans (hB2.mono hB1.size)
 clear hB1 hB2
 rw [X.out, Y.out]
 go_wp2_with fail
 go_quiet (fail)
 go_wp2_with fail
 refine wp_loop_rounds 3 ?_
 rw [rounds_succ]
 go_wp2_with fail
 rw [rounds_succ]
 go_wp2_with fail
 rw [rounds_succ]
 go_wp2_with fail
 go_ret2
 refine ⟨rfl, ?_⟩
 exact below_draws (hB.alloc hB.size _) _

set_option maxHeartbeats 4000000 in
set_option maxRecDepth 100000 in
theorem turn_q3 (k : Int) (w : World) (_h0 : -9223372036854775808 ≤ k) (_h1 : k ≤ 9223372036854775807) (hq : k % 512 / 128 = 3) :
 Calls Tryz.prog 173 #[.int .i64 k] w fun e w' => e = .returned (.tuple #[.int .i64 ((bel (k % 512 % 128) 7).2), .int .i64 (-(bel (k % 512 % 128) 7).1)]) ∧ Below w.heap.size w w' := by
 have hb := bel_bd (k := k % 512 % 128) (by omega) (by omega) (n := 7) (by omega)
 have hr := tmod_bd k (m := 511) (by omega)
 have he := (rest512 k).2
 simp only [Int.reduceAdd] at hr
 generalize hx : (bel (k % 512 % 128) 7).1 = x at hb
 generalize hy : (bel (k % 512 % 128) 7).2 = y at hb
 have X := hid hx
 have Y := hid hy
 clear hx hy
 generalize hm : k % 512 = m at *
 have hm0 : 0 ≤ m := by omega
 have hm1 : m < 512 := by omega
 clear hm
 go_enter Tryz.func173, Tryz.ntmps173
 go_wp2_with fail
 refine (halves_calls _).mono ?_
 rintro e w1 ⟨rfl, hB1⟩
 go_wp2_with fail
 refine (below_calls _ _ (by omega) (by omega)).mono ?_
 rintro e w2 ⟨rfl, hB2⟩
 have hB := hB1.trans (hB2.mono hB1.size)
 clear hB1 hB2
 rw [X.out, Y.out]
 go_wp2_with fail
 go_quiet (fail)
 go_wp2_with fail
 refine wp_loop_rounds 4 ?_
 rw [rounds_succ]
 go_wp2_with fail
 rw [rounds_succ]
 go_wp2_with fail
 rw [rounds_succ]
 go_wp2_with fail
 rw [rounds_succ]
 go_wp2_with fail
 go_ret2
 refine ⟨rfl, ?_⟩
 exact below_draws (hB.alloc hB.size _) _

theorem turn_calls (k : Int) (w : World) (h0 : -9223372036854775808 ≤ k) (h1 : k ≤ 9223372036854775807) :
 Calls Tryz.prog 173 #[.int .i64 k] w fun e w' => e = .returned (.tuple #[.int .i64 (trigT k).1, .int .i64 (trigT k).2]) ∧ Below w.heap.size w w' := by
 have hq : k % 512 / 128 = 0 ∨ k % 512 / 128 = 1 ∨ k % 512 / 128 = 2 ∨ k % 512 / 128 = 3 := by omega
 rcases hq with hq | hq | hq | hq
 · refine (turn_q0 k w h0 h1 hq).mono fun e w' h => ?_
   rw [show trigT k = _ from trigT_0 hq]; exact h
 · refine (turn_q1 k w h0 h1 hq).mono fun e w' h => ?_
   rw [show trigT k = _ from trigT_1 hq]; exact h
 · refine (turn_q2 k w h0 h1 hq).mono fun e w' h => ?_
   rw [show trigT k = _ from trigT_2 hq]; exact h
 · refine (turn_q3 k w h0 h1 hq).mono fun e w' h => ?_
   rw [show trigT k = _ from trigT_3 hq]; exact h

end Go.Proofs.YtiigipnfnfpepaaGreatDoor
namespace Go.Proofs.YtiigipnfnfpepaaGreatDoor
open Go.RowKit

set_option maxRecDepth 100000 in
theorem part_calls (x m : Int) (w : World) (hx : -70368744177664 ≤ x) (hx1 : x ≤ 70368744177664) (hm : 0 ≤ m) (hm1 : m ≤ 32768) :
 Calls Tryz.prog 174 #[.int .i64 x, .int .i64 m] w fun e w' => e = .returned (.int .i64 (part x m)) ∧ w = w' := by
 have hb := mul_bd (b := 70368744177664) hm hm1 hx hx1
 go_enter Tryz.func174, Tryz.ntmps174
 go_wp2
 go_ret
 exact ⟨rfl, rfl⟩

set_option maxRecDepth 100000 in
theorem factors_calls (k : Int) (w : World) (h0 : 1 ≤ k) (h1 : k ≤ 64) :
 Calls Tryz.prog 168 #[.int .i64 k] w fun e w' => e = .returned (.tuple #[.int .i64 (facP k), .int .i64 (facQ k)]) ∧ Below w.heap.size w w' := by
 have hf := fac_bd (k := k) (by omega) h1
 have ht := trigT_bd k
 have hs := hf.2.2.2.2 h0
 unfold facP facQ at *
 generalize hxy : trigT k = p at *
 obtain ⟨x, y⟩ := p
 dsimp only at *
 have H := hid hxy
 clear hxy
 go_enter Tryz.func168, Tryz.ntmps168
 go_wp2_with fail
 refine (turn_calls _ _ (by omega) (by omega)).mono ?_
 rintro e w1 ⟨rfl, hB⟩
 rw [H.out]
 dsimp only
 go_wp2_with fail
 go_ret2
 exact ⟨rfl, hB⟩

set_option maxRecDepth 100000 in
theorem factors_zero (k : Int) (w : World) (h : k < 1 ∨ 64 < k) :
 Calls Tryz.prog 168 #[.int .i64 k] w fun e w' => e = .returned (.tuple #[.int .i64 0, .int .i64 0]) ∧ Below w.heap.size w w' := by
 go_enter Tryz.func168, Tryz.ntmps168
 rcases h with h | h
 · go_wp2_with fail
   go_ret2
   exact ⟨rfl, Below.refl _ _⟩
 · have h' : ¬ k < 1 := by omega
   go_wp2_with fail
   go_ret2
   exact ⟨rfl, Below.refl _ _⟩

def Pair (w : World) (g : Nat) (a b p q : Int) : Prop :=
 w.cell? ⟨g, 0, none⟩ = some (.int .i64 a) ∧ w.cell? ⟨g, 1, none⟩ = some (.int .i64 b) ∧ w.cell? ⟨g, 2, none⟩ = some (.int .i64 p) ∧ w.cell? ⟨g, 3, none⟩ = some (.int .i64 q) ∧ w.frozen? ⟨g, 0, none⟩ = false ∧ w.frozen? ⟨g, 1, none⟩ = false

set_option maxRecDepth 100000 in
set_option maxHeartbeats 1000000 in
theorem lose_calls (g : Nat) (a b p q : Int) (w : World) (hp : Pair w g a b p q) (ha : -35184372088832 ≤ a) (ha1 : a ≤ 35184372088832) (hb : -35184372088832 ≤ b) (hb1 : b ≤ 35184372088832) (hq : 0 ≤ p) (hq1 : p ≤ 32768) :
 Calls Tryz.prog 169 #[.pointer (some ⟨g, 0, none⟩)] w fun e w' => e = .returned (.tuple #[]) ∧ (w.setCell ⟨g, 0, none⟩ (.int .i64 (a - part b p))).drew = w' := by
 obtain ⟨h0, h1, h2, h3, f0, f1⟩ := hp
 have hpb := part_bd (x := b) (m := p) (b := 35184372088832) hq hq1 (by omega) (by omega)
 have hw : IntKind.i64.wrap (a - part b p) = a - part b p := IntWalk.i64_in _ (by omega)
 go_enter Tryz.func169, Tryz.ntmps169
 go_wp2
 refine wp_region_still_tail 16 (by kernel_rfl) (by kernel_rfl) ?_
 simp only [List.take_succ_cons, List.take_zero, List.drop_succ_cons, List.drop_zero]
 repeat still_step
 still_call ((part_calls b p _ (by omega) (by omega) hq hq1).mono fun _ _ hh => ⟨hh.1, hh.2.symm⟩)
 repeat still_step
 refine wpStill_nil ?_
 go_wp2
 go_end0
 exact ⟨rfl, rfl⟩

set_option maxRecDepth 100000 in
set_option maxHeartbeats 1000000 in
theorem gain_calls (g : Nat) (a b p q : Int) (w : World) (hp : Pair w g a b p q) (ha : -35184372088832 ≤ a) (ha1 : a ≤ 35184372088832) (hb : -35184372088832 ≤ b) (hb1 : b ≤ 35184372088832) (hq : 0 ≤ q) (hq1 : q ≤ 32768) :
 Calls Tryz.prog 170 #[.pointer (some ⟨g, 0, none⟩)] w fun e w' => e = .returned (.tuple #[]) ∧ (w.setCell ⟨g, 1, none⟩ (.int .i64 (b + part a q))).drew = w' := by
 obtain ⟨h0, h1, h2, h3, f0, f1⟩ := hp
 have hpb := part_bd (x := a) (m := q) (b := 35184372088832) hq hq1 (by omega) (by omega)
 have hw : IntKind.i64.wrap (b + part a q) = b + part a q := IntWalk.i64_in _ (by omega)
 go_enter Tryz.func170, Tryz.ntmps170
 go_wp2
 refine wp_region_still_tail 16 (by kernel_rfl) (by kernel_rfl) ?_
 simp only [List.take_succ_cons, List.take_zero, List.drop_succ_cons, List.drop_zero]
 repeat still_step
 still_call ((part_calls a q _ (by omega) (by omega) hq hq1).mono fun _ _ hh => ⟨hh.1, hh.2.symm⟩)
 repeat still_step
 refine wpStill_nil ?_
 go_wp2
 go_end0
 exact ⟨rfl, rfl⟩

set_option maxRecDepth 100000 in
set_option maxHeartbeats 1000000 in
theorem unlose_calls (g : Nat) (a b p q : Int) (w : World) (hp : Pair w g a b p q) (ha : -35184372088832 ≤ a) (ha1 : a ≤ 35184372088832) (hb : -35184372088832 ≤ b) (hb1 : b ≤ 35184372088832) (hq : 0 ≤ p) (hq1 : p ≤ 32768) :
 Calls Tryz.prog 171 #[.pointer (some ⟨g, 0, none⟩)] w fun e w' => e = .returned (.tuple #[]) ∧ (w.setCell ⟨g, 0, none⟩ (.int .i64 (a + part b p))).drew = w' := by
 obtain ⟨h0, h1, h2, h3, f0, f1⟩ := hp
 have hpb := part_bd (x := b) (m := p) (b := 35184372088832) hq hq1 (by omega) (by omega)
 have hw : IntKind.i64.wrap (a + part b p) = a + part b p := IntWalk.i64_in _ (by omega)
 go_enter Tryz.func171, Tryz.ntmps171
 go_wp2
 refine wp_region_still_tail 16 (by kernel_rfl) (by kernel_rfl) ?_
 simp only [List.take_succ_cons, List.take_zero, List.drop_succ_cons, List.drop_zero]
 repeat still_step
 still_call ((part_calls b p _ (by omega) (by omega) hq hq1).mono fun _ _ hh => ⟨hh.1, hh.2.symm⟩)
 repeat still_step
 refine wpStill_nil ?_
 go_wp2
 go_end0
 exact ⟨rfl, rfl⟩

set_option maxRecDepth 100000 in
set_option maxHeartbeats 1000000 in
theorem ungain_calls (g : Nat) (a b p q : Int) (w : World) (hp : Pair w g a b p q) (ha : -35184372088832 ≤ a) (ha1 : a ≤ 35184372088832) (hb : -35184372088832 ≤ b) (hb1 : b ≤ 35184372088832) (hq : 0 ≤ q) (hq1 : q ≤ 32768) :
 Calls Tryz.prog 172 #[.pointer (some ⟨g, 0, none⟩)] w fun e w' => e = .returned (.tuple #[]) ∧ (w.setCell ⟨g, 1, none⟩ (.int .i64 (b - part a q))).drew = w' := by
 obtain ⟨h0, h1, h2, h3, f0, f1⟩ := hp
 have hpb := part_bd (x := a) (m := q) (b := 35184372088832) hq hq1 (by omega) (by omega)
 have hw : IntKind.i64.wrap (b - part a q) = b - part a q := IntWalk.i64_in _ (by omega)
 go_enter Tryz.func172, Tryz.ntmps172
 go_wp2
 refine wp_region_still_tail 16 (by kernel_rfl) (by kernel_rfl) ?_
 simp only [List.take_succ_cons, List.take_zero, List.drop_succ_cons, List.drop_zero]
 repeat still_step
 still_call ((part_calls a q _ (by omega) (by omega) hq hq1).mono fun _ _ hh => ⟨hh.1, hh.2.symm⟩)
 repeat still_step
 refine wpStill_nil ?_
 go_wp2
 go_end0
 exact ⟨rfl, rfl⟩

end Go.Proofs.YtiigipnfnfpepaaGreatDoor
namespace Go.Proofs.YtiigipnfnfpepaaGreatDoor
open Go.RowKit

theorem factors_any (k : Int) (w : World) (h0 : 0 ≤ k) (h1 : k ≤ 64) :
 Calls Tryz.prog 168 #[.int .i64 k] w fun e w' => e = .returned (.tuple #[.int .i64 (facP k), .int .i64 (facQ k)]) ∧ Below w.heap.size w w' := by
 by_cases h : 1 ≤ k
 · exact factors_calls k w h h1
 · obtain rfl : k = 0 := by omega
   rw [facP_0, facQ_0]
   exact factors_zero 0 w (by omega)

set_option maxRecDepth 100000 in
set_option maxHeartbeats 1000000 in
theorem small_no (a b k : Int) (w : World) (ha : -8796093022208 ≤ a) (ha1 : a ≤ 8796093022208) (hb : -8796093022208 ≤ b) (hb1 : b ≤ 8796093022208) (h0 : 0 ≤ k) (h1 : k ≤ 64) :
 Calls Tryz.prog 162 #[.int .i64 a, .int .i64 b, .int .i64 k, .bool false] w fun e w' => e = .returned (.tuple #[.int .i64 (small a b k false).1, .int .i64 (small a b k false).2]) ∧ Below w.heap.size w w' := by
 have hf := fac_bd h0 h1
 have e0 : small a b k false = (a - part b (facP k) - part (b + part (a - part b (facP k)) (facQ k)) (facP k), b + part (a - part b (facP k)) (facQ k)) := rfl
 rw [e0]
 clear e0
 dsimp only
 generalize hP : facP k = p at *
 generalize hQ : facQ k = q at *
 have HP := hid hP
 have HQ := hid hQ
 clear hP hQ
 have b1 := part_bd (x := b) (m := p) (b := 8796093022208) (by omega) (by omega) hb hb1
 have b2 := part_bd (x := a - part b p) (m := q) (b := 17592186044416) (by omega) (by omega) (by omega) (by omega)
 have b3 := part_bd (x := b + part (a - part b p) q) (m := p) (b := 26388279066624) (by omega) (by omega) (by omega) (by omega)
 go_enter Tryz.func162, Tryz.ntmps162
 go_wp2_with fail
 refine (factors_any _ _ h0 h1).mono ?_
 rintro e w1 ⟨rfl, hB⟩
 rw [HP.out, HQ.out]
 go_wp2_with fail
 refine (lose_calls _ a b p q _ (by unfold Pair; simp [go_sem]) (by omega) (by omega) (by omega) (by omega) (by omega) (by omega)).mono ?_
 rintro e w2 ⟨rfl, rfl⟩
 go_wp2_with fail
 refine (gain_calls _ _ b p q _ (by unfold Pair; simp [go_sem]; rfl) (by omega) (by omega) (by omega) (by omega) (by omega) (by omega)).mono ?_
 rintro e w2 ⟨rfl, rfl⟩
 go_wp2_with fail
 refine (lose_calls _ _ _ p q _ (by unfold Pair; simp [go_sem]; exact ⟨rfl, rfl⟩) (by omega) (by omega) (by omega) (by omega) (by omega) (by omega)).mono ?_
 rintro e w2 ⟨rfl, rfl⟩
 go_wp2_with fail
 go_quiet (fail)
 go_wp2_with fail
 go_ret2
 exact ⟨rfl, below_draws (((hB.alloc hB.size _).drew).drew).drew _⟩

set_option maxRecDepth 100000 in
set_option maxHeartbeats 1000000 in
theorem small_yes (a b k : Int) (w : World) (ha : -8796093022208 ≤ a) (ha1 : a ≤ 8796093022208) (hb : -8796093022208 ≤ b) (hb1 : b ≤ 8796093022208) (h0 : 0 ≤ k) (h1 : k ≤ 64) :
 Calls Tryz.prog 162 #[.int .i64 a, .int .i64 b, .int .i64 k, .bool true] w fun e w' => e = .returned (.tuple #[.int .i64 (small a b k true).1, .int .i64 (small a b k true).2]) ∧ Below w.heap.size w w' := by
 have hf := fac_bd h0 h1
 have e0 : small a b k true = (a + part b (facP k) + part (b - part (a + part b (facP k)) (facQ k)) (facP k), b - part (a + part b (facP k)) (facQ k)) := rfl
 rw [e0]
 clear e0
 dsimp only
 generalize hP : facP k = p at *
 generalize hQ : facQ k = q at *
 have HP := hid hP
 have HQ := hid hQ
 clear hP hQ
 have b1 := part_bd (x := b) (m := p) (b := 8796093022208) (by omega) (by omega) hb hb1
 have b2 := part_bd (x := a + part b p) (m := q) (b := 17592186044416) (by omega) (by omega) (by omega) (by omega)
 have b3 := part_bd (x := b - part (a + part b p) q) (m := p) (b := 26388279066624) (by omega) (by omega) (by omega) (by omega)
 go_enter Tryz.func162, Tryz.ntmps162
 go_wp2_with fail
 refine (factors_any _ _ h0 h1).mono ?_
 rintro e w1 ⟨rfl, hB⟩
 rw [HP.out, HQ.out]
 go_wp2_with fail
 refine (unlose_calls _ a b p q _ (by unfold Pair; simp [go_sem]) (by omega) (by omega) (by omega) (by omega) (by omega) (by omega)).mono ?_
 rintro e w2 ⟨rfl, rfl⟩
 go_wp2_with fail
 refine (ungain_calls _ _ b p q _ (by unfold Pair; simp [go_sem]; rfl) (by omega) (by omega) (by omega) (by omega) (by omega) (by omega)).mono ?_
 rintro e w2 ⟨rfl, rfl⟩
 go_wp2_with fail
 refine (unlose_calls _ _ _ p q _ (by unfold Pair; simp [go_sem]; exact ⟨rfl, rfl⟩) (by omega) (by omega) (by omega) (by omega) (by omega) (by omega)).mono ?_
 rintro e w2 ⟨rfl, rfl⟩
 go_wp2_with fail
 go_quiet (fail)
 go_wp2_with fail
 go_ret2
 exact ⟨rfl, below_draws (((hB.alloc hB.size _).drew).drew).drew _⟩

theorem small_calls (a b k : Int) (s : Bool) (w : World) (ha : -8796093022208 ≤ a) (ha1 : a ≤ 8796093022208) (hb : -8796093022208 ≤ b) (hb1 : b ≤ 8796093022208) (h0 : 0 ≤ k) (h1 : k ≤ 64) :
 Calls Tryz.prog 162 #[.int .i64 a, .int .i64 b, .int .i64 k, .bool s] w fun e w' => e = .returned (.tuple #[.int .i64 (small a b k s).1, .int .i64 (small a b k s).2]) ∧ Below w.heap.size w w' := by
 cases s
 · exact small_no a b k w ha ha1 hb hb1 h0 h1
 · exact small_yes a b k w ha ha1 hb hb1 h0 h1

set_option maxRecDepth 100000 in
theorem may_yes (a b : Int) (w : World) (ha : -1099511627776 ≤ a) (ha1 : a ≤ 1099511627776) (hb : -1099511627776 ≤ b) (hb1 : b ≤ 1099511627776) :
 Calls Tryz.prog 160 #[.int .i64 a, .int .i64 b] w fun e w' => e = .returned (.bool true) ∧ w = w' := by
 go_enter Tryz.func160, Tryz.ntmps160
 go_wp2
 go_ret
 exact ⟨rfl, rfl⟩

set_option maxRecDepth 100000 in
theorem rest_calls (k : Int) (w : World) (_h0 : -9223372036854775808 ≤ k) (_h1 : k ≤ 9223372036854775807) :
 Calls Tryz.prog 161 #[.int .i64 k] w fun e w' => e = .returned (.int .i64 (k % 512)) ∧ w = w' := by
 have hr := tmod_bd k (m := 511) (by omega)
 have he := (rest512 k).2
 have hm : 0 ≤ k % 512 ∧ k % 512 < 512 := by omega
 simp only [Int.reduceAdd] at hr
 generalize k % 512 = m at *
 go_enter Tryz.func161, Tryz.ntmps161
 go_wp2
 go_ret
 exact ⟨rfl, rfl⟩

end Go.Proofs.YtiigipnfnfpepaaGreatDoor
namespace Go.Proofs.YtiigipnfnfpepaaGreatDoor
open Go.RowKit

set_option maxRecDepth 100000 in
set_option maxHeartbeats 1000000 in
theorem turnq0s (a b k m : Int) (w : World) (ha : -1099511627776 ≤ a) (ha1 : a ≤ 1099511627776) (hb : -1099511627776 ≤ b) (hb1 : b ≤ 1099511627776) (h0 : -9223372036854775808 ≤ k) (h1 : k ≤ 9223372036854775807) (hm : k % 512 = m) (hq : m / 128 = 0) (hr : m % 128 ≤ 64) :
 Calls Tryz.prog 143 #[.int .i64 a, .int .i64 b, .int .i64 k] w fun e w' => e = .returned (.tuple #[.int .i64 (rots 0 (small a b (m % 128) false)).1, .int .i64 (rots 0 (small a b (m % 128) false)).2]) ∧ Below w.heap.size w w' := by
 have hm0 : 0 ≤ m := by omega
 have hm1 : m < 512 := by omega
 have hsb := small_bd (a := a) (b := b) (k := (m % 128)) false (c := 1099511627776) (by omega) (by omega) ha ha1 hb hb1
 generalize hS : small a b (m % 128) false = p at *
 obtain ⟨x, y⟩ := p
 have HS := hid hS
 clear hS
 dsimp only at hsb
 simp only [rots]
 have HM := hid hm
 clear hm
 go_enter Tryz.func143, Tryz.ntmps143
 go_wp2_with fail
 refine (may_yes _ _ _ ha ha1 hb hb1).mono ?_
 rintro e w1 ⟨rfl, rfl⟩
 go_wp2_with fail
 refine (rest_calls k _ h0 h1).mono ?_
 rintro e w1 ⟨rfl, rfl⟩
 rw [HM.out]
 go_wp2_with fail
 refine (small_calls a b (m % 128) false _ (by omega) (by omega) (by omega) (by omega) (by omega) (by omega)).mono ?_
 rintro e w1 ⟨rfl, hB⟩
 rw [HS.out]
 dsimp only
 go_wp2_with fail
 refine wp_loop_rounds 1 ?_
 rw [rounds_succ]
 go_wp2_with fail
 go_ret2
 exact ⟨rfl, hB⟩

set_option maxRecDepth 100000 in
set_option maxHeartbeats 1000000 in
theorem turnq0g (a b k m : Int) (w : World) (ha : -1099511627776 ≤ a) (ha1 : a ≤ 1099511627776) (hb : -1099511627776 ≤ b) (hb1 : b ≤ 1099511627776) (h0 : -9223372036854775808 ≤ k) (h1 : k ≤ 9223372036854775807) (hm : k % 512 = m) (hq : m / 128 = 0) (hr : 64 < m % 128) :
 Calls Tryz.prog 143 #[.int .i64 a, .int .i64 b, .int .i64 k] w fun e w' => e = .returned (.tuple #[.int .i64 (rots 1 (small a b (128 - m % 128) true)).1, .int .i64 (rots 1 (small a b (128 - m % 128) true)).2]) ∧ Below w.heap.size w w' := by
 have hm0 : 0 ≤ m := by omega
 have hm1 : m < 512 := by omega
 have hsb := small_bd (a := a) (b := b) (k := (128 - m % 128)) true (c := 1099511627776) (by omega) (by omega) ha ha1 hb hb1
 generalize hS : small a b (128 - m % 128) true = p at *
 obtain ⟨x, y⟩ := p
 have HS := hid hS
 clear hS
 dsimp only at hsb
 simp only [rots]
 have HM := hid hm
 clear hm
 go_enter Tryz.func143, Tryz.ntmps143
 go_wp2_with fail
 refine (may_yes _ _ _ ha ha1 hb hb1).mono ?_
 rintro e w1 ⟨rfl, rfl⟩
 go_wp2_with fail
 refine (rest_calls k _ h0 h1).mono ?_
 rintro e w1 ⟨rfl, rfl⟩
 rw [HM.out]
 go_wp2_with fail
 refine (small_calls a b (128 - m % 128) true _ (by omega) (by omega) (by omega) (by omega) (by omega) (by omega)).mono ?_
 rintro e w1 ⟨rfl, hB⟩
 rw [HS.out]
 dsimp only
 go_wp2_with fail
 refine wp_loop_rounds 2 ?_
 rw [rounds_succ]
 go_wp2_with fail
 rw [rounds_succ]
 go_wp2_with fail
 go_ret2
 exact ⟨rfl, hB⟩

set_option maxRecDepth 100000 in
set_option maxHeartbeats 1000000 in
theorem turnq1s (a b k m : Int) (w : World) (ha : -1099511627776 ≤ a) (ha1 : a ≤ 1099511627776) (hb : -1099511627776 ≤ b) (hb1 : b ≤ 1099511627776) (h0 : -9223372036854775808 ≤ k) (h1 : k ≤ 9223372036854775807) (hm : k % 512 = m) (hq : m / 128 = 1) (hr : m % 128 ≤ 64) :
 Calls Tryz.prog 143 #[.int .i64 a, .int .i64 b, .int .i64 k] w fun e w' => e = .returned (.tuple #[.int .i64 (rots 1 (small a b (m % 128) false)).1, .int .i64 (rots 1 (small a b (m % 128) false)).2]) ∧ Below w.heap.size w w' := by
 have hm0 : 0 ≤ m := by omega
 have hm1 : m < 512 := by omega
 have hsb := small_bd (a := a) (b := b) (k := (m % 128)) false (c := 1099511627776) (by omega) (by omega) ha ha1 hb hb1
 generalize hS : small a b (m % 128) false = p at *
 obtain ⟨x, y⟩ := p
 have HS := hid hS
 clear hS
 dsimp only at hsb
 simp only [rots]
 have HM := hid hm
 clear hm
 go_enter Tryz.func143, Tryz.ntmps143
 go_wp2_with fail
 refine (may_yes _ _ _ ha ha1 hb hb1).mono ?_
 rintro e w1 ⟨rfl, rfl⟩
 go_wp2_with fail
 refine (rest_calls k _ h0 h1).mono ?_
 rintro e w1 ⟨rfl, rfl⟩
 rw [HM.out]
 go_wp2_with fail
 refine (small_calls a b (m % 128) false _ (by omega) (by omega) (by omega) (by omega) (by omega) (by omega)).mono ?_
 rintro e w1 ⟨rfl, hB⟩
 rw [HS.out]
 dsimp only
 go_wp2_with fail
 refine wp_loop_rounds 2 ?_
 rw [rounds_succ]
 go_wp2_with fail
 rw [rounds_succ]
 go_wp2_with fail
 go_ret2
 exact ⟨rfl, hB⟩

set_option maxRecDepth 100000 in
set_option maxHeartbeats 1000000 in
theorem turnq1g (a b k m : Int) (w : World) (ha : -1099511627776 ≤ a) (ha1 : a ≤ 1099511627776) (hb : -1099511627776 ≤ b) (hb1 : b ≤ 1099511627776) (h0 : -9223372036854775808 ≤ k) (h1 : k ≤ 9223372036854775807) (hm : k % 512 = m) (hq : m / 128 = 1) (hr : 64 < m % 128) :
 Calls Tryz.prog 143 #[.int .i64 a, .int .i64 b, .int .i64 k] w fun e w' => e = .returned (.tuple #[.int .i64 (rots 2 (small a b (128 - m % 128) true)).1, .int .i64 (rots 2 (small a b (128 - m % 128) true)).2]) ∧ Below w.heap.size w w' := by
 have hm0 : 0 ≤ m := by omega
 have hm1 : m < 512 := by omega
 have hsb := small_bd (a := a) (b := b) (k := (128 - m % 128)) true (c := 1099511627776) (by omega) (by omega) ha ha1 hb hb1
 generalize hS : small a b (128 - m % 128) true = p at *
 obtain ⟨x, y⟩ := p
 have HS := hid hS
 clear hS
 dsimp only at hsb
 simp only [rots]
 have HM := hid hm
 clear hm
 go_enter Tryz.func143, Tryz.ntmps143
 go_wp2_with fail
 refine (may_yes _ _ _ ha ha1 hb hb1).mono ?_
 rintro e w1 ⟨rfl, rfl⟩
 go_wp2_with fail
 refine (rest_calls k _ h0 h1).mono ?_
 rintro e w1 ⟨rfl, rfl⟩
 rw [HM.out]
 go_wp2_with fail
 refine (small_calls a b (128 - m % 128) true _ (by omega) (by omega) (by omega) (by omega) (by omega) (by omega)).mono ?_
 rintro e w1 ⟨rfl, hB⟩
 rw [HS.out]
 dsimp only
 go_wp2_with fail
 refine wp_loop_rounds 3 ?_
 rw [rounds_succ]
 go_wp2_with fail
 rw [rounds_succ]
 go_wp2_with fail
 rw [rounds_succ]
 go_wp2_with fail
 go_ret2
 exact ⟨rfl, hB⟩

set_option maxRecDepth 100000 in
set_option maxHeartbeats 1000000 in
theorem turnq2s (a b k m : Int) (w : World) (ha : -1099511627776 ≤ a) (ha1 : a ≤ 1099511627776) (hb : -1099511627776 ≤ b) (hb1 : b ≤ 1099511627776) (h0 : -9223372036854775808 ≤ k) (h1 : k ≤ 9223372036854775807) (hm : k % 512 = m) (hq : m / 128 = 2) (hr : m % 128 ≤ 64) :
 Calls Tryz.prog 143 #[.int .i64 a, .int .i64 b, .int .i64 k] w fun e w' => e = .returned (.tuple #[.int .i64 (rots 2 (small a b (m % 128) false)).1, .int .i64 (rots 2 (small a b (m % 128) false)).2]) ∧ Below w.heap.size w w' := by
 have hm0 : 0 ≤ m := by omega
 have hm1 : m < 512 := by omega
 have hsb := small_bd (a := a) (b := b) (k := (m % 128)) false (c := 1099511627776) (by omega) (by omega) ha ha1 hb hb1
 generalize hS : small a b (m % 128) false = p at *
 obtain ⟨x, y⟩ := p
 have HS := hid hS
 clear hS
 dsimp only at hsb
 simp only [rots]
 have HM := hid hm
 clear hm
 go_enter Tryz.func143, Tryz.ntmps143
 go_wp2_with fail
 refine (may_yes _ _ _ ha ha1 hb hb1).mono ?_
 rintro e w1 ⟨rfl, rfl⟩
 go_wp2_with fail
 refine (rest_calls k _ h0 h1).mono ?_
 rintro e w1 ⟨rfl, rfl⟩
 rw [HM.out]
 go_wp2_with fail
 refine (small_calls a b (m % 128) false _ (by omega) (by omega) (by omega) (by omega) (by omega) (by omega)).mono ?_
 rintro e w1 ⟨rfl, hB⟩
 rw [HS.out]
 dsimp only
 go_wp2_with fail
 refine wp_loop_rounds 3 ?_
 rw [rounds_succ]
 go_wp2_with fail
 rw [rounds_succ]
 go_wp2_with fail
 rw [rounds_succ]
 go_wp2_with fail
 go_ret2
 exact ⟨rfl, hB⟩

set_option maxRecDepth 100000 in
set_option maxHeartbeats 1000000 in
theorem turnq2g (a b k m : Int) (w : World) (ha : -1099511627776 ≤ a) (ha1 : a ≤ 1099511627776) (hb : -1099511627776 ≤ b) (hb1 : b ≤ 1099511627776) (h0 : -9223372036854775808 ≤ k) (h1 : k ≤ 9223372036854775807) (hm : k % 512 = m) (hq : m / 128 = 2) (hr : 64 < m % 128) :
 Calls Tryz.prog 143 #[.int .i64 a, .int .i64 b, .int .i64 k] w fun e w' => e = .returned (.tuple #[.int .i64 (rots 3 (small a b (128 - m % 128) true)).1, .int .i64 (rots 3 (small a b (128 - m % 128) true)).2]) ∧ Below w.heap.size w w' := by
 have hm0 : 0 ≤ m := by omega
 have hm1 : m < 512 := by omega
 have hsb := small_bd (a := a) (b := b) (k := (128 - m % 128)) true (c := 1099511627776) (by omega) (by omega) ha ha1 hb hb1
 generalize hS : small a b (128 - m % 128) true = p at *
 obtain ⟨x, y⟩ := p
 have HS := hid hS
 clear hS
 dsimp only at hsb
 simp only [rots, Int.neg_neg]
 have HM := hid hm
 clear hm
 go_enter Tryz.func143, Tryz.ntmps143
 go_wp2_with fail
 refine (may_yes _ _ _ ha ha1 hb hb1).mono ?_
 rintro e w1 ⟨rfl, rfl⟩
 go_wp2_with fail
 refine (rest_calls k _ h0 h1).mono ?_
 rintro e w1 ⟨rfl, rfl⟩
 rw [HM.out]
 go_wp2_with fail
 refine (small_calls a b (128 - m % 128) true _ (by omega) (by omega) (by omega) (by omega) (by omega) (by omega)).mono ?_
 rintro e w1 ⟨rfl, hB⟩
 rw [HS.out]
 dsimp only
 go_wp2_with fail
 refine wp_loop_rounds 4 ?_
 rw [rounds_succ]
 go_wp2_with fail
 rw [rounds_succ]
 go_wp2_with fail
 rw [rounds_succ]
 go_wp2_with fail
 rw [rounds_succ]
 go_wp2_with fail
 go_ret2
 exact ⟨rfl, hB⟩

set_option maxRecDepth 100000 in
set_option maxHeartbeats 1000000 in
theorem turnq3s (a b k m : Int) (w : World) (ha : -1099511627776 ≤ a) (ha1 : a ≤ 1099511627776) (hb : -1099511627776 ≤ b) (hb1 : b ≤ 1099511627776) (h0 : -9223372036854775808 ≤ k) (h1 : k ≤ 9223372036854775807) (hm : k % 512 = m) (hq : m / 128 = 3) (hr : m % 128 ≤ 64) :
 Calls Tryz.prog 143 #[.int .i64 a, .int .i64 b, .int .i64 k] w fun e w' => e = .returned (.tuple #[.int .i64 (rots 3 (small a b (m % 128) false)).1, .int .i64 (rots 3 (small a b (m % 128) false)).2]) ∧ Below w.heap.size w w' := by
 have hm0 : 0 ≤ m := by omega
 have hm1 : m < 512 := by omega
 have hsb := small_bd (a := a) (b := b) (k := (m % 128)) false (c := 1099511627776) (by omega) (by omega) ha ha1 hb hb1
 generalize hS : small a b (m % 128) false = p at *
 obtain ⟨x, y⟩ := p
 have HS := hid hS
 clear hS
 dsimp only at hsb
 simp only [rots, Int.neg_neg]
 have HM := hid hm
 clear hm
 go_enter Tryz.func143, Tryz.ntmps143
 go_wp2_with fail
 refine (may_yes _ _ _ ha ha1 hb hb1).mono ?_
 rintro e w1 ⟨rfl, rfl⟩
 go_wp2_with fail
 refine (rest_calls k _ h0 h1).mono ?_
 rintro e w1 ⟨rfl, rfl⟩
 rw [HM.out]
 go_wp2_with fail
 refine (small_calls a b (m % 128) false _ (by omega) (by omega) (by omega) (by omega) (by omega) (by omega)).mono ?_
 rintro e w1 ⟨rfl, hB⟩
 rw [HS.out]
 dsimp only
 go_wp2_with fail
 refine wp_loop_rounds 4 ?_
 rw [rounds_succ]
 go_wp2_with fail
 rw [rounds_succ]
 go_wp2_with fail
 rw [rounds_succ]
 go_wp2_with fail
 rw [rounds_succ]
 go_wp2_with fail
 go_ret2
 exact ⟨rfl, hB⟩

set_option maxRecDepth 100000 in
set_option maxHeartbeats 1000000 in
theorem turnq3g (a b k m : Int) (w : World) (ha : -1099511627776 ≤ a) (ha1 : a ≤ 1099511627776) (hb : -1099511627776 ≤ b) (hb1 : b ≤ 1099511627776) (h0 : -9223372036854775808 ≤ k) (h1 : k ≤ 9223372036854775807) (hm : k % 512 = m) (hq : m / 128 = 3) (hr : 64 < m % 128) :
 Calls Tryz.prog 143 #[.int .i64 a, .int .i64 b, .int .i64 k] w fun e w' => e = .returned (.tuple #[.int .i64 (rots 4 (small a b (128 - m % 128) true)).1, .int .i64 (rots 4 (small a b (128 - m % 128) true)).2]) ∧ Below w.heap.size w w' := by
 have hm0 : 0 ≤ m := by omega
 have hm1 : m < 512 := by omega
 have hsb := small_bd (a := a) (b := b) (k := (128 - m % 128)) true (c := 1099511627776) (by omega) (by omega) ha ha1 hb hb1
 generalize hS : small a b (128 - m % 128) true = p at *
 obtain ⟨x, y⟩ := p
 have HS := hid hS
 clear hS
 dsimp only at hsb
 simp only [rots, Int.neg_neg]
 have HM := hid hm
 clear hm
 go_enter Tryz.func143, Tryz.ntmps143
 go_wp2_with fail
 refine (may_yes _ _ _ ha ha1 hb hb1).mono ?_
 rintro e w1 ⟨rfl, rfl⟩
 go_wp2_with fail
 refine (rest_calls k _ h0 h1).mono ?_
 rintro e w1 ⟨rfl, rfl⟩
 rw [HM.out]
 go_wp2_with fail
 refine (small_calls a b (128 - m % 128) true _ (by omega) (by omega) (by omega) (by omega) (by omega) (by omega)).mono ?_
 rintro e w1 ⟨rfl, hB⟩
 rw [HS.out]
 dsimp only
 go_wp2_with fail
 refine wp_loop_rounds 5 ?_
 rw [rounds_succ]
 go_wp2_with fail
 rw [rounds_succ]
 go_wp2_with fail
 rw [rounds_succ]
 go_wp2_with fail
 rw [rounds_succ]
 go_wp2_with fail
 rw [rounds_succ]
 go_wp2_with fail
 go_ret2
 exact ⟨rfl, hB⟩

theorem turnL_calls (a b k : Int) (w : World) (ha : -1099511627776 ≤ a) (ha1 : a ≤ 1099511627776) (hb : -1099511627776 ≤ b) (hb1 : b ≤ 1099511627776) (h0 : -9223372036854775808 ≤ k) (h1 : k ≤ 9223372036854775807) :
 Calls Tryz.prog 143 #[.int .i64 a, .int .i64 b, .int .i64 k] w fun e w' => e = .returned (.tuple #[.int .i64 (turnL a b k).1, .int .i64 (turnL a b k).2]) ∧ Below w.heap.size w w' := by
 have hq : k % 512 / 128 = 0 ∨ k % 512 / 128 = 1 ∨ k % 512 / 128 = 2 ∨ k % 512 / 128 = 3 := by omega
 unfold turnL quarts
 by_cases hr : k % 512 % 128 ≤ 64
 · simp only [if_pos hr]
   rcases hq with hq | hq | hq | hq <;> simp only [hq]
   · exact turnq0s a b k _ w ha ha1 hb hb1 h0 h1 rfl hq hr
   · exact turnq1s a b k _ w ha ha1 hb hb1 h0 h1 rfl hq hr
   · exact turnq2s a b k _ w ha ha1 hb hb1 h0 h1 rfl hq hr
   · exact turnq3s a b k _ w ha ha1 hb hb1 h0 h1 rfl hq hr
 · simp only [if_neg hr]
   rcases hq with hq | hq | hq | hq <;> simp only [hq]
   · exact turnq0g a b k _ w ha ha1 hb hb1 h0 h1 rfl hq (by omega)
   · exact turnq1g a b k _ w ha ha1 hb hb1 h0 h1 rfl hq (by omega)
   · exact turnq2g a b k _ w ha ha1 hb hb1 h0 h1 rfl hq (by omega)
   · exact turnq3g a b k _ w ha ha1 hb hb1 h0 h1 rfl hq (by omega)

end Go.Proofs.YtiigipnfnfpepaaGreatDoor
namespace Go.Proofs.YtiigipnfnfpepaaGreatDoor
open Go.RowKit
attribute [local go_sem ↓] Go.wp_at_zero Go.wp_at_succ

theorem grown_below {w w' : World} {r : Option Nat} (h : Below w.heap.size w w') : w.grownBy w' r := ⟨h.os, h.tape, h.output, h.size, fun i hi _ => h.block i hi⟩
theorem grown_set {w w' : World} {g i : Nat} (h : w.grownBy w' (some g)) (u : Value) : w.grownBy (w'.setCell ⟨g, i, none⟩ u) (some g) :=
 ⟨h.os, h.tape, h.output, by simpa [World.setCell] using h.size, fun k hk hne => (Below.heap_setCell w' ⟨g, i, none⟩ u k (fun e => hne (by rw [e]))).trans (h.block k hk hne)⟩
theorem grown_trans {a b c : World} {r : Option Nat} (h : a.grownBy b r) (k : b.grownBy c r) : a.grownBy c r :=
 ⟨k.os.trans h.os, k.tape.trans h.tape, k.output.trans h.output, Nat.le_trans h.size k.size, fun i hi hne => (k.block i (Nat.lt_of_lt_of_le hi h.size) hne).trans (h.block i hi hne)⟩
theorem grown_drew {a b : World} {r : Option Nat} (h : a.grownBy b r) : a.grownBy b.drew r := ⟨h.os, h.tape, h.output, h.size, h.block⟩
theorem rounds_any {P : Program} {c : Code} {Q : Exit → Act → World → Prop} {n : Nat} {a : Act} {w0 : World} (F : World → Prop) (h0 : F w0) (h : ∀ W, F W → Code.rounds P c Q n a W) : Code.rounds P c Q n a w0 := h _ h0
theorem wp_any {P : Program} {c : Code} {Q : Exit → Act → World → Prop} {a : Act} {w0 : World} (F : World → Prop) (h0 : F w0) (h : ∀ W, F W → c.wp P Q a W) : c.wp P Q a w0 := h _ h0

def BlkTo (t : TypeId) (w : World) (g : Nat) (zs : List Int) (e : Ending) (w' : World) : Prop := e = .returned (.tuple #[]) ∧ Blk w' g t (ints zs) ∧ w.grownBy w' (some g)

set_option maxRecDepth 100000 in
set_option maxHeartbeats 4000000 in
theorem wturn_xy (g i : Nat) (k x y : Int) (zs : List Int) (w : World) (hb : Blk w g 226 (ints zs)) (hi : i < 16)
 (c0 : w.cell? ⟨g, i * 2, none⟩ = some (.int .i64 x)) (c1 : w.cell? ⟨g, i * 2 + 1, none⟩ = some (.int .i64 y))
 (hx : -1099511627776 ≤ x) (hx1 : x ≤ 1099511627776) (hy : -1099511627776 ≤ y) (hy1 : y ≤ 1099511627776) (h0 : -9223372036854775808 ≤ k) (h1 : k ≤ 9223372036854775807) :
 Calls Tryz.prog 145 #[.pointer (some ⟨g, 0, none⟩), .int .i64 i, .int .i64 k] w (BlkTo 226 w g ((zs.set (i * 2) (turnL x y k).1).set (i * 2 + 1) (turnL x y k).2)) := by
 have hg := blk_lt hb
 have i0 : (0 : Int) ≤ (i : Int) := by omega
 have i1 : (i : Int) < 16 := by omega
 go_enter Tryz.func145, Tryz.ntmps145
 go_wp2
 go_region_with (go_at_call 143; refine (turnL_calls x y k _ hx hx1 hy hy1 h0 h1).mono ?_; rintro e w' ⟨rfl, hB⟩; have hB2 : Below w.heap.size w w' := ⟨hB.os, hB.tape, hB.output, hB.size, hB.block⟩; have hb2 : Blk w' g 226 (ints zs) := (hB.block g hg).trans hb; have d0 := (blk_cell hb2 (i * 2)).trans ((blk_cell hb (i * 2)).symm.trans c0); have d1 := (blk_cell hb2 (i * 2 + 1)).trans ((blk_cell hb (i * 2 + 1)).symm.trans c1); have f0 := blk_free hb2 (i * 2); have f1 := blk_free hb2 (i * 2 + 1))
 all_goals (go_end0; exact ⟨rfl, blk_set_int (blk_set_int hb2 _ _) _ _, grown_set (grown_set (grown_below hB2) _) _⟩)

theorem wturn_calls (g i : Nat) (k : Int) (zs : List Int) (w : World) (hb : Blk w g 226 (ints zs)) (hl : zs.length = 32) (hi : i < 16) (hz : AllIn 1099511627776 zs)
 (h0 : -9223372036854775808 ≤ k) (h1 : k ≤ 9223372036854775807) :
 Calls Tryz.prog 145 #[.pointer (some ⟨g, 0, none⟩), .int .i64 i, .int .i64 k] w (BlkTo 226 w g (wTurn i k zs)) :=
 wturn_xy g i k _ _ zs w hb hi (blk_int hb (by omega)) (blk_int hb (by omega)) (allIn_get hz _).1 (allIn_get hz _).2 (allIn_get hz _).1 (allIn_get hz _).2 h0 h1

end Go.Proofs.YtiigipnfnfpepaaGreatDoor
namespace Go.Proofs.YtiigipnfnfpepaaGreatDoor
open Go.RowKit
attribute [local go_sem ↓] Go.wp_at_zero Go.wp_at_succ

end Go.Proofs.YtiigipnfnfpepaaGreatDoor
namespace Go.Proofs.YtiigipnfnfpepaaGreatDoor
open Go.RowKit
attribute [local go_sem ↓] Go.wp_at_zero Go.wp_at_succ

set_option maxRecDepth 100000 in
set_option maxHeartbeats 8000000 in
theorem wcross_calls (g i j : Nat) (zs : List Int) (w : World) (hb : Blk w g 226 (ints zs)) (hl : zs.length = 32) (hi : i < 16) (hj : j < 16) (hij : i ≠ j) (hz : AllIn 549755813888 zs) :
 Calls Tryz.prog 164 #[.pointer (some ⟨g, 0, none⟩), .int .i64 i, .int .i64 j] w (BlkTo 226 w g (wCross i j zs)) := by
 have i0 : (0 : Int) ≤ (i : Int) := by omega
 have i1 : (i : Int) < 16 := by omega
 have j0 : (0 : Int) ≤ (j : Int) := by omega
 have j1 : (j : Int) < 16 := by omega
 have hz2 := wCross1_in (p := i * 2) (q := j * 2) (c := 549755813888) hz (by omega)
 have hl2 : (wCross1 (i * 2) (j * 2) zs).length = 32 := by simp [wCross1, hl]
 unfold wCross
 have HL2 := hid hl2
 have HZ2 := hid hz2
 clear hz2 hl2
 have hg := blk_lt hb
 have c0 := blk_int hb (i := i * 2) (by omega)
 have c1 := blk_int hb (i := j * 2) (by omega)
 have b0 := allIn_get hz (i * 2)
 have b1 := allIn_get hz (j * 2)
 generalize hx : zs.getD (i * 2) 0 = x at *
 generalize hy : zs.getD (j * 2) 0 = y at *
 have X := hid hx
 have Y := hid hy
 have HZ := hid hz
 clear hx hy hz
 go_enter Tryz.func164, Tryz.ntmps164
 go_wp2
 refine wp_loop_rounds 3 ?_
 rw [rounds_succ]
 go_wp2
 go_region_held3 (fun w' => w'.cell? ⟨g, i * 2, none⟩ = some (.int .i64 x) ∧ w'.cell? ⟨g, j * 2, none⟩ = some (.int .i64 y)) (go_keep)
  (first | (go_at_call 143; refine (turnL_calls x y 64 _ (by omega) (by omega) (by omega) (by omega) (by omega) (by omega)).mono ?_; rintro e w' ⟨rfl, hB⟩; have hB2 : Below w.heap.size w w' := ⟨hB.os, hB.tape, hB.output, hB.size, hB.block⟩; have hb2 : Blk w' g 226 (ints zs) := (hB.block g hg).trans hb; have d0 := (blk_cell hb2 (i * 2)).trans ((blk_cell hb (i * 2)).symm.trans c0); have d1 := (blk_cell hb2 (j * 2)).trans ((blk_cell hb (j * 2)).symm.trans c1)))
 have f0 := blk_free hb2 (i * 2)
 have f1 := blk_free hb2 (j * 2)
 go_wp2
 go_region
 go_wp2
 refine rounds_any (fun W => Blk W g 226 (ints (wCross1 (i * 2) (j * 2) zs)) ∧ w.grownBy W (some g)) ⟨?_, ?_⟩ ?_
 · have h1 := blk_set_int (blk_set_int hb2 (i * 2) (turnL x y 64).2) (j * 2) (turnL x y 64).1
   rw [← X.out, ← Y.out] at h1
   rw [← X.out, ← Y.out]
   exact h1
 · exact grown_drew (grown_set (grown_set (grown_below hB2) _) _)
 clear c0 c1 d0 d1 f0 f1 hb hb2 hB hB2 X Y
 rintro W ⟨hb, hW⟩
 have hz := HZ2.out
 have hl := HL2.out
 clear HZ2 HL2
 rw [rounds_succ]
 generalize wCross1 (i * 2) (j * 2) zs = zs1 at *
 simp only [Int.reduceAdd, Int.reduceDiv] at hz
 have hg := blk_lt hb
 have c0 := blk_int hb (i := i * 2 + 1) (by omega)
 have c1 := blk_int hb (i := j * 2 + 1) (by omega)
 have b0 := allIn_get hz (i * 2 + 1)
 have b1 := allIn_get hz (j * 2 + 1)
 generalize hx : zs1.getD (i * 2 + 1) 0 = x at *
 generalize hy : zs1.getD (j * 2 + 1) 0 = y at *
 have X := hid hx
 have Y := hid hy
 have HZ := hid hz
 clear hx hy hz
 go_wp2
 go_region_held3 (fun w' => w'.cell? ⟨g, i * 2 + 1, none⟩ = some (.int .i64 x) ∧ w'.cell? ⟨g, j * 2 + 1, none⟩ = some (.int .i64 y)) (go_keep)
  (first | (go_at_call 143; refine (turnL_calls x y 64 _ (by omega) (by omega) (by omega) (by omega) (by omega) (by omega)).mono ?_; rintro e w' ⟨rfl, hB⟩; have hB2 : Below W.heap.size W w' := ⟨hB.os, hB.tape, hB.output, hB.size, hB.block⟩; have hb2 : Blk w' g 226 (ints zs1) := (hB.block g hg).trans hb; have d0 := (blk_cell hb2 (i * 2 + 1)).trans ((blk_cell hb (i * 2 + 1)).symm.trans c0); have d1 := (blk_cell hb2 (j * 2 + 1)).trans ((blk_cell hb (j * 2 + 1)).symm.trans c1)))
 have f0 := blk_free hb2 (i * 2 + 1)
 have f1 := blk_free hb2 (j * 2 + 1)
 go_wp2
 go_region
 go_wp2
 rw [rounds_succ]
 go_wp2
 go_end0
 refine ⟨rfl, ?_, ?_⟩
 · have h1 := blk_set_int (blk_set_int hb2 (i * 2 + 1) (turnL x y 64).2) (j * 2 + 1) (turnL x y 64).1
   rw [← X.out, ← Y.out] at h1
   rw [← X.out, ← Y.out]
   exact h1
 · exact grown_trans hW (grown_drew (grown_set (grown_set (grown_below hB2) _) _))

end Go.Proofs.YtiigipnfnfpepaaGreatDoor
