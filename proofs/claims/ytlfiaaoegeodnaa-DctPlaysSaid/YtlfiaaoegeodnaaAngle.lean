/- Plain laws on the angles' table: sines and cosines as whole numbers. No Go in it. -/
import Derived.Test.YtlfiaaoegeodnaaNum
namespace Go.Proofs.Ytlfiaaoegeodnaa

/-- the cosine and the sine of the angle 2^(6-n), and that angle -/
def hc : Nat → Int
  | 0 => 759250124
  | 1 => 992008094
  | 2 => 1053110175
  | 3 => 1068571463
  | 4 => 1072448454
  | 5 => 1073418432
  | 6 => 1073660972
  | _ => 0
def hs : Nat → Int
  | 0 => 759250124
  | 1 => 410903207
  | 2 => 209476638
  | 3 => 105245105
  | 4 => 52686017
  | 5 => 26350953
  | 6 => 13176485
  | _ => 0
def hd : Nat → Int
  | 0 => 64
  | 1 => 32
  | 2 => 16
  | 3 => 8
  | 4 => 4
  | 5 => 2
  | 6 => 1
  | _ => 1

/-- the cosine and the sine of an angle below a right one, behind n of its seven bits -/
def bel (k : Int) : Nat → Int × Int
  | 0 => (1073741824, 0)
  | n + 1 => if k / hd n % 2 = 1 then (((bel k n).1 * hc n - (bel k n).2 * hs n + 536870912) / 1073741824, ((bel k n).1 * hs n + (bel k n).2 * hc n + 536870912) / 1073741824) else bel k n

theorem bel_bd_all : ∀ k : Fin 128, ∀ n : Fin 8, 0 ≤ (bel k.val n.val).1 ∧ (bel k.val n.val).1 ≤ 1073741824 ∧ 0 ≤ (bel k.val n.val).2 ∧ (bel k.val n.val).2 ≤ 1073741824 := by decide +kernel

theorem bel_bd {k : Int} (h0 : 0 ≤ k) (h1 : k < 128) {n : Nat} (hn : n ≤ 7) : 0 ≤ (bel k n).1 ∧ (bel k n).1 ≤ 1073741824 ∧ 0 ≤ (bel k n).2 ∧ (bel k n).2 ≤ 1073741824 := by
  have h := bel_bd_all ⟨k.toNat, by omega⟩ ⟨n, by omega⟩
  have e : ((k.toNat : Nat) : Int) = k := by omega
  simpa only [e] using h

/-- the cosine and the sine of any angle -/
def trigT (k : Int) : Int × Int :=
  if k % 512 / 128 = 0 then ((bel (k % 512 % 128) 7).1, (bel (k % 512 % 128) 7).2)
  else if k % 512 / 128 = 1 then (-(bel (k % 512 % 128) 7).2, (bel (k % 512 % 128) 7).1)
  else if k % 512 / 128 = 2 then (-(bel (k % 512 % 128) 7).1, -(bel (k % 512 % 128) 7).2)
  else ((bel (k % 512 % 128) 7).2, -(bel (k % 512 % 128) 7).1)

theorem trigT_0 {k : Int} (h : k % 512 / 128 = 0) : trigT k = ((bel (k % 512 % 128) 7).1, (bel (k % 512 % 128) 7).2) := by
  unfold trigT; rw [if_pos h]
theorem trigT_1 {k : Int} (h : k % 512 / 128 = 1) : trigT k = (-(bel (k % 512 % 128) 7).2, (bel (k % 512 % 128) 7).1) := by
  unfold trigT; rw [if_neg (by omega), if_pos h]
theorem trigT_2 {k : Int} (h : k % 512 / 128 = 2) : trigT k = (-(bel (k % 512 % 128) 7).1, -(bel (k % 512 % 128) 7).2) := by
  unfold trigT; rw [if_neg (by omega), if_neg (by omega), if_pos h]
theorem trigT_3 {k : Int} (h : k % 512 / 128 = 3) : trigT k = ((bel (k % 512 % 128) 7).2, -(bel (k % 512 % 128) 7).1) := by
  unfold trigT; rw [if_neg (by omega), if_neg (by omega), if_neg (by omega)]

theorem trigT_bd (k : Int) : -1073741824 ≤ (trigT k).1 ∧ (trigT k).1 ≤ 1073741824 ∧ -1073741824 ≤ (trigT k).2 ∧ (trigT k).2 ≤ 1073741824 := by
  have hb := bel_bd (k := k % 512 % 128) (by omega) (by omega) (n := 7) (by omega)
  unfold trigT
  split
  · dsimp only; omega
  · split
    · dsimp only; omega
    · split <;> (dsimp only; omega)

theorem trigT_512 (k : Int) : trigT (k % 512) = trigT k := by
  unfold trigT; rw [Int.emod_emod_of_dvd _ (by decide)]

end Go.Proofs.Ytlfiaaoegeodnaa
