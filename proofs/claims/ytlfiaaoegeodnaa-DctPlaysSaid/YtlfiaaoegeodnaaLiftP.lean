/- Plain laws of the turns that can be undone. No Go in it. -/
import Derived.Test.YtlfiaaoegeodnaaAngleC
namespace Go.Proofs.Ytlfiaaoegeodnaa

/-- a number's part by a factor -/
def part (x m : Int) : Int := (x * m + 16384) / 32768
def facP (k : Int) : Int := ((1073741824 - (trigT k).1) * 32768 + (trigT k).2 / 2) / (trigT k).2
def facQ (k : Int) : Int := ((trigT k).2 + 16384) / 32768

theorem fac_all : ∀ k : Fin 65, 0 ≤ facP k.val ∧ facP k.val ≤ 13573 ∧ 0 ≤ facQ k.val ∧ facQ k.val ≤ 23170 ∧ (1 ≤ k.val → 13176485 ≤ (trigT k.val).2) := by decide +kernel
theorem fac_bd {k : Int} (h0 : 0 ≤ k) (h1 : k ≤ 64) : 0 ≤ facP k ∧ facP k ≤ 13573 ∧ 0 ≤ facQ k ∧ facQ k ≤ 23170 ∧ (1 ≤ k → 13176485 ≤ (trigT k).2) := by
  have h := fac_all ⟨k.toNat, by omega⟩
  have e : ((k.toNat : Nat) : Int) = k := by omega
  simp only [e] at h
  exact ⟨h.1, h.2.1, h.2.2.1, h.2.2.2.1, fun hk => h.2.2.2.2 (by omega)⟩
theorem facP_0 : facP 0 = 0 := by decide +kernel
theorem facQ_0 : facQ 0 = 0 := by decide +kernel

/-- a product with a factor lies between nothing and the number by 2^15 -/
theorem mul_bd {x m b c : Int} (hm : 0 ≤ m) (hc : m ≤ c) (hx : -b ≤ x) (hx1 : x ≤ b) : -(b * c) ≤ x * m ∧ x * m ≤ b * c := by
  have hb : 0 ≤ b := by omega
  have h1 : x * m ≤ b * m := Int.mul_le_mul_of_nonneg_right hx1 hm
  have h2 : -b * m ≤ x * m := Int.mul_le_mul_of_nonneg_right hx hm
  have h3 : b * m ≤ b * c := Int.mul_le_mul_of_nonneg_left hc hb
  rw [Int.neg_mul] at h2
  omega

theorem part_bd {x m b : Int} (hm : 0 ≤ m) (hc : m ≤ 32768) (hx : -b ≤ x) (hx1 : x ≤ b) : -b ≤ part x m ∧ part x m ≤ b := by
  have h := mul_bd hm hc hx hx1
  unfold part
  omega

/-- a turn by an angle from 0 to 64, or its undoing -/
def small (a b k : Int) (back : Bool) : Int × Int :=
  if back then
    (a + part b (facP k) + part (b - part (a + part b (facP k)) (facQ k)) (facP k), b - part (a + part b (facP k)) (facQ k))
  else
    (a - part b (facP k) - part (b + part (a - part b (facP k)) (facQ k)) (facP k), b + part (a - part b (facP k)) (facQ k))

/-- a part is the product, by 2^15, but for a half -/
theorem part_sp (x m : Int) : x * m - 16383 ≤ 32768 * part x m ∧ 32768 * part x m ≤ x * m + 16384 := by
  unfold part
  omega

/-- how great the numbers behind three steps are at most: p and q being the factors -/
theorem steps_bd {a b p q c u v z : Int} (_hp : 0 ≤ p) (_hp1 : p ≤ 13573) (_hq : 0 ≤ q) (_hq1 : q ≤ 23170) (ha : -c ≤ a) (ha1 : a ≤ c) (hb : -c ≤ b) (hb1 : b ≤ c)
    (hu : -(c * 13573) - 16384 ≤ 32768 * u ∧ 32768 * u ≤ c * 13573 + 16384)
    (hv : ∀ d, -d ≤ a - u → a - u ≤ d → -(d * 23170) - 16384 ≤ 32768 * v ∧ 32768 * v ≤ d * 23170 + 16384)
    (hz : ∀ d, -d ≤ b + v → b + v ≤ d → -(d * 13573) - 16384 ≤ 32768 * z ∧ 32768 * z ≤ d * 13573 + 16384) :
    -(3 * c + 3) ≤ a - u - z ∧ a - u - z ≤ 3 * c + 3 ∧ -(3 * c + 3) ≤ b + v ∧ b + v ≤ 3 * c + 3 := by
  have h1 := hv (c + (c * 13573 + 16384) / 32768) (by omega) (by omega)
  have h2 := hz (2 * c + 1) (by omega) (by omega)
  omega

theorem part_of {x m d c : Int} (hm : 0 ≤ m) (hc : m ≤ c) (h0 : -d ≤ x) (h1 : x ≤ d) : -(d * c) - 16384 ≤ 32768 * part x m ∧ 32768 * part x m ≤ d * c + 16384 := by
  have h := mul_bd hm hc h0 h1
  have h2 := part_sp x m
  omega

/-- how great a turn's numbers are at most -/
theorem small_bd {a b k : Int} (s : Bool) {c : Int} (h0 : 0 ≤ k) (h1 : k ≤ 64) (ha : -c ≤ a) (ha1 : a ≤ c) (hb : -c ≤ b) (hb1 : b ≤ c) :
    -(3 * c + 3) ≤ (small a b k s).1 ∧ (small a b k s).1 ≤ 3 * c + 3 ∧ -(3 * c + 3) ≤ (small a b k s).2 ∧ (small a b k s).2 ≤ 3 * c + 3 := by
  have hf := fac_bd h0 h1
  cases s with
  | false =>
    simp only [small, Bool.false_eq_true, if_false]
    exact steps_bd hf.1 hf.2.1 hf.2.2.1 hf.2.2.2.1 ha ha1 hb hb1 (part_of hf.1 hf.2.1 hb hb1) (fun d h0 h1 => part_of hf.2.2.1 hf.2.2.2.1 h0 h1) (fun d h0 h1 => part_of hf.1 hf.2.1 h0 h1)
  | true =>
    simp only [small, if_true]
    have h := steps_bd (a := a) (b := b) (c := c) (u := -part b (facP k)) (v := -part (a + part b (facP k)) (facQ k)) (z := -part (b - part (a + part b (facP k)) (facQ k)) (facP k)) hf.1 hf.2.1 hf.2.2.1 hf.2.2.2.1 ha ha1 hb hb1
      (by have := part_of (x := b) hf.1 hf.2.1 hb hb1; omega)
      (fun d h0 h1 => by have := part_of (x := a + part b (facP k)) (d := d) hf.2.2.1 hf.2.2.2.1 (by omega) (by omega); omega)
      (fun d h0 h1 => by have := part_of (x := b - part (a + part b (facP k)) (facQ k)) (d := d) hf.1 hf.2.1 (by omega) (by omega); omega)
    omega

theorem small_back (a b k : Int) (s : Bool) : small (small a b k s).1 (small a b k s).2 k (!s) = (a, b) := by
  cases s with
  | false =>
    simp only [small, Bool.false_eq_true, if_false, Bool.not_false, if_true]
    rw [show a - part b (facP k) - part (b + part (a - part b (facP k)) (facQ k)) (facP k) + part (b + part (a - part b (facP k)) (facQ k)) (facP k) = a - part b (facP k) by omega,
      show b + part (a - part b (facP k)) (facQ k) - part (a - part b (facP k)) (facQ k) = b by omega]
    exact Prod.ext (by dsimp only; omega) rfl
  | true =>
    simp only [small, Bool.false_eq_true, if_false, Bool.not_true, if_true]
    rw [show a + part b (facP k) + part (b - part (a + part b (facP k)) (facQ k)) (facP k) - part (b - part (a + part b (facP k)) (facQ k)) (facP k) = a + part b (facP k) by omega,
      show b - part (a + part b (facP k)) (facQ k) + part (a + part b (facP k)) (facQ k) = b by omega]
    exact Prod.ext (by dsimp only; omega) rfl

/-- quarters: so many right angles on, and back -/
def rots : Nat → Int × Int → Int × Int
  | 0, p => p
  | n + 1, p => rots n (-p.2, p.1)
def unrots : Nat → Int × Int → Int × Int
  | 0, p => p
  | n + 1, p => unrots n (p.2, -p.1)
def quarts (k : Int) : Nat := (k % 512 / 128 + if k % 512 % 128 ≤ 64 then 0 else 1).toNat

/-- a turn by any angle of two numbers that may be turned, and its undoing -/
def turnL (a b k : Int) : Int × Int :=
  if k % 512 % 128 ≤ 64 then rots (quarts k) (small a b (k % 512 % 128) false)
  else rots (quarts k) (small a b (128 - k % 512 % 128) true)
def backL (a b k : Int) : Int × Int :=
  if k % 512 % 128 ≤ 64 then small (unrots (quarts k) (a, b)).1 (unrots (quarts k) (a, b)).2 (k % 512 % 128) true
  else small (unrots (quarts k) (a, b)).1 (unrots (quarts k) (a, b)).2 (128 - k % 512 % 128) false

theorem unrots_rots (n : Nat) : ∀ p, unrots n (rots n p) = p := by
  intro p
  have hs : ∀ n p, rots (n + 1) p = (-(rots n p).2, (rots n p).1) := by
    intro n
    induction n with
    | zero => intro p; rfl
    | succ n ih => intro p; rw [rots, ih]; rfl
  induction n with
  | zero => rfl
  | succ n ih => rw [hs, unrots]; simp only [Int.neg_neg]; exact ih
theorem rots_unrots (n : Nat) : ∀ p, rots n (unrots n p) = p := by
  intro p
  have hs : ∀ n p, unrots (n + 1) p = ((unrots n p).2, -(unrots n p).1) := by
    intro n
    induction n with
    | zero => intro p; rfl
    | succ n ih => intro p; rw [unrots, ih]; rfl
  induction n with
  | zero => rfl
  | succ n ih => rw [hs, rots]; simp only [Int.neg_neg]; exact ih

theorem back_turn (a b k : Int) : backL (turnL a b k).1 (turnL a b k).2 k = (a, b) := by
  unfold backL turnL
  split
  · rw [Prod.eta, unrots_rots]; exact small_back a b _ false
  · rw [Prod.eta, unrots_rots]; exact small_back a b _ true
theorem turn_back (a b k : Int) : turnL (backL a b k).1 (backL a b k).2 k = (a, b) := by
  unfold backL turnL
  split
  · rw [show (false : Bool) = !true from rfl, small_back, Prod.eta, rots_unrots]
  · rw [show (true : Bool) = !false from rfl, small_back, Prod.eta, rots_unrots]

end Go.Proofs.Ytlfiaaoegeodnaa
