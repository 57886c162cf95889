/- Plain laws of turns: how near they are to the turns that they stand for, and to one another. No Go in it. -/
import Derived.Test.YtlfiaaoegeodnaaLiftP
namespace Go.Proofs.Ytlfiaaoegeodnaa

theorem near_b {a b p q c s u v r1 r2 : Int} (h1 : 32768 * u = b * p + r1) (h2 : 32768 * v = (a - u) * q + r2) :
    1073741824 * (b + v) - (a * s + b * c) = a * (32768 * q - s) + b * (1073741824 - p * q - c) + (32768 * r2 - q * r1) := by
  grind
theorem near_a {a b p q c s u v z r1 r2 r3 : Int} (h1 : 32768 * u = b * p + r1) (h2 : 32768 * v = (a - u) * q + r2) (h3 : 32768 * z = (b + v) * p + r3) :
    32768 * (1073741824 * (a - u - z) - (a * c - b * s)) = a * (32768 * (1073741824 - p * q - c)) - b * (p * (2147483648 - p * q) - 32768 * s) - r1 * (1073741824 - p * q) - p * (32768 * r2) - 1073741824 * r3 := by
  grind

/-- a product of two numbers that are no greater than so much -/
theorem mul_in {x y b c : Int} (hx : -b ≤ x) (hx1 : x ≤ b) (hy : -c ≤ y) (hy1 : y ≤ c) : -(b * c) ≤ x * y ∧ x * y ≤ b * c := by
  have h1 := Int.mul_nonneg (a := b - x) (b := c - y) (by omega) (by omega)
  have h2 := Int.mul_nonneg (a := b + x) (b := c + y) (by omega) (by omega)
  have h3 := Int.mul_nonneg (a := b - x) (b := c + y) (by omega) (by omega)
  have h4 := Int.mul_nonneg (a := b + x) (b := c - y) (by omega) (by omega)
  constructor <;> grind

/-- what the factors of an angle are: nearly its cosine's and its sine's -/
def FacNear (p q c s : Int) : Prop :=
  -32768 ≤ 1073741824 - p * q - c ∧ 1073741824 - p * q - c ≤ 32768 ∧ -32768 ≤ 32768 * q - s ∧ 32768 * q - s ≤ 32768 ∧
  -1073741824 ≤ p * (2147483648 - p * q) - 32768 * s ∧ p * (2147483648 - p * q) - 32768 * s ≤ 1073741824 ∧
  -13573 ≤ p ∧ p ≤ 13573 ∧ -23170 ≤ q ∧ q ≤ 23170 ∧ 0 ≤ 1073741824 - p * q ∧ 0 ≤ p * q
instance (p q c s : Int) : Decidable (FacNear p q c s) := by unfold FacNear; exact inferInstance

theorem facNear_all : ∀ k : Fin 65, FacNear (facP k.val) (facQ k.val) (trigT k.val).1 (trigT k.val).2 ∧ FacNear (-facP k.val) (-facQ k.val) (trigT (-k.val)).1 (trigT (-k.val)).2 := by decide +kernel
theorem facNear {k : Int} (h0 : 0 ≤ k) (h1 : k ≤ 64) : FacNear (facP k) (facQ k) (trigT k).1 (trigT k).2 ∧ FacNear (-facP k) (-facQ k) (trigT (-k)).1 (trigT (-k)).2 := by
  have h := facNear_all ⟨k.toNat, by omega⟩
  have e : ((k.toNat : Nat) : Int) = k := by omega
  simp only [e] at h
  exact h

/-- (x, y) is nearly (a, b) turned so that c and s are the cosine and the sine; no number being greater than m -/
def TurnNear (m a b c s x y : Int) : Prop :=
  -(65536 * m + 1296121856) ≤ 1073741824 * x - (a * c - b * s) ∧ 1073741824 * x - (a * c - b * s) ≤ 65536 * m + 1296121856 ∧
  -(65536 * m + 1296121856) ≤ 1073741824 * y - (a * s + b * c) ∧ 1073741824 * y - (a * s + b * c) ≤ 65536 * m + 1296121856

theorem steps_near {m a b p q c s u v z r1 r2 r3 : Int} (hf : FacNear p q c s) (ha : -m ≤ a) (ha1 : a ≤ m) (hb : -m ≤ b) (hb1 : b ≤ m)
    (h1 : 32768 * u = b * p + r1) (h2 : 32768 * v = (a - u) * q + r2) (h3 : 32768 * z = (b + v) * p + r3)
    (e1 : -16384 ≤ r1) (e1' : r1 ≤ 16384) (e2 : -16384 ≤ r2) (e2' : r2 ≤ 16384) (e3 : -16384 ≤ r3) (e3' : r3 ≤ 16384) : TurnNear m a b c s (a - u - z) (b + v) := by
  obtain ⟨f1, f2, f3, f4, f5, f6, f7, f8, f9, f10, f11, f12⟩ := hf
  have ea := near_a (c := c) (s := s) h1 h2 h3
  have eb := near_b (c := c) (s := s) h1 h2
  have g1 := mul_in ha ha1 f3 f4
  have g2 := mul_in hb hb1 f1 f2
  have g3 := mul_in (x := q) (y := r1) (b := 23170) (c := 16384) f9 f10 e1 e1'
  have g4 := mul_in (x := a) (y := 32768 * (1073741824 - p * q - c)) (b := m) (c := 1073741824) ha ha1 (by omega) (by omega)
  have g5 := mul_in (x := b) (y := p * (2147483648 - p * q) - 32768 * s) (b := m) (c := 1073741824) hb hb1 f5 f6
  have g6 := mul_in (x := r1) (y := 1073741824 - p * q) (b := 16384) (c := 1073741824) e1 e1' (by omega) (by omega)
  have g7 := mul_in (x := p) (y := 32768 * r2) (b := 13573) (c := 536870912) f7 f8 (by omega) (by omega)
  refine ⟨?_, ?_, ?_, ?_⟩
  · omega
  · omega
  · omega
  · omega

theorem small_near {m a b k : Int} (h0 : 0 ≤ k) (h1 : k ≤ 64) (ha : -m ≤ a) (ha1 : a ≤ m) (hb : -m ≤ b) (hb1 : b ≤ m) :
    TurnNear m a b (trigT k).1 (trigT k).2 (small a b k false).1 (small a b k false).2 ∧ TurnNear m a b (trigT (-k)).1 (trigT (-k)).2 (small a b k true).1 (small a b k true).2 := by
  have hf := facNear h0 h1
  refine ⟨?_, ?_⟩
  · simp only [small, Bool.false_eq_true, if_false]
    have p1 := part_sp b (facP k)
    have p2 := part_sp (a - part b (facP k)) (facQ k)
    have p3 := part_sp (b + part (a - part b (facP k)) (facQ k)) (facP k)
    exact steps_near hf.1 ha ha1 hb hb1 (u := part b (facP k)) (v := part (a - part b (facP k)) (facQ k)) (z := part (b + part (a - part b (facP k)) (facQ k)) (facP k))
      (r1 := 32768 * part b (facP k) - b * facP k) (r2 := 32768 * part (a - part b (facP k)) (facQ k) - (a - part b (facP k)) * facQ k)
      (r3 := 32768 * part (b + part (a - part b (facP k)) (facQ k)) (facP k) - (b + part (a - part b (facP k)) (facQ k)) * facP k)
      (by omega) (by omega) (by omega) (by omega) (by omega) (by omega) (by omega) (by omega) (by omega)
  · simp only [small, if_true]
    have p1 := part_sp b (facP k)
    have p2 := part_sp (a + part b (facP k)) (facQ k)
    have p3 := part_sp (b - part (a + part b (facP k)) (facQ k)) (facP k)
    have h := steps_near hf.2 ha ha1 hb hb1 (u := -part b (facP k)) (v := -part (a + part b (facP k)) (facQ k)) (z := -part (b - part (a + part b (facP k)) (facQ k)) (facP k))
      (r1 := b * facP k - 32768 * part b (facP k)) (r2 := (a + part b (facP k)) * facQ k - 32768 * part (a + part b (facP k)) (facQ k))
      (r3 := (b - part (a + part b (facP k)) (facQ k)) * facP k - 32768 * part (b - part (a + part b (facP k)) (facQ k)) (facP k))
      (by simp only [Int.mul_neg]; omega) (by simp only [Int.mul_neg, Int.sub_neg]; omega) (by simp only [Int.mul_neg, ← Int.sub_eq_add_neg]; omega) (by omega) (by omega) (by omega) (by omega) (by omega) (by omega)
    rw [Int.sub_neg, Int.sub_neg, ← Int.sub_eq_add_neg] at h
    exact h

theorem near_rot {m a b c s x y : Int} (h : TurnNear m a b c s x y) : TurnNear m a b (-s) c (-y) x := by
  unfold TurnNear at *
  simp only [Int.mul_neg] at *
  omega

theorem rots_succ : ∀ n p, rots (n + 1) p = rot (rots n p) := by
  intro n
  induction n with
  | zero => intro p; rfl
  | succ n ih => intro p; rw [rots, ih]; rfl
theorem rots_4 (p : Int × Int) : rots 4 p = p := by
  obtain ⟨x, y⟩ := p
  simp only [rots, Int.neg_neg]

theorem turnL_congr {j k : Int} (a b : Int) (h : j % 512 = k % 512) : turnL a b j = turnL a b k := by
  unfold turnL quarts
  rw [h]
theorem backL_congr {j k : Int} (a b : Int) (h : j % 512 = k % 512) : backL a b j = backL a b k := by
  unfold backL quarts
  rw [h]

theorem turnL_128 (a b k : Int) : turnL a b (k + 128) = rot (turnL a b k) := by
  have e : (k + 128) % 512 % 128 = k % 512 % 128 := by omega
  unfold turnL quarts
  rw [e]
  have hq : k % 512 / 128 = 0 ∨ k % 512 / 128 = 1 ∨ k % 512 / 128 = 2 ∨ k % 512 / 128 = 3 := by omega
  split
  · rcases hq with hq | hq | hq | hq
    · rw [hq, show (k + 128) % 512 / 128 = 1 by omega]; exact rots_succ _ _
    · rw [hq, show (k + 128) % 512 / 128 = 2 by omega]; exact rots_succ _ _
    · rw [hq, show (k + 128) % 512 / 128 = 3 by omega]; exact rots_succ _ _
    · rw [hq, show (k + 128) % 512 / 128 = 0 by omega, ← rots_succ]; exact (rots_4 _).symm
  · rcases hq with hq | hq | hq | hq
    · rw [hq, show (k + 128) % 512 / 128 = 1 by omega]; exact rots_succ _ _
    · rw [hq, show (k + 128) % 512 / 128 = 2 by omega]; exact rots_succ _ _
    · rw [hq, show (k + 128) % 512 / 128 = 3 by omega]; exact rots_succ _ _
    · rw [hq, show (k + 128) % 512 / 128 = 0 by omega, ← rots_succ]
      show rots 1 _ = rots 5 _
      rw [rots_succ 4, rots_4]; rfl

theorem part_0 (x : Int) : part x 0 = 0 := by unfold part; omega
theorem turnL_0 (a b : Int) : turnL a b 0 = (a, b) := by
  show rots 0 (small a b 0 false) = (a, b)
  simp only [rots, small, facP_0, facQ_0, part_0, Bool.false_eq_true, if_false]
  simp

theorem turnL_near {m a b : Int} (ha : -m ≤ a) (ha1 : a ≤ m) (hb : -m ≤ b) (hb1 : b ≤ m) (k : Int) : TurnNear m a b (trigT k).1 (trigT k).2 (turnL a b k).1 (turnL a b k).2 := by
  refine quarters (Q := fun k => TurnNear m a b (trigT k).1 (trigT k).2 (turnL a b k).1 (turnL a b k).2) ?_ ?_ ?_ k
  · intro j h
    rw [trigT_512, turnL_congr a b (j := j % 512) (k := j) (by omega)] at h
    exact h
  · intro j h
    rw [trigT_128, turnL_128]
    exact near_rot h
  · intro j h0 h1
    by_cases h : j ≤ 64
    · have e : turnL a b j = small a b j false := by
        unfold turnL quarts
        rw [show j % 512 % 128 = j by omega, if_pos h, if_pos h, show j % 512 / 128 = 0 by omega]
        rfl
      rw [e]
      exact (small_near h0 h ha ha1 hb hb1).1
    · have e : turnL a b j = rot (small a b (128 - j) true) := by
        unfold turnL quarts
        rw [show j % 512 % 128 = j by omega, if_neg h, if_neg h, show j % 512 / 128 = 0 by omega]
        rfl
      have e2 : trigT j = rot (trigT (-(128 - j))) := by rw [← trigT_128]; exact congrArg trigT (by omega)
      rw [e, e2]
      exact near_rot (small_near (by omega) (by omega) ha ha1 hb hb1).2
end Go.Proofs.Ytlfiaaoegeodnaa
