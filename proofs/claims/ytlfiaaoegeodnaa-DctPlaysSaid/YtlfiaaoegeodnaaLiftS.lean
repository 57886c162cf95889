/- Plain laws of turns and their undoing: how great the numbers get. No Go in it. -/
import Derived.Test.YtlfiaaoegeodnaaLiftR
namespace Go.Proofs.Ytlfiaaoegeodnaa

theorem unrots_succ : ∀ n p, unrots (n + 1) p = ((unrots n p).2, -(unrots n p).1) := by
  intro n
  induction n with
  | zero => intro p; rfl
  | succ n ih => intro p; rw [unrots, ih]; rfl
theorem unrots_4 (p : Int × Int) : unrots 4 p = p := by
  obtain ⟨x, y⟩ := p
  simp only [unrots, Int.neg_neg]

theorem backL_128 (a b k : Int) : backL a b (k + 128) = backL b (-a) k := by
  have e : (k + 128) % 512 % 128 = k % 512 % 128 := by omega
  have h : ∀ n, unrots (n + 1) (a, b) = unrots n (b, -a) := fun n => rfl
  unfold backL quarts
  rw [e]
  have hq : k % 512 / 128 = 0 ∨ k % 512 / 128 = 1 ∨ k % 512 / 128 = 2 ∨ k % 512 / 128 = 3 := by omega
  split
  · rcases hq with hq | hq | hq | hq
    · rw [hq, show (k + 128) % 512 / 128 = 1 by omega]; rfl
    · rw [hq, show (k + 128) % 512 / 128 = 2 by omega]; rfl
    · rw [hq, show (k + 128) % 512 / 128 = 3 by omega]; rfl
    · rw [hq, show (k + 128) % 512 / 128 = 0 by omega]
      show small (unrots 0 (a, b)).1 (unrots 0 (a, b)).2 _ _ = small (unrots 4 (a, b)).1 (unrots 4 (a, b)).2 _ _
      rw [unrots_4]; rfl
  · rcases hq with hq | hq | hq | hq
    · rw [hq, show (k + 128) % 512 / 128 = 1 by omega]; rfl
    · rw [hq, show (k + 128) % 512 / 128 = 2 by omega]; rfl
    · rw [hq, show (k + 128) % 512 / 128 = 3 by omega]; rfl
    · rw [hq, show (k + 128) % 512 / 128 = 0 by omega]
      show small (unrots 1 (a, b)).1 (unrots 1 (a, b)).2 _ _ = small (unrots 5 (a, b)).1 (unrots 5 (a, b)).2 _ _
      rw [show unrots 5 (a, b) = unrots 4 (b, -a) from rfl, unrots_4]; rfl

theorem near_unrot {m a b c s x y : Int} (h : TurnNear m b (-a) (-s) c x y) : TurnNear m a b c s x y := by
  unfold TurnNear at *
  simp only [Int.mul_neg, Int.neg_mul] at *
  omega

theorem backL_near {m a b : Int} (ha : -m ≤ a) (ha1 : a ≤ m) (hb : -m ≤ b) (hb1 : b ≤ m) (k : Int) : TurnNear m a b (trigT (-k)).1 (trigT (-k)).2 (backL a b k).1 (backL a b k).2 := by
  refine quarters (Q := fun k => ∀ a b : Int, -m ≤ a → a ≤ m → -m ≤ b → b ≤ m → TurnNear m a b (trigT (-k)).1 (trigT (-k)).2 (backL a b k).1 (backL a b k).2) ?_ ?_ ?_ k a b ha ha1 hb hb1
  · intro j h a b h1 h2 h3 h4
    have := h a b h1 h2 h3 h4
    rw [trigT_congr (a := -(j % 512)) (b := -j) (by omega), backL_congr a b (j := j % 512) (k := j) (by omega)] at this
    exact this
  · intro j h a b h1 h2 h3 h4
    have := h b (-a) h3 h4 (by omega) (by omega)
    rw [backL_128]
    have e : trigT (-j) = rot (trigT (-(j + 128))) := by rw [← trigT_128]; exact congrArg trigT (by omega)
    rw [e] at this
    exact near_unrot this
  · intro j h0 h1 a b k1 k2 k3 k4
    by_cases h : j ≤ 64
    · have e : backL a b j = small a b j true := by
        unfold backL quarts
        rw [show j % 512 % 128 = j by omega, if_pos h, if_pos h, show j % 512 / 128 = 0 by omega]
        rfl
      rw [e]
      exact (small_near h0 h k1 k2 k3 k4).2
    · have e : backL a b j = small b (-a) (128 - j) false := by
        unfold backL quarts
        rw [show j % 512 % 128 = j by omega, if_neg h, if_neg h, show j % 512 / 128 = 0 by omega]
        rfl
      have e2 : trigT (128 - j) = rot (trigT (-j)) := by rw [← trigT_128]; exact congrArg trigT (by omega)
      have := (small_near (k := 128 - j) (a := b) (b := -a) (m := m) (by omega) (by omega) k3 k4 (by omega) (by omega)).1
      rw [e]
      rw [e2] at this
      exact near_unrot this

theorem near_in {m a b c s x y : Int} (ha : -m ≤ a) (ha1 : a ≤ m) (hb : -m ≤ b) (hb1 : b ≤ m) (h : (c.natAbs : Int) + s.natAbs ≤ 1518500276) (hn : TurnNear m a b c s x y) :
    -(m + m / 2 + 2) ≤ x ∧ x ≤ m + m / 2 + 2 ∧ -(m + m / 2 + 2) ≤ y ∧ y ≤ m + m / 2 + 2 := by
  have hU := turned_in ha ha1 hb hb1 h
  obtain ⟨n1, n2, n3, n4⟩ := hn
  omega

theorem turnL_in {c a b k : Int} (_hc : 0 ≤ c) (ha : -c ≤ a) (ha1 : a ≤ c) (hb : -c ≤ b) (hb1 : b ≤ c) :
    -(c + c / 2 + 2) ≤ (turnL a b k).1 ∧ (turnL a b k).1 ≤ c + c / 2 + 2 ∧ -(c + c / 2 + 2) ≤ (turnL a b k).2 ∧ (turnL a b k).2 ≤ c + c / 2 + 2 :=
  near_in ha ha1 hb hb1 (trig_sum k) (turnL_near ha ha1 hb hb1 k)
theorem backL_in {c a b k : Int} (_hc : 0 ≤ c) (ha : -c ≤ a) (ha1 : a ≤ c) (hb : -c ≤ b) (hb1 : b ≤ c) :
    -(c + c / 2 + 2) ≤ (backL a b k).1 ∧ (backL a b k).1 ≤ c + c / 2 + 2 ∧ -(c + c / 2 + 2) ≤ (backL a b k).2 ∧ (backL a b k).2 ≤ c + c / 2 + 2 :=
  near_in ha ha1 hb hb1 (trig_sum (-k)) (backL_near ha ha1 hb hb1 k)

theorem backL_size {m a b : Int} (hm : 0 ≤ m) (ha : -m ≤ a) (ha1 : a ≤ m) (hb : -m ≤ b) (hb1 : b ≤ m) (hS : m * m ≤ a * a + b * b) (k : Int) :
    1024 * ((backL a b k).1 * (backL a b k).1 + (backL a b k).2 * (backL a b k).2 - (a * a + b * b)) ≤ a * a + b * b + 8192 * m + 8192 := by
  have hc := trig_close (-k)
  exact (size_near hm ha ha1 hb hb1 hS (trig_sum (-k)) (by omega) (by omega) (backL_near ha ha1 hb hb1 k)).1
end Go.Proofs.Ytlfiaaoegeodnaa
