/- Plain laws of turns: the squares' sum, a turn behind a turn, parts. No Go in it. -/
import Derived.Test.YtlfiaaoegeodnaaLiftQ
namespace Go.Proofs.Ytlfiaaoegeodnaa

theorem trig_sum_all : ∀ k : Fin 512, ((trigT k.val).1.natAbs : Int) + (trigT k.val).2.natAbs ≤ 1518500276 := by decide +kernel
theorem trig_sum (k : Int) : ((trigT k).1.natAbs : Int) + (trigT k).2.natAbs ≤ 1518500276 := by
  have h := trig_sum_all ⟨(k % 512).toNat, by omega⟩
  have e : (((k % 512).toNat : Nat) : Int) = k % 512 := by omega
  simp only [e] at h
  rw [trigT_512] at h
  exact h

theorem turned_in {m a b c s : Int} (ha : -m ≤ a) (ha1 : a ≤ m) (hb : -m ≤ b) (hb1 : b ≤ m) (h : (c.natAbs : Int) + s.natAbs ≤ 1518500276) :
    -(m * 1518500276) ≤ a * c - b * s ∧ a * c - b * s ≤ m * 1518500276 ∧ -(m * 1518500276) ≤ a * s + b * c ∧ a * s + b * c ≤ m * 1518500276 := by
  have h1 := mul_in (x := a) (y := c) (c := (c.natAbs : Int)) ha ha1 (by omega) (by omega)
  have h2 := mul_in (x := b) (y := s) (c := (s.natAbs : Int)) hb hb1 (by omega) (by omega)
  have h3 := mul_in (x := a) (y := s) (c := (s.natAbs : Int)) ha ha1 (by omega) (by omega)
  have h4 := mul_in (x := b) (y := c) (c := (c.natAbs : Int)) hb hb1 (by omega) (by omega)
  have h5 : m * ((c.natAbs : Int) + s.natAbs) ≤ m * 1518500276 := Int.mul_le_mul_of_nonneg_left h (by omega)
  rw [Int.mul_add] at h5
  omega

theorem sq_parts {a b c s x y : Int} : 1152921504606846976 * (x * x + y * y) = (a * a + b * b) * (c * c + s * s) +
    2 * ((a * c - b * s) * (1073741824 * x - (a * c - b * s)) + (a * s + b * c) * (1073741824 * y - (a * s + b * c))) +
    ((1073741824 * x - (a * c - b * s)) * (1073741824 * x - (a * c - b * s)) + (1073741824 * y - (a * s + b * c)) * (1073741824 * y - (a * s + b * c))) := by grind

theorem sq_nonneg (x : Int) : 0 ≤ x * x := by
  rcases Int.le_total 0 x with h | h
  · exact Int.mul_nonneg h h
  · exact Int.mul_nonneg_of_nonpos_of_nonpos h h

theorem exp_1 (m : Int) : m * 1518500276 * (65536 * m + 1296121856) = 99516434087936 * (m * m) + 1968161396065632256 * m := by grind
theorem exp_2 (m : Int) : (65536 * m + 1296121856) * (65536 * m + 1296121856) = 4294967296 * (m * m) + 169885283909632 * m + 1679931865600884736 := by grind

theorem size_near {m a b c s x y : Int} (_hm : 0 ≤ m) (ha : -m ≤ a) (ha1 : a ≤ m) (hb : -m ≤ b) (hb1 : b ≤ m) (hS : m * m ≤ a * a + b * b)
    (h : (c.natAbs : Int) + s.natAbs ≤ 1518500276) (hc1 : c * c + s * s ≤ 1152921504606846976 + 4398046511104) (hc2 : 1152921504606846976 - 4398046511104 ≤ c * c + s * s)
    (hn : TurnNear m a b c s x y) :
    1024 * (x * x + y * y - (a * a + b * b)) ≤ a * a + b * b + 8192 * m + 8192 ∧ 1024 * ((a * a + b * b) - (x * x + y * y)) ≤ a * a + b * b + 8192 * m + 8192 := by
  have hk := sq_parts (a := a) (b := b) (c := c) (s := s) (x := x) (y := y)
  have hU := turned_in ha ha1 hb hb1 h
  obtain ⟨n1, n2, n3, n4⟩ := hn
  generalize 1073741824 * x - (a * c - b * s) = e1 at *
  generalize 1073741824 * y - (a * s + b * c) = e2 at *
  generalize a * c - b * s = U at *
  generalize a * s + b * c = V at *
  have q1 := mul_in hU.1 hU.2.1 n1 n2
  have q2 := mul_in hU.2.2.1 hU.2.2.2 n3 n4
  have q3 := mul_in n1 n2 n1 n2
  have q4 := mul_in n3 n4 n3 n4
  have s1 : (a * a + b * b) * (c * c + s * s) ≤ (a * a + b * b) * (1152921504606846976 + 4398046511104) := Int.mul_le_mul_of_nonneg_left hc1 (by have := sq_nonneg a; have := sq_nonneg b; omega)
  have s2 : (a * a + b * b) * (1152921504606846976 - 4398046511104) ≤ (a * a + b * b) * (c * c + s * s) := Int.mul_le_mul_of_nonneg_left hc2 (by have := sq_nonneg a; have := sq_nonneg b; omega)
  have t1 := sq_nonneg e1
  have t2 := sq_nonneg e2
  have t3 := sq_nonneg m
  rw [exp_1] at q1 q2
  rw [exp_2] at q3 q4
  generalize (a * a + b * b) * (c * c + s * s) = W at *
  generalize hX : x * x + y * y = X at *
  generalize hA : a * a + b * b = A at *
  generalize hM : m * m = M at *
  generalize U * e1 = k1 at *
  generalize V * e2 = k2 at *
  generalize e1 * e1 = k3 at *
  generalize e2 * e2 = k4 at *
  omega

theorem turnL_size {m a b : Int} (hm : 0 ≤ m) (ha : -m ≤ a) (ha1 : a ≤ m) (hb : -m ≤ b) (hb1 : b ≤ m) (hS : m * m ≤ a * a + b * b) (k : Int) :
    1024 * ((turnL a b k).1 * (turnL a b k).1 + (turnL a b k).2 * (turnL a b k).2 - (a * a + b * b)) ≤ a * a + b * b + 8192 * m + 8192 ∧
    1024 * ((a * a + b * b) - ((turnL a b k).1 * (turnL a b k).1 + (turnL a b k).2 * (turnL a b k).2)) ≤ a * a + b * b + 8192 * m + 8192 := by
  have hc := trig_close k
  exact size_near hm ha ha1 hb hb1 hS (trig_sum k) (by omega) (by omega) (turnL_near ha ha1 hb hb1 k)

theorem twice_id {a b c1 s1 c2 s2 c3 s3 x1 y1 x2 x3 : Int} :
    1152921504606846976 * (x2 - x3) = (a * (c1 * c2 - s1 * s2 - c3 * 1073741824) - b * (c1 * s2 + s1 * c2 - s3 * 1073741824)) +
      ((1073741824 * x1 - (a * c1 - b * s1)) * c2 - (1073741824 * y1 - (a * s1 + b * c1)) * s2) +
      1073741824 * (1073741824 * x2 - (x1 * c2 - y1 * s2)) - 1073741824 * (1073741824 * x3 - (a * c3 - b * s3)) := by grind
theorem twice_id2 {a b c1 s1 c2 s2 c3 s3 x1 y1 y2 y3 : Int} :
    1152921504606846976 * (y2 - y3) = (a * (c1 * s2 + s1 * c2 - s3 * 1073741824) + b * (c1 * c2 - s1 * s2 - c3 * 1073741824)) +
      ((1073741824 * x1 - (a * c1 - b * s1)) * s2 + (1073741824 * y1 - (a * s1 + b * c1)) * c2) +
      1073741824 * (1073741824 * y2 - (x1 * s2 + y1 * c2)) - 1073741824 * (1073741824 * y3 - (a * s3 + b * c3)) := by grind

theorem near_small {m a b c s x y : Int} (_hm : 0 ≤ m) (ha : -m ≤ a) (ha1 : a ≤ m) (hb : -m ≤ b) (hb1 : b ≤ m) (h : (c.natAbs : Int) + s.natAbs ≤ 1518500276) (hn : TurnNear m a b c s x y) :
    -(2 * m + 2) ≤ x ∧ x ≤ 2 * m + 2 ∧ -(2 * m + 2) ≤ y ∧ y ≤ 2 * m + 2 := by
  have hU := turned_in ha ha1 hb hb1 h
  obtain ⟨n1, n2, n3, n4⟩ := hn
  omega

theorem turnL_twice {m a b : Int} (hm : 0 ≤ m) (ha : -m ≤ a) (ha1 : a ≤ m) (hb : -m ≤ b) (hb1 : b ≤ m) (j k : Int) :
    (turnL (turnL a b j).1 (turnL a b j).2 k).1 - (turnL a b (j + k)).1 ≤ m / 256 + 16 ∧ (turnL a b (j + k)).1 - (turnL (turnL a b j).1 (turnL a b j).2 k).1 ≤ m / 256 + 16 ∧
    (turnL (turnL a b j).1 (turnL a b j).2 k).2 - (turnL a b (j + k)).2 ≤ m / 256 + 16 ∧ (turnL a b (j + k)).2 - (turnL (turnL a b j).1 (turnL a b j).2 k).2 ≤ m / 256 + 16 := by
  have h1 := turnL_near ha ha1 hb hb1 j
  have h3 := turnL_near ha ha1 hb hb1 (j + k)
  have hs := near_small hm ha ha1 hb hb1 (trig_sum j) h1
  have h2 := turnL_near hs.1 hs.2.1 hs.2.2.1 hs.2.2.2 k
  have hn := near_all j k
  have ht := trigT_bd k
  generalize turnL (turnL a b j).1 (turnL a b j).2 k = z2 at *
  generalize turnL a b (j + k) = z3 at *
  generalize turnL a b j = z1 at *
  generalize trigT (j + k) = w3 at *
  generalize trigT j = w1 at *
  generalize trigT k = w2 at *
  obtain ⟨x1, y1⟩ := z1
  obtain ⟨x2, y2⟩ := z2
  obtain ⟨x3, y3⟩ := z3
  obtain ⟨c1, s1⟩ := w1
  obtain ⟨c2, s2⟩ := w2
  obtain ⟨c3, s3⟩ := w3
  dsimp only at *
  have k1 := twice_id (a := a) (b := b) (c1 := c1) (s1 := s1) (c2 := c2) (s2 := s2) (c3 := c3) (s3 := s3) (x1 := x1) (y1 := y1) (x2 := x2) (x3 := x3)
  have k2 := twice_id2 (a := a) (b := b) (c1 := c1) (s1 := s1) (c2 := c2) (s2 := s2) (c3 := c3) (s3 := s3) (x1 := x1) (y1 := y1) (y2 := y2) (y3 := y3)
  obtain ⟨a1, a2, a3, a4⟩ := h1
  obtain ⟨b1, b2, b3, b4⟩ := h2
  obtain ⟨d1, d2, d3, d4⟩ := h3
  obtain ⟨n1, n2, n3, n4⟩ := hn
  dsimp only at n1 n2 n3 n4
  generalize 1073741824 * x1 - (a * c1 - b * s1) = e1 at *
  generalize 1073741824 * y1 - (a * s1 + b * c1) = e2 at *
  generalize 1073741824 * x2 - (x1 * c2 - y1 * s2) = e3 at *
  generalize 1073741824 * y2 - (x1 * s2 + y1 * c2) = e4 at *
  generalize 1073741824 * x3 - (a * c3 - b * s3) = e5 at *
  generalize 1073741824 * y3 - (a * s3 + b * c3) = e6 at *
  generalize c1 * c2 - s1 * s2 - c3 * 1073741824 = g1 at *
  generalize c1 * s2 + s1 * c2 - s3 * 1073741824 = g2 at *
  have q1 := mul_in ha ha1 n1 n2
  have q2 := mul_in hb hb1 n3 n4
  have q3 := mul_in ha ha1 n3 n4
  have q4 := mul_in hb hb1 n1 n2
  have q5 := mul_in a1 a2 ht.1 ht.2.1
  have q6 := mul_in a3 a4 ht.2.2.1 ht.2.2.2
  have q7 := mul_in a1 a2 ht.2.2.1 ht.2.2.2
  have q8 := mul_in a3 a4 ht.1 ht.2.1
  generalize a * g1 = t1 at *
  generalize b * g2 = t2 at *
  generalize a * g2 = t3 at *
  generalize b * g1 = t4 at *
  generalize e1 * c2 = t5 at *
  generalize e2 * s2 = t6 at *
  generalize e1 * s2 = t7 at *
  generalize e2 * c2 = t8 at *
  refine ⟨?_, ?_, ?_, ?_⟩ <;> omega

theorem part_between {y f : Int} (h0 : 0 ≤ f) (h1 : f ≤ 32768) : (y ≤ part y f ∨ 0 ≤ part y f) ∧ (part y f ≤ y ∨ part y f ≤ 0) := by
  unfold part
  rcases Int.le_total 0 y with h | h
  · have a1 := Int.mul_nonneg h h0
    have a2 : y * f ≤ y * 32768 := Int.mul_le_mul_of_nonneg_left h1 h
    omega
  · have a1 : y * f ≤ 0 := Int.mul_nonpos_of_nonpos_of_nonneg h h0
    have a2 : y * 32768 ≤ y * f := Int.mul_le_mul_of_nonpos_left h h1
    omega
theorem part_whole (y : Int) : part y 32768 = y := by unfold part; omega

end Go.Proofs.Ytlfiaaoegeodnaa
