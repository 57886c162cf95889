/- Plain laws on angles: turns by right angles. No Go in it. -/
import Derived.Test.YtlfiaaoegeodnaaAngle
namespace Go.Proofs.Ytlfiaaoegeodnaa

def rot (p : Int × Int) : Int × Int := (-p.2, p.1)

theorem trigT_congr {a b : Int} (h : a % 512 = b % 512) : trigT a = trigT b := by
  rw [← trigT_512 a, ← trigT_512 b, h]

theorem trigT_128 (k : Int) : trigT (k + 128) = rot (trigT k) := by
  have hq : k % 512 / 128 = 0 ∨ k % 512 / 128 = 1 ∨ k % 512 / 128 = 2 ∨ k % 512 / 128 = 3 := by omega
  have e : (k + 128) % 512 % 128 = k % 512 % 128 := by omega
  rcases hq with hq | hq | hq | hq
  · rw [trigT_0 hq, trigT_1 (by omega), e]; rfl
  · rw [trigT_1 hq, trigT_2 (by omega), e]; rfl
  · rw [trigT_2 hq, trigT_3 (by omega), e]; simp [rot]
  · rw [trigT_3 hq, trigT_0 (by omega), e]; simp [rot]

theorem trig_right {k x y : Int} (h : trigT k = (x, y)) : trigT (k + 128) = (-y, x) := by rw [trigT_128, h]; rfl
theorem trig_half {k x y : Int} (h : trigT k = (x, y)) : trigT (k + 256) = (-x, -y) := by
  rw [show k + 256 = k + 128 + 128 by omega]; exact trig_right (trig_right h)
theorem trig_all {k x y : Int} (h : trigT k = (x, y)) : trigT (k - 512) = (x, y) := by rw [← h]; exact trigT_congr (by omega)

/-- What holds from 0 to 127, and stays with a right angle more, and goes by the rest by 512, holds everywhere. -/
theorem quarters {Q : Int → Prop} (hp : ∀ j, Q (j % 512) → Q j) (hs : ∀ j, Q j → Q (j + 128)) (h0 : ∀ j, 0 ≤ j → j < 128 → Q j) (j : Int) : Q j := by
  apply hp
  have hq : j % 512 / 128 = 0 ∨ j % 512 / 128 = 1 ∨ j % 512 / 128 = 2 ∨ j % 512 / 128 = 3 := by omega
  rcases hq with hq | hq | hq | hq
  · exact h0 _ (by omega) (by omega)
  · have := hs _ (h0 (j % 512 - 128) (by omega) (by omega))
    rwa [show j % 512 - 128 + 128 = j % 512 by omega] at this
  · have := hs _ (hs _ (h0 (j % 512 - 256) (by omega) (by omega)))
    rwa [show j % 512 - 256 + 128 + 128 = j % 512 by omega] at this
  · have := hs _ (hs _ (hs _ (h0 (j % 512 - 384) (by omega) (by omega))))
    rwa [show j % 512 - 384 + 128 + 128 + 128 = j % 512 by omega] at this

theorem rises_all : ∀ i : Fin 128, (trigT (i.val + 1)).1 < (trigT i.val).1 ∧ (trigT i.val).2 < (trigT (i.val + 1)).2 := by decide +kernel

theorem close_all : ∀ i : Fin 512, (trigT i.val).1 - (trigT (128 - i.val)).2 ≤ 2048 ∧ (trigT (128 - i.val)).2 - (trigT i.val).1 ≤ 2048 ∧
    (trigT i.val).1 * (trigT i.val).1 + (trigT i.val).2 * (trigT i.val).2 - 1152921504606846976 ≤ 4398046511104 ∧
    1152921504606846976 - ((trigT i.val).1 * (trigT i.val).1 + (trigT i.val).2 * (trigT i.val).2) ≤ 4398046511104 := by decide +kernel

theorem trig_close (k : Int) : (trigT k).1 - (trigT (128 - k)).2 ≤ 2048 ∧ (trigT (128 - k)).2 - (trigT k).1 ≤ 2048 ∧
    (trigT k).1 * (trigT k).1 + (trigT k).2 * (trigT k).2 - 1152921504606846976 ≤ 4398046511104 ∧
    1152921504606846976 - ((trigT k).1 * (trigT k).1 + (trigT k).2 * (trigT k).2) ≤ 4398046511104 := by
  have h := close_all ⟨(k % 512).toNat, by omega⟩
  have e : (((k % 512).toNat : Nat) : Int) = k % 512 := by omega
  simp only [e] at h
  rw [trigT_512, trigT_congr (a := 128 - k % 512) (b := 128 - k) (by omega)] at h
  exact h
end Go.Proofs.Ytlfiaaoegeodnaa
