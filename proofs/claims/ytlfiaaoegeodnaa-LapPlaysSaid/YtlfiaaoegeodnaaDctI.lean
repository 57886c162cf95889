/- Plain laws of dct: the waves point by point; the way back undoes them, and they undo it. No Go in it. -/
import Derived.Test.YtlfiaaoegeodnaaDctQ
namespace Go.Proofs.Ytlfiaaoegeodnaa

theorem flip_inj {m n : Nat} (hm : m < 16) (hn : n < 16) (h : flipN m = flipN n) : m = n := by
  rw [← flip_flip hm, ← flip_flip hn, h]

theorem points_ext {xs ys : List Int} (hx : xs.length = 32) (hy : ys.length = 32) (h : ∀ n, n < 16 → xs.getD (n * 2) 0 = ys.getD (n * 2) 0 ∧ xs.getD (n * 2 + 1) 0 = ys.getD (n * 2 + 1) 0) : xs = ys := by
  apply getD_ext (by omega)
  intro i hi
  have hn := h (i / 2) (by omega)
  by_cases e : i % 2 = 0
  · rw [show i = i / 2 * 2 by omega]; exact hn.1
  · rw [show i = i / 2 * 2 + 1 by omega]; exact hn.2
theorem flips_ext {xs ys : List Int} (hx : xs.length = 32) (hy : ys.length = 32) (h : ∀ n, n < 16 → xs.getD (flipN n * 2) 0 = ys.getD (flipN n * 2) 0 ∧ xs.getD (flipN n * 2 + 1) 0 = ys.getD (flipN n * 2 + 1) 0) : xs = ys := by
  apply points_ext hx hy
  intro n hn
  have := h (flipN n) (flip_lt n)
  rwa [flip_flip hn] at this
theorem ends_ext {xs ys : List Int} (hx : xs.length = 32) (hy : ys.length = 32) (h : ∀ n, n < 16 → xs.getD (2 * n) 0 = ys.getD (2 * n) 0 ∧ xs.getD (31 - 2 * n) 0 = ys.getD (31 - 2 * n) 0) : xs = ys := by
  apply getD_ext (by omega)
  intro i hi
  by_cases e : i % 2 = 0
  · have hn := h (i / 2) (by omega)
    rw [show i = 2 * (i / 2) by omega]; exact hn.1
  · have hn := h ((31 - i) / 2) (by omega)
    rw [show i = 31 - 2 * ((31 - i) / 2) by omega]; exact hn.2

theorem inTo_at (zs : List Int) : ∀ n, n ≤ 16 → ∀ m, m < n → (inTo zs n).getD (m * 2) 0 = (turnL (zs.getD (2 * m) 0) (zs.getD (31 - 2 * m) 0) (edgeN m)).1 ∧ (inTo zs n).getD (m * 2 + 1) 0 = (turnL (zs.getD (2 * m) 0) (zs.getD (31 - 2 * m) 0) (edgeN m)).2
  | 0, _, _, h => by omega
  | n + 1, hn, m, hm => by
    have hl := inTo_len zs n
    rw [inTo]
    by_cases e : m = n
    · subst e
      rw [getD_set_ne (by omega), getD_set_eq (by omega), getD_set_eq (by simp; omega)]
      exact ⟨rfl, rfl⟩
    · rw [getD_set_ne (by omega), getD_set_ne (by omega), getD_set_ne (by omega), getD_set_ne (by omega)]
      exact inTo_at zs n (by omega) m (by omega)

theorem binTo_at (zs : List Int) : ∀ n, n ≤ 16 → ∀ m, m < n → (binTo zs n).getD (flipN m * 2) 0 = (backL (zs.getD (2 * m) 0) (-zs.getD (31 - 2 * m) 0) (edgeN m)).1 ∧ (binTo zs n).getD (flipN m * 2 + 1) 0 = (backL (zs.getD (2 * m) 0) (-zs.getD (31 - 2 * m) 0) (edgeN m)).2
  | 0, _, _, h => by omega
  | n + 1, hn, m, hm => by
    have hl := binTo_len zs n
    have hf := flip_lt n
    have hg := flip_lt m
    rw [binTo]
    by_cases e : m = n
    · subst e
      rw [getD_set_ne (by omega), getD_set_eq (by omega), getD_set_eq (by simp; omega)]
      exact ⟨rfl, rfl⟩
    · have hne : flipN m ≠ flipN n := fun h => e (flip_inj (by omega) (by omega) h)
      rw [getD_set_ne (by omega), getD_set_ne (by omega), getD_set_ne (by omega), getD_set_ne (by omega)]
      exact binTo_at zs n (by omega) m (by omega)

theorem turnTo_far (st : List Int) {p : Nat} : ∀ n, (∀ m, m < n → flipN m ≠ p) → (turnTo st n).getD (p * 2) 0 = st.getD (p * 2) 0 ∧ (turnTo st n).getD (p * 2 + 1) 0 = st.getD (p * 2 + 1) 0
  | 0, _ => ⟨rfl, rfl⟩
  | n + 1, h => by
    have hn := h n (by omega)
    rw [turnTo, wTurn_op, op2_ne (by omega) (by omega), op2_ne (by omega) (by omega)]
    exact turnTo_far st n (fun m hm => h m (by omega))
theorem turnTo_new (st : List Int) (hl : st.length = 32) {n : Nat} (hn : n < 16) : (turnTo st (n + 1)).getD (flipN n * 2) 0 = (turnL (st.getD (flipN n * 2) 0) (st.getD (flipN n * 2 + 1) 0) (edgeN n)).1 ∧ (turnTo st (n + 1)).getD (flipN n * 2 + 1) 0 = (turnL (st.getD (flipN n * 2) 0) (st.getD (flipN n * 2 + 1) 0) (edgeN n)).2 := by
  have hk := turnTo_len st n
  have hf := flip_lt n
  have h := turnTo_far st (p := flipN n) n (fun m hm e => by have := flip_inj (by omega) hn e; omega)
  rw [turnTo, wTurn_op, op2_fst (by omega) (by omega), op2_snd (by omega), h.1, h.2]
  exact ⟨rfl, rfl⟩
theorem turnTo_at (st : List Int) (hl : st.length = 32) : ∀ n, n ≤ 16 → ∀ m, m < n → (turnTo st n).getD (flipN m * 2) 0 = (turnL (st.getD (flipN m * 2) 0) (st.getD (flipN m * 2 + 1) 0) (edgeN m)).1 ∧ (turnTo st n).getD (flipN m * 2 + 1) 0 = (turnL (st.getD (flipN m * 2) 0) (st.getD (flipN m * 2 + 1) 0) (edgeN m)).2
  | 0, _, _, h => by omega
  | n + 1, hn, m, hm => by
    by_cases e : m = n
    · subst e; exact turnTo_new st hl (by omega)
    · have hne : flipN m ≠ flipN n := fun h => e (flip_inj (by omega) (by omega) h)
      rw [turnTo, wTurn_op, op2_ne (by omega) (by omega), op2_ne (by omega) (by omega)]
      exact turnTo_at st hl n (by omega) m (by omega)

theorem backTo_far (st : List Int) {p : Nat} : ∀ n, n ≤ p → (backTo st n).getD (p * 2) 0 = st.getD (p * 2) 0 ∧ (backTo st n).getD (p * 2 + 1) 0 = st.getD (p * 2 + 1) 0
  | 0, _ => ⟨rfl, rfl⟩
  | n + 1, h => by
    rw [backTo, wBack_op, op2_ne (by omega) (by omega), op2_ne (by omega) (by omega)]
    exact backTo_far st n (by omega)
theorem backTo_new (st : List Int) (hl : st.length = 32) {n : Nat} (hn : n < 16) : (backTo st (n + 1)).getD (n * 2) 0 = (backL (st.getD (n * 2) 0) (st.getD (n * 2 + 1) 0) (edgeN n)).1 ∧ (backTo st (n + 1)).getD (n * 2 + 1) 0 = (backL (st.getD (n * 2) 0) (st.getD (n * 2 + 1) 0) (edgeN n)).2 := by
  have hk := backTo_len st n
  have h := backTo_far st (p := n) n (by omega)
  rw [backTo, wBack_op, op2_fst (by omega) (by omega), op2_snd (by omega), h.1, h.2]
  exact ⟨rfl, rfl⟩

theorem outTo_at (st zs : List Int) (hl : st.length = 32) (hz : zs.length = 32) : ∀ n, n ≤ 16 → ∀ m, m < n → (outTo st zs n).getD (2 * m) 0 = (turnL (st.getD (flipN m * 2) 0) (st.getD (flipN m * 2 + 1) 0) (edgeN m)).1 ∧ (outTo st zs n).getD (31 - 2 * m) 0 = -(turnL (st.getD (flipN m * 2) 0) (st.getD (flipN m * 2 + 1) 0) (edgeN m)).2
  | 0, _, _, h => by omega
  | n + 1, hn, m, hm => by
    have hk := outTo_len st zs n
    rw [outTo]
    by_cases e : m = n
    · subst e
      rw [getD_set_ne (by omega), getD_set_eq (by omega), getD_set_eq (by simp; omega)]
      have := turnTo_new st hl (n := m) (by omega)
      rw [this.1, this.2]
      exact ⟨rfl, rfl⟩
    · rw [getD_set_ne (by omega), getD_set_ne (by omega), getD_set_ne (by omega), getD_set_ne (by omega)]
      exact outTo_at st zs hl hz n (by omega) m (by omega)
theorem boutTo_at (st zs : List Int) (hl : st.length = 32) (hz : zs.length = 32) : ∀ n, n ≤ 16 → ∀ m, m < n → (boutTo st zs n).getD (2 * m) 0 = (backL (st.getD (m * 2) 0) (st.getD (m * 2 + 1) 0) (edgeN m)).1 ∧ (boutTo st zs n).getD (31 - 2 * m) 0 = (backL (st.getD (m * 2) 0) (st.getD (m * 2 + 1) 0) (edgeN m)).2
  | 0, _, _, h => by omega
  | n + 1, hn, m, hm => by
    have hk := boutTo_len st zs n
    rw [boutTo]
    by_cases e : m = n
    · subst e
      rw [getD_set_ne (by omega), getD_set_eq (by omega), getD_set_eq (by simp; omega)]
      have := backTo_new st hl (n := m) (by omega)
      rw [this.1, this.2]
      exact ⟨rfl, rfl⟩
    · rw [getD_set_ne (by omega), getD_set_ne (by omega), getD_set_ne (by omega), getD_set_ne (by omega)]
      exact boutTo_at st zs hl hz n (by omega) m (by omega)

theorem back_waves {zs : List Int} (hl : zs.length = 32) : dbackL (wavesL zs) = zs := by
  have l1 : (mid4 (inTo zs 16)).length = 32 := (mid4_len _).trans (inTo_len zs 16)
  have lw : (wavesL zs).length = 32 := (wavesL_len zs).trans hl
  have e1 : binTo (wavesL zs) 16 = mid4 (inTo zs 16) := by
    apply flips_ext (binTo_len _ _) l1
    intro n hn
    have h1 := binTo_at (wavesL zs) 16 (by omega) n hn
    have h2 := outTo_at (mid4 (inTo zs 16)) zs l1 hl 16 (by omega) n hn
    rw [← wavesL] at h2
    rw [h1.1, h1.2, h2.1, h2.2, Int.neg_neg, back_turn]
    simp only [and_self]
  unfold dbackL
  rw [e1, bmid_mid (inTo_len zs 16)]
  apply ends_ext ((boutTo_len _ _ _).trans lw) hl
  intro n hn
  have h1 := boutTo_at (inTo zs 16) (wavesL zs) (inTo_len zs 16) lw 16 (by omega) n hn
  have h2 := inTo_at zs 16 (by omega) n hn
  rw [h1.1, h1.2, h2.1, h2.2, back_turn]
  exact ⟨rfl, rfl⟩

theorem waves_back {zs : List Int} (hl : zs.length = 32) : wavesL (dbackL zs) = zs := by
  have l1 : (bmid4 (binTo zs 16)).length = 32 := (bmid4_len _).trans (binTo_len zs 16)
  have lw : (dbackL zs).length = 32 := (dbackL_len zs).trans hl
  have e1 : inTo (dbackL zs) 16 = bmid4 (binTo zs 16) := by
    apply points_ext (inTo_len _ _) l1
    intro n hn
    have h1 := inTo_at (dbackL zs) 16 (by omega) n hn
    have h2 := boutTo_at (bmid4 (binTo zs 16)) zs l1 hl 16 (by omega) n hn
    rw [← dbackL] at h2
    rw [h1.1, h1.2, h2.1, h2.2, turn_back]
    simp only [and_self]
  unfold wavesL
  rw [e1, mid_bmid (binTo_len zs 16)]
  apply ends_ext ((outTo_len _ _ _).trans lw) hl
  intro n hn
  have h1 := outTo_at (binTo zs 16) (dbackL zs) (binTo_len zs 16) lw 16 (by omega) n hn
  have h2 := binTo_at zs 16 (by omega) n hn
  rw [h1.1, h1.2, h2.1, h2.2, turn_back]
  exact ⟨rfl, by simp⟩
end Go.Proofs.Ytlfiaaoegeodnaa
