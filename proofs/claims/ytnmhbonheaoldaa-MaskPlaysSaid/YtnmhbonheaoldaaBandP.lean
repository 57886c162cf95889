/- Plain laws of layer 16: the step of four numbers, bands, numbers brought into their range. No Go in it. -/
namespace Go.Proofs.Ytnmhbonheaoldaa

/-- no number is greater than m, without its sign -/
def fitsB (m : Int) (zs : List Int) : Bool := !(zs.any fun x => decide (x < -m) || decide (m < x))
/-- the least step from 15 - k on -/
def stepUp (zs : List Int) : Nat → Nat
  | 0 => 15
  | k + 1 => if fitsB (6 * 2 ^ (14 - k)) zs then 14 - k else stepUp zs k
def stepL (zs : List Int) : Nat := stepUp zs 15
def IsStep (zs : List Int) (s : Nat) : Prop := s ≤ 15 ∧ (∀ j, j < s → fitsB (6 * 2 ^ j) zs = false) ∧ (s < 15 → fitsB (6 * 2 ^ s) zs = true)

theorem stepUp_of {zs : List Int} {s : Nat} (h : IsStep zs s) : ∀ k, k ≤ 15 → 15 - k ≤ s → stepUp zs k = s
  | 0, _, hs => by have := h.1; simp [stepUp]; omega
  | k + 1, hk, hs => by
    unfold stepUp
    split
    · next hf =>
      rcases Nat.lt_or_ge (14 - k) s with hlt | hge
      · have := h.2.1 _ hlt
        rw [this] at hf
        cases hf
      · omega
    · next hf =>
      refine stepUp_of h k (by omega) ?_
      rcases Nat.lt_or_ge s (15 - k) with hlt | hge
      · have e : s = 14 - k := by omega
        rw [← e] at hf
        exact absurd (h.2.2 (by omega)) hf
      · exact hge
theorem stepL_of {zs : List Int} {s : Nat} (h : IsStep zs s) : stepL zs = s := stepUp_of h 15 (Nat.le_refl _) (by omega)
theorem stepUp_is {zs : List Int} : ∀ k, k ≤ 15 → (∀ j, j < 15 - k → fitsB (6 * 2 ^ j) zs = false) → IsStep zs (stepUp zs k)
  | 0, _, h => ⟨Nat.le_refl _, h, fun hc => absurd hc (by simp [stepUp])⟩
  | k + 1, hk, h => by
    unfold stepUp
    split
    · next hf => exact ⟨by omega, fun j hj => h j (by omega), fun _ => hf⟩
    · next hf =>
      refine stepUp_is k (by omega) (fun j hj => ?_)
      by_cases e : j = 14 - k
      · subst e; simpa using hf
      · exact h j (by omega)
theorem stepL_is (zs : List Int) : IsStep zs (stepL zs) := stepUp_is 15 (Nat.le_refl _) (fun j hj => absurd hj (by omega))
theorem stepL_le (zs : List Int) : stepL zs ≤ 15 := (stepL_is zs).1

/-- a size, no greater than 2^40 -/
def sizeB (x : Int) : Int := min (max x (-x)) 1099511627776
theorem fits_four (m a b c d : Int) : fitsB m [a, b, c, d] = decide (-m ≤ a ∧ a ≤ m ∧ -m ≤ b ∧ b ≤ m ∧ -m ≤ c ∧ c ≤ m ∧ -m ≤ d ∧ d ≤ m) := by
  rw [Bool.eq_iff_iff]
  simp [fitsB]
  omega

theorem pow_le15 {s : Nat} (h : s ≤ 15) : (2 : Int) ^ s ≤ 32768 ∧ (1 : Int) ≤ 2 ^ s := by
  have hs : s = 0 ∨ s = 1 ∨ s = 2 ∨ s = 3 ∨ s = 4 ∨ s = 5 ∨ s = 6 ∨ s = 7 ∨ s = 8 ∨ s = 9 ∨ s = 10 ∨ s = 11 ∨ s = 12 ∨ s = 13 ∨ s = 14 ∨ s = 15 := by omega
  rcases hs with rfl | rfl | rfl | rfl | rfl | rfl | rfl | rfl | rfl | rfl | rfl | rfl | rfl | rfl | rfl | rfl <;> decide

/-- what layer 16 says of a band's greatest number -/
theorem loud_law (a b c d : Int) : stepL [a, b, c, d] ≤ 15 ∧ (stepL [a, b, c, d] = 15 ∨ max (max (max (sizeB a) (sizeB b)) (sizeB c)) (sizeB d) ≤ 6 * 2 ^ stepL [a, b, c, d]) ∧
    (stepL [a, b, c, d] = 0 ∨ 3 * 2 ^ stepL [a, b, c, d] < max (max (max (sizeB a) (sizeB b)) (sizeB c)) (sizeB d)) := by
  obtain ⟨h1, h2, h3⟩ := stepL_is [a, b, c, d]
  generalize stepL [a, b, c, d] = s at *
  refine ⟨h1, ?_, ?_⟩
  · by_cases e : s = 15
    · exact Or.inl e
    · right
      have h := h3 (by omega)
      have hp := pow_le15 h1
      rw [fits_four] at h
      simp only [decide_eq_true_eq] at h
      simp only [sizeB]
      generalize (2 : Int) ^ s = p at *
      omega
  · by_cases e : s = 0
    · exact Or.inl e
    · right
      obtain ⟨t, rfl⟩ : ∃ t, s = t + 1 := ⟨s - 1, by omega⟩
      have h := h2 t (by omega)
      have hp := pow_le15 (s := t) (by omega)
      rw [fits_four] at h
      simp only [decide_eq_false_iff_not] at h
      simp only [sizeB, Int.pow_succ]
      generalize (2 : Int) ^ t = p at *
      omega

theorem fits_twice (m : Int) (zs : List Int) : fitsB (2 * m) (zs.map (2 * ·)) = fitsB m zs := by
  rw [Bool.eq_iff_iff]
  simp [fitsB]
  constructor <;> intro h x hx <;> have := h x hx <;> omega
theorem double_is {zs : List Int} : IsStep (zs.map (2 * ·)) (if fitsB 6 (zs.map (2 * ·)) then 0 else min (stepL zs + 1) 15) := by
  obtain ⟨h1, h2, h3⟩ := stepL_is zs
  generalize stepL zs = s at *
  split
  · next h => exact ⟨by omega, fun j hj => absurd hj (by omega), fun _ => by simpa using h⟩
  · next h =>
    refine ⟨by omega, fun j hj => ?_, fun hlt => ?_⟩
    · cases j with
      | zero => simpa using h
      | succ j =>
        have := h2 j (by omega)
        rw [show (6 : Int) * 2 ^ (j + 1) = 2 * (6 * 2 ^ j) by rw [Int.pow_succ]; omega, fits_twice]
        exact this
    · have e : min (s + 1) 15 = s + 1 := by omega
      rw [e, show (6 : Int) * 2 ^ (s + 1) = 2 * (6 * 2 ^ s) by rw [Int.pow_succ]; omega, fits_twice]
      exact h3 (by omega)
theorem fits_mono {zs : List Int} (h : fitsB 6 (zs.map (2 * ·)) = true) : fitsB 6 zs = true := by
  simp [fitsB] at h ⊢
  intro x hx
  have := h x hx
  omega
/-- what layer 16 says of numbers doubled -/
theorem doubles_law (zs : List Int) : stepL zs ≤ stepL (zs.map (2 * ·)) ∧ stepL (zs.map (2 * ·)) ≤ stepL zs + 1 ∧ (stepL zs = 0 ∨ stepL (zs.map (2 * ·)) = min (stepL zs + 1) 15) := by
  rw [stepL_of (double_is (zs := zs))]
  have h1 := stepL_le zs
  split
  · next h =>
    have e : stepL zs = 0 := stepL_of ⟨by omega, fun j hj => absurd hj (by omega), fun _ => by simpa using fits_mono h⟩
    omega
  · omega

def clampZ (x : Int) : Int := max (min x 1048576) (-1048576)
theorem clampZ_in (x : Int) : -1048576 ≤ clampZ x ∧ clampZ x ≤ 1048576 := by unfold clampZ; omega
theorem clampZ_id {x : Int} : clampZ x = x ↔ -1048576 ≤ x ∧ x ≤ 1048576 := by unfold clampZ; omega
theorem clampZ_twice (x : Int) : clampZ (clampZ x) = clampZ x := by unfold clampZ; omega
theorem clampL_id {zs : List Int} : zs.map clampZ = zs ↔ ∀ z ∈ zs, -1048576 ≤ z ∧ z ≤ 1048576 := by
  induction zs with
  | nil => simp
  | cons a l ih => simp only [List.map_cons, List.cons.injEq, List.forall_mem_cons, ih, clampZ_id]
theorem clampL_twice (zs : List Int) : (zs.map clampZ).map clampZ = zs.map clampZ := by
  rw [List.map_map]
  exact List.map_congr_left fun x _ => clampZ_twice x

/-- a band of a frame -/
def bandL (zs : List Int) (b : Nat) : List Int := [zs.getD (4 * b) 0, zs.getD (4 * b + 1) 0, zs.getD (4 * b + 2) 0, zs.getD (4 * b + 3) 0]
theorem bandL_len (zs : List Int) (b : Nat) : (bandL zs b).length = 4 := rfl
def stepsL (zs : List Int) : List Int := (List.range 8).map fun b => (stepL (bandL zs b) : Int)
/-- four numbers put into a band -/
def putL (zs : List Int) (b : Nat) (cs : List Int) : List Int := (((zs.set (4 * b) (cs.getD 0 0)).set (4 * b + 1) (cs.getD 1 0)).set (4 * b + 2) (cs.getD 2 0)).set (4 * b + 3) (cs.getD 3 0)
theorem putL_len (zs : List Int) (b : Nat) (cs : List Int) : (putL zs b cs).length = zs.length := by simp [putL]
theorem four_of {cs : List Int} (h : cs.length = 4) : cs = [cs.getD 0 0, cs.getD 1 0, cs.getD 2 0, cs.getD 3 0] := by
  match cs, h with
  | [a, b, c, d], _ => rfl
theorem getD_set (zs : List Int) (i j : Nat) (v : Int) : (zs.set i v).getD j 0 = if i = j ∧ i < zs.length then v else zs.getD j 0 := by
  simp only [List.getD_eq_getElem?_getD, List.getElem?_set]
  by_cases h : i = j
  · subst h
    by_cases h2 : i < zs.length
    · simp [h2]
    · simp [h2]
  · simp [h]
theorem put_here {zs : List Int} {b : Nat} {cs : List Int} (hl : zs.length = 32) (hb : b < 8) (hc : cs.length = 4) : bandL (putL zs b cs) b = cs := by
  conv => rhs; rw [four_of hc]
  simp only [bandL, putL, getD_set, List.length_set, hl]
  simp only [List.cons.injEq, and_true]
  refine ⟨?_, ?_, ?_, ?_⟩ <;> ((repeat (rw [if_neg (by omega)])); exact if_pos ⟨trivial, by omega⟩)
theorem put_far {zs : List Int} {b i : Nat} {cs : List Int} (h : i ≠ b) : bandL (putL zs b cs) i = bandL zs i := by
  simp only [bandL, putL, getD_set]
  simp only [List.cons.injEq, and_true]
  refine ⟨?_, ?_, ?_, ?_⟩ <;> (repeat (rw [if_neg (by omega)]))
end Go.Proofs.Ytnmhbonheaoldaa
