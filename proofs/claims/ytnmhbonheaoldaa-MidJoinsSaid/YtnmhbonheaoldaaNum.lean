/- Plain laws on whole numbers: Go's rest, roots. No Go in it. -/
namespace Go.Proofs.Ytnmhbonheaoldaa

theorem tmod_bd (n : Int) {m : Int} (hm : 0 ≤ m) : -m ≤ n.tmod (m + 1) ∧ n.tmod (m + 1) ≤ m := by
  have h1 := Int.lt_tmod_of_pos n (b := m + 1) (by omega)
  have h2 := Int.tmod_lt_of_pos n (b := m + 1) (by omega)
  omega

theorem tmod_id {n m : Int} (h0 : -m ≤ n) (h1 : n ≤ m) : n.tmod (m + 1) = n := by
  rcases Int.le_total 0 n with h | h
  · exact Int.tmod_eq_of_lt h (by omega)
  · have h2 : (-n).tmod (m + 1) = -n := Int.tmod_eq_of_lt (by omega) (by omega)
    rw [Int.neg_tmod] at h2
    omega

/-- r is the whole part of n's square root. -/
def IsRoot (n r : Int) : Prop := 0 ≤ r ∧ r * r ≤ n ∧ n < (r + 1) * (r + 1)

theorem isRoot_le {n r s : Int} (hr : IsRoot n r) (hs : IsRoot n s) : r ≤ s := by
  obtain ⟨a0, a1, a2⟩ := hr
  obtain ⟨b0, b1, b2⟩ := hs
  rcases Int.lt_or_le s r with h | h
  · have : (s + 1) * (s + 1) ≤ r * r := Int.mul_le_mul (by omega) (by omega) (by omega) (by omega)
    omega
  · exact h

theorem isRoot_unique {n r s : Int} (hr : IsRoot n r) (hs : IsRoot n s) : r = s :=
  Int.le_antisymm (isRoot_le hr hs) (isRoot_le hs hr)

end Go.Proofs.Ytnmhbonheaoldaa
