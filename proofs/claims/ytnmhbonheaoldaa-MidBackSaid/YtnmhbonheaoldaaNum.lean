/- Plain laws on whole numbers: Go's rest, roots. No Go in it. -/
namespace Go.Proofs.Ytnmhbonheaoldaa

theorem tmod_bd (n : Int) {m : Int} (hm : 0 ≤ m) : -m ≤ n.tmod (m + 1) ∧ n.tmod (m + 1) ≤ m := by
  have h1 := Int.lt_tmod_of_pos n (b := m + 1) (by omega)
  have h2 := Int.tmod_lt_of_pos n (b := m + 1) (by omega)
  omega

theorem tmod_id {n m : Int} (h0 : -m ≤ n) (h1 : n ≤ m) : n.tmod (m + 1) = n := by
  rcases Int.le_total 0 n with h | h
  · exact Int.tmod_eq_of_lt h (by omega)
  · have h2 : (-n).tmod (m + 1) = -n := Int.tmod_eq_of_lt (by omega) (by omega)
    rw [Int.neg_tmod] at h2
    omega

end Go.Proofs.Ytnmhbonheaoldaa
