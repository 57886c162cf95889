/- Plain laws of layer 11: seams. No Go in it. -/
import Derived.Test.YtlfiaaoegeodnaaLiftPlain
import Derived.Test.YtlfiaaoegeodnaaFill
namespace Go.Proofs.Ytlfiaaoegeodnaa

/-- the seam of two frames: the first k pairs of numbers are turned -/
def seamA (F : Int → Int → Int → Int × Int) (a b : List Int) (k : Nat) : List Int := (List.range a.length).map fun i => if 32 ≤ i + k ∧ i < 32 then (F (a.getD i 0) (b.getD (31 - i) 0) (62 - 4 * ((31 - i : Nat) : Int))).1 else a.getD i 0
def seamB (F : Int → Int → Int → Int × Int) (a b : List Int) (k : Nat) : List Int := (List.range b.length).map fun i => if i < k then (F (a.getD (31 - i) 0) (b.getD i 0) (62 - 4 * (i : Int))).2 else b.getD i 0
theorem seamA_len (F : Int → Int → Int → Int × Int) (a b : List Int) (k : Nat) : (seamA F a b k).length = a.length := by simp [seamA]
theorem seamB_len (F : Int → Int → Int → Int × Int) (a b : List Int) (k : Nat) : (seamB F a b k).length = b.length := by simp [seamB]
section
variable {F G : Int → Int → Int → Int × Int} {a b : List Int} {k i : Nat}
theorem seamA_get (hi : i < a.length) : (seamA F a b k).getD i 0 = if 32 ≤ i + k ∧ i < 32 then (F (a.getD i 0) (b.getD (31 - i) 0) (62 - 4 * ((31 - i : Nat) : Int))).1 else a.getD i 0 := by
  simp [seamA, List.getD_eq_getElem?_getD, List.getElem?_map, List.getElem?_range hi]
theorem seamB_get (hi : i < b.length) : (seamB F a b k).getD i 0 = if i < k then (F (a.getD (31 - i) 0) (b.getD i 0) (62 - 4 * (i : Int))).2 else b.getD i 0 := by
  simp [seamB, List.getD_eq_getElem?_getD, List.getElem?_map, List.getElem?_range hi]
theorem seamA_zero (ha : a.length = 32) : seamA F a b 0 = a := by
  refine list_getD_ext (seamA_len _ _ _ _) (fun i hi => ?_)
  rw [seamA_len] at hi
  rw [seamA_get hi, if_neg (by omega)]
theorem seamB_zero : seamB F a b 0 = b := by
  refine list_getD_ext (seamB_len _ _ _ _) (fun i hi => ?_)
  rw [seamB_len] at hi
  rw [seamB_get hi, if_neg (by omega)]
theorem seamA_succ (ha : a.length = 32) (hk : k < 16) : (seamA F a b k).set (31 - k) (F (a.getD (31 - k) 0) (b.getD k 0) (62 - 4 * (k : Int))).1 = seamA F a b (k + 1) := by
  refine list_getD_ext (by simp [seamA_len]) (fun i hi => ?_)
  have hi' : i < a.length := by simpa [seamA_len] using hi
  rw [set_getD, seamA_get hi', seamA_get hi', seamA_len]
  by_cases e : 31 - k = i
  · subst e
    rw [if_pos ⟨rfl, by omega⟩, if_pos (by omega), show 31 - (31 - k) = k by omega]
  · rw [if_neg (by omega)]
    by_cases h : 32 ≤ i + k ∧ i < 32
    · rw [if_pos h, if_pos (by omega)]
    · rw [if_neg h, if_neg (by omega)]
theorem seamB_succ (hb : b.length = 32) (hk : k < 16) : (seamB F a b k).set k (F (a.getD (31 - k) 0) (b.getD k 0) (62 - 4 * (k : Int))).2 = seamB F a b (k + 1) := by
  refine list_getD_ext (by simp [seamB_len]) (fun i hi => ?_)
  have hi' : i < b.length := by simpa [seamB_len] using hi
  rw [set_getD, seamB_get hi', seamB_get hi', seamB_len]
  by_cases e : k = i
  · subst e
    rw [if_pos ⟨rfl, by omega⟩, if_pos (by omega)]
  · rw [if_neg (by omega)]
    by_cases h : i < k
    · rw [if_pos h, if_pos (by omega)]
    · rw [if_neg h, if_neg (by omega)]
theorem seam_here (ha : a.length = 32) (hb : b.length = 32) (_hk : k < 16) : (seamA F a b k).getD (31 - k) 0 = a.getD (31 - k) 0 ∧ (seamB F a b k).getD k 0 = b.getD k 0 := by
  rw [seamA_get (by omega), seamB_get (by omega), if_neg (by omega), if_neg (by omega)]
  exact ⟨rfl, rfl⟩
/-- a seam undone -/
theorem seam_undo (ha : a.length = 32) (hb : b.length = 32) (h : ∀ x y k, G (F x y k).1 (F x y k).2 k = (x, y)) :
    seamA G (seamA F a b 16) (seamB F a b 16) 16 = a ∧ seamB G (seamA F a b 16) (seamB F a b 16) 16 = b := by
  constructor
  · refine list_getD_ext (by simp [seamA_len]) (fun i hi => ?_)
    have hi' : i < 32 := by simpa [seamA_len, ha] using hi
    rw [seamA_get (by rw [seamA_len]; omega)]
    by_cases e : 32 ≤ i + 16 ∧ i < 32
    · rw [if_pos e, seamA_get (by omega), if_pos e, seamB_get (by omega), if_pos (by omega), show 31 - (31 - i) = i by omega, h]
    · rw [if_neg e, seamA_get (by omega), if_neg e]
  · refine list_getD_ext (by simp [seamB_len]) (fun i hi => ?_)
    have hi' : i < 32 := by simpa [seamB_len, hb] using hi
    rw [seamB_get (by rw [seamB_len]; omega)]
    by_cases e : i < 16
    · rw [if_pos e, seamB_get (by omega), if_pos e, seamA_get (by omega), if_pos (by omega), show 31 - (31 - i) = i by omega, h]
    · rw [if_neg e, seamB_get (by omega), if_neg e]
theorem seamA_in {c : Int} (hc : 0 ≤ c) (ha : AllIn c a) (hb : AllIn c b) (h : ∀ x y k, -c ≤ x → x ≤ c → -c ≤ y → y ≤ c → -(c + c / 2 + 2) ≤ (F x y k).1 ∧ (F x y k).1 ≤ c + c / 2 + 2) (k : Nat) : AllIn (c + c / 2 + 2) (seamA F a b k) := by
  intro z hz
  simp only [seamA, List.mem_map, List.mem_range] at hz
  obtain ⟨i, _, rfl⟩ := hz
  have h1 := allIn_get ha i
  have h2 := allIn_get hb (31 - i)
  split
  · exact h _ _ _ h1.1 h1.2 h2.1 h2.2
  · omega
theorem seamB_in {c : Int} (hc : 0 ≤ c) (ha : AllIn c a) (hb : AllIn c b) (h : ∀ x y k, -c ≤ x → x ≤ c → -c ≤ y → y ≤ c → -(c + c / 2 + 2) ≤ (F x y k).2 ∧ (F x y k).2 ≤ c + c / 2 + 2) (k : Nat) : AllIn (c + c / 2 + 2) (seamB F a b k) := by
  intro z hz
  simp only [seamB, List.mem_map, List.mem_range] at hz
  obtain ⟨i, _, rfl⟩ := hz
  have h1 := allIn_get ha (31 - i)
  have h2 := allIn_get hb i
  split
  · exact h _ _ _ h1.1 h1.2 h2.1 h2.2
  · omega
end
def seam1 (a b : List Int) : List Int := seamA turnL a b 16
def seam2 (a b : List Int) : List Int := seamB turnL a b 16
def unseam1 (a b : List Int) : List Int := seamA backL a b 16
def unseam2 (a b : List Int) : List Int := seamB backL a b 16
theorem unseam_seam {a b : List Int} (ha : a.length = 32) (hb : b.length = 32) : unseam1 (seam1 a b) (seam2 a b) = a ∧ unseam2 (seam1 a b) (seam2 a b) = b := seam_undo ha hb back_turn
theorem seam_unseam {a b : List Int} (ha : a.length = 32) (hb : b.length = 32) : seam1 (unseam1 a b) (unseam2 a b) = a ∧ seam2 (unseam1 a b) (unseam2 a b) = b := seam_undo ha hb turn_back
end Go.Proofs.Ytlfiaaoegeodnaa
