/- Plain laws of the reference's frames: seams from the back, number by number. No Go in it. -/
import Derived.Test.YtlfiaaoegeodnaaLapG
namespace Go.Proofs.Ytlfiaaoegeodnaa

section
variable {fs : List (List Int)} {s i p m : Nat}
theorem seamed_left (h32 : All32 fs) (h1 : 1 ≤ s) (h2 : s < fs.length) (hi : i < 16) :
    (flat (seamTo seam1 seam2 fs (fs.length - 1))).getD (32 * s - 1 - i) 0 = (turnL ((flat fs).getD (32 * s - 1 - i) 0) ((flat fs).getD (32 * s + i) 0) (62 - 4 * (i : Int))).1 := by
  have la := h32 (s - 1) (by omega)
  rw [flat_get (by rw [seamTo_len]; omega), flat_get (by omega), flat_get (by omega), show (32 * s - 1 - i) / 32 = s - 1 by omega, show (32 * s - 1 - i) % 32 = 31 - i by omega, show (32 * s + i) / 32 = s by omega, show (32 * s + i) % 32 = i by omega,
    seams_is HalfA1 HalfB1 h32 (by omega) (by omega), seamed_get _ _ (by omega), if_neg (by omega), if_pos (by omega), seam1, seamA_get (by omega), if_pos (by omega), show s - 1 + 1 = s by omega, show 31 - (31 - i) = i by omega]
theorem seamed_right (h32 : All32 fs) (h1 : 1 ≤ s) (h2 : s < fs.length) (hi : i < 16) :
    (flat (seamTo seam1 seam2 fs (fs.length - 1))).getD (32 * s + i) 0 = (turnL ((flat fs).getD (32 * s - 1 - i) 0) ((flat fs).getD (32 * s + i) 0) (62 - 4 * (i : Int))).2 := by
  have lb := h32 s h2
  rw [flat_get (by rw [seamTo_len]; omega), flat_get (by omega), flat_get (by omega), show (32 * s - 1 - i) / 32 = s - 1 by omega, show (32 * s - 1 - i) % 32 = 31 - i by omega, show (32 * s + i) / 32 = s by omega, show (32 * s + i) % 32 = i by omega,
    seams_is HalfA1 HalfB1 h32 (by omega) (by omega), seamed_get _ _ (by omega), if_pos hi, if_pos (by omega), seam2, seamB_get (by omega), if_pos (by omega)]
theorem seamed_edge (h32 : All32 fs) (hp : p < 32 * fs.length) (he : p < 16 ∨ 32 * fs.length ≤ p + 16) :
    (flat (seamTo seam1 seam2 fs (fs.length - 1))).getD p 0 = (flat fs).getD p 0 := by
  rw [flat_get (by rw [seamTo_len]; omega), flat_get (by omega), seams_is HalfA1 HalfB1 h32 (by omega) (by omega), seamed_get _ _ (by omega)]
  by_cases h : p % 32 < 16
  · rw [if_pos h, if_neg (by omega)]
  · rw [if_neg h, if_neg (by omega)]
end

/-- which seam a place lies at, and how far from it -/
def smx (p : Nat) : Nat := if p % 32 < 16 then p / 32 else p / 32 + 1
def ixm (p : Nat) : Nat := if p % 32 < 16 then p % 32 else 31 - p % 32
def Touched (n s m p : Nat) : Prop := smx p ≠ 0 ∧ smx p < n ∧ (s < smx p ∨ smx p = s ∧ ixm p < m)
instance (n s m p : Nat) : Decidable (Touched n s m p) := by unfold Touched; infer_instance
/-- the seams behind seam s are done, and m steps of it -/
def mixL (n : Nat) (X Y : List Int) (s m : Nat) : List Int := (List.range (32 * n)).map fun p => if Touched n s m p then Y.getD p 0 else X.getD p 0
section
variable {n s m p : Nat} {X Y : List Int}
theorem mixL_len (n : Nat) (X Y : List Int) (s m : Nat) : (mixL n X Y s m).length = 32 * n := by simp [mixL]
theorem mixL_get (hp : p < 32 * n) : (mixL n X Y s m).getD p 0 = if Touched n s m p then Y.getD p 0 else X.getD p 0 := by
  simp [mixL, List.getD_eq_getElem?_getD, List.getElem?_map, List.getElem?_range hp]
theorem mix_left (h1 : 1 ≤ s) (h2 : s < n) (hm : m < 16) : (mixL n X Y s m).getD (32 * s - 1 - m) 0 = X.getD (32 * s - 1 - m) 0 := by
  rw [mixL_get (by omega), if_neg]
  unfold Touched smx ixm
  rw [if_neg (by omega), if_neg (by omega)]
  omega
theorem mix_right (h1 : 1 ≤ s) (h2 : s < n) (hm : m < 16) : (mixL n X Y s m).getD (32 * s + m) 0 = X.getD (32 * s + m) 0 := by
  rw [mixL_get (by omega), if_neg]
  unfold Touched smx ixm
  rw [if_pos (by omega), if_pos (by omega)]
  omega
theorem mix_step (h1 : 1 ≤ s) (h2 : s < n) (hm : m < 16) : ((mixL n X Y s m).set (32 * s - 1 - m) (Y.getD (32 * s - 1 - m) 0)).set (32 * s + m) (Y.getD (32 * s + m) 0) = mixL n X Y s (m + 1) := by
  refine list_getD_ext (by simp [mixL_len]) (fun p hp => ?_)
  have hp' : p < 32 * n := by simpa [mixL_len] using hp
  by_cases e1 : 32 * s + m = p
  · subst e1
    rw [getD_set_eq (by rw [List.length_set, mixL_len]; exact hp'), mixL_get hp', if_pos]
    unfold Touched smx ixm
    rw [if_pos (by omega), if_pos (by omega)]
    omega
  · rw [getD_set_ne e1]
    by_cases e2 : 32 * s - 1 - m = p
    · subst e2
      rw [getD_set_eq (by rw [mixL_len]; exact hp'), mixL_get hp', if_pos]
      unfold Touched smx ixm
      rw [if_neg (by omega), if_neg (by omega)]
      omega
    · rw [getD_set_ne e2, mixL_get hp', mixL_get hp']
      have : Touched n s m p ↔ Touched n s (m + 1) p := by
        unfold Touched smx ixm
        split <;> omega
      by_cases h : Touched n s m p
      · rw [if_pos h, if_pos (this.1 h)]
      · rw [if_neg h, if_neg (fun h' => h (this.2 h'))]
theorem mix_next (h1 : 1 ≤ s) : mixL n X Y s 16 = mixL n X Y (s - 1) 0 := by
  refine list_getD_ext (by simp [mixL_len]) (fun p hp => ?_)
  have hp' : p < 32 * n := by simpa [mixL_len] using hp
  rw [mixL_get hp', mixL_get hp']
  have : Touched n s 16 p ↔ Touched n (s - 1) 0 p := by
    unfold Touched smx ixm
    split <;> omega
  by_cases h : Touched n s 16 p
  · rw [if_pos h, if_pos (this.1 h)]
  · rw [if_neg h, if_neg (fun h' => h (this.2 h'))]
theorem mix_start (hX : X.length = 32 * n) : mixL n X Y (n - 1) 0 = X := by
  refine list_getD_ext (by rw [mixL_len, hX]) (fun p hp => ?_)
  have hp' : p < 32 * n := by simpa [mixL_len] using hp
  rw [mixL_get hp', if_neg]
  unfold Touched smx ixm
  split <;> omega
end
theorem mix_end {fs : List (List Int)} (h32 : All32 fs) : mixL fs.length (flat fs) (flat (seamTo seam1 seam2 fs (fs.length - 1))) 0 0 = flat (seamTo seam1 seam2 fs (fs.length - 1)) := by
  refine list_getD_ext (by rw [mixL_len, flat_len, seamTo_len]) (fun p hp => ?_)
  have hp' : p < 32 * fs.length := by simpa [mixL_len] using hp
  rw [mixL_get hp']
  by_cases h : Touched fs.length 0 0 p
  · rw [if_pos h]
  · rw [if_neg h, seamed_edge h32 hp']
    unfold Touched smx ixm at h
    split at h <;> omega
end Go.Proofs.Ytlfiaaoegeodnaa
