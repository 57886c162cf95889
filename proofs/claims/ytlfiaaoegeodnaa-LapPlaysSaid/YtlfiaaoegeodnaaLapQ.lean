/- Plain laws of layer 11: frames that lie one behind the other, samples in frames, seams, waves. No Go in it. -/
import Derived.Test.YtlfiaaoegeodnaaLapP
import Derived.Test.YtlfiaaoegeodnaaDctG
import Derived.Test.YtlfiaaoegeodnaaDctL
import Derived.Test.YtlfiaaoegeodnaaDctI
namespace Go.Proofs.Ytlfiaaoegeodnaa

/-- frames, one number behind the other -/
def flat (fs : List (List Int)) : List Int := (List.range (32 * fs.length)).map fun p => (fs.getD (p / 32) []).getD (p % 32) 0
def All32 (fs : List (List Int)) : Prop := ∀ i, i < fs.length → (fs.getD i []).length = 32
theorem flat_len (fs : List (List Int)) : (flat fs).length = 32 * fs.length := by simp [flat]
theorem flat_get {fs : List (List Int)} {p : Nat} (h : p < 32 * fs.length) : (flat fs).getD p 0 = (fs.getD (p / 32) []).getD (p % 32) 0 := by
  simp [flat, List.getD_eq_getElem?_getD, List.getElem?_map, List.getElem?_range h]
theorem flat_at {fs : List (List Int)} {i j : Nat} (hi : i < fs.length) (hj : j < 32) : (flat fs).getD (32 * i + j) 0 = (fs.getD i []).getD j 0 := by
  rw [flat_get (by omega), show (32 * i + j) / 32 = i by omega, show (32 * i + j) % 32 = j by omega]
theorem frames_getD_set (fs : List (List Int)) (i j : Nat) (f : List Int) : (fs.set i f).getD j [] = if i = j ∧ i < fs.length then f else fs.getD j [] := by
  simp only [List.getD_eq_getElem?_getD, List.getElem?_set]
  by_cases h : i = j
  · subst h
    by_cases h2 : i < fs.length
    · simp [h2]
    · simp [h2]
  · simp [h]
theorem all32_set {fs : List (List Int)} (h : All32 fs) (i : Nat) {f : List Int} (hf : f.length = 32) : All32 (fs.set i f) := by
  intro j hj
  rw [frames_getD_set]
  split
  · exact hf
  · exact h j (by simpa using hj)
theorem frames_ext {fs gs : List (List Int)} (hl : fs.length = gs.length) (h : ∀ i, i < fs.length → fs.getD i [] = gs.getD i []) : fs = gs := by
  apply List.ext_getElem hl
  intro i h1 h2
  have := h i h1
  simpa [List.getD_eq_getElem?_getD, List.getElem?_eq_getElem h1, List.getElem?_eq_getElem h2] using this

/-- how many frames so many samples have -/
def countN (n : Nat) : Nat := n / 32 + min (n % 32) 1 + 1
/-- samples in frames -/
def framesOf (l : List Int) : List (List Int) := (List.range (countN l.length)).map fun i => (List.range 32).map fun j => l.getD (32 * i + j) 0
theorem framesOf_len (l : List Int) : (framesOf l).length = countN l.length := by simp [framesOf]
theorem framesOf_get (l : List Int) {i : Nat} (h : i < countN l.length) : (framesOf l).getD i [] = (List.range 32).map fun j => l.getD (32 * i + j) 0 := by
  simp [framesOf, List.getD_eq_getElem?_getD, List.getElem?_map, List.getElem?_range h]
theorem framesOf_all (l : List Int) : All32 (framesOf l) := by
  intro i hi
  rw [framesOf_len] at hi
  rw [framesOf_get l hi]
  simp
theorem range32_get (f : Nat → Int) {j : Nat} (h : j < 32) : ((List.range 32).map f).getD j 0 = f j := by
  simp [List.getD_eq_getElem?_getD, List.getElem?_map, List.getElem?_range h]
/-- the zeros written over by samples are the samples' frames -/
theorem fill_frames (l : List Int) : overTo (fun i => l.getD i 0) (List.replicate (32 * countN l.length) 0) l.length = flat (framesOf l) := by
  refine list_getD_ext (by simp [overTo_len, flat_len, framesOf_len]) (fun p hp => ?_)
  have hp' : p < 32 * countN l.length := by simpa [overTo_len] using hp
  rw [overTo_get (by simpa using hp'), flat_get (by rw [framesOf_len]; exact hp'), framesOf_get l (by omega), range32_get _ (by omega), show 32 * (p / 32) + p % 32 = p by omega]
  split
  · rfl
  · next h =>
    rw [List.getD_eq_getElem?_getD, List.getD_eq_getElem?_getD, List.getElem?_eq_none (by omega : l.length ≤ p)]
    rw [Option.getD_none, List.getElem?_replicate]
    split <;> rfl

/-- the first k seams -/
def seamTo (A B : List Int → List Int → List Int) (fs : List (List Int)) : Nat → List (List Int)
  | 0 => fs
  | k + 1 => ((seamTo A B fs k).set k (A ((seamTo A B fs k).getD k []) ((seamTo A B fs k).getD (k + 1) []))).set (k + 1) (B ((seamTo A B fs k).getD k []) ((seamTo A B fs k).getD (k + 1) []))
theorem seamTo_len (A B : List Int → List Int → List Int) (fs : List (List Int)) : ∀ k, (seamTo A B fs k).length = fs.length
  | 0 => rfl
  | k + 1 => by simp [seamTo, seamTo_len A B fs k]
/-- the first k frames turned by F -/
def eachTo (F : List Int → List Int) (fs : List (List Int)) (k : Nat) : List (List Int) := (List.range fs.length).map fun i => if i < k then F (fs.getD i []) else fs.getD i []
theorem eachTo_len (F : List Int → List Int) (fs : List (List Int)) (k : Nat) : (eachTo F fs k).length = fs.length := by simp [eachTo]
theorem eachTo_get (F : List Int → List Int) {fs : List (List Int)} {k i : Nat} (h : i < fs.length) : (eachTo F fs k).getD i [] = if i < k then F (fs.getD i []) else fs.getD i [] := by
  simp [eachTo, List.getD_eq_getElem?_getD, List.getElem?_map, List.getElem?_range h]
theorem eachTo_zero (F : List Int → List Int) (fs : List (List Int)) : eachTo F fs 0 = fs := by
  refine frames_ext (eachTo_len _ _ _) (fun i hi => ?_)
  rw [eachTo_len] at hi
  rw [eachTo_get F hi, if_neg (by omega)]
theorem eachTo_succ (F : List Int → List Int) {fs : List (List Int)} {k : Nat} (hk : k < fs.length) : (eachTo F fs k).set k (F (fs.getD k [])) = eachTo F fs (k + 1) := by
  refine frames_ext (by simp [eachTo_len]) (fun i hi => ?_)
  have hi' : i < fs.length := by simpa [eachTo_len] using hi
  rw [frames_getD_set, eachTo_get F hi', eachTo_get F hi', eachTo_len]
  by_cases e : k = i
  · subst e
    rw [if_pos ⟨rfl, hk⟩, if_pos (by omega)]
  · rw [if_neg (by omega)]
    by_cases h : i < k
    · rw [if_pos h, if_pos (by omega)]
    · rw [if_neg h, if_neg (by omega)]
theorem eachTo_all (F : List Int → List Int) {fs : List (List Int)} {n : Nat} (h : fs.length = n) : eachTo F fs n = fs.map F := by
  refine frames_ext (by simp [eachTo_len]) (fun i hi => ?_)
  rw [eachTo_len] at hi
  rw [eachTo_get F hi, if_pos (by omega)]
  simp [List.getD_eq_getElem?_getD, List.getElem?_eq_getElem hi]

/-- the frames of samples, and the way back -/
def framesL (l : List Int) : List (List Int) := (seamTo seam1 seam2 (framesOf l) (countN l.length - 1)).map wavesL
def samplesL (fs : List (List Int)) : List Int := flat (seamTo unseam1 unseam2 (fs.map dbackL) (fs.length - 1))
/-- a frame more -/
theorem flat_take {fs : List (List Int)} {k : Nat} (hk : k < fs.length) (hl : (fs.getD k []).length = 32) : (flat fs).take (32 * (k + 1)) = (flat fs).take (32 * k) ++ fs.getD k [] := by
  have hfl := flat_len fs
  refine list_getD_ext (by rw [List.length_append, List.length_take, List.length_take, hl]; omega) (fun p hp => ?_)
  rw [List.length_take] at hp
  have h1 : ((flat fs).take (32 * (k + 1))).getD p 0 = (flat fs).getD p 0 := by
    rw [List.getD_eq_getElem?_getD, List.getElem?_take, if_pos (by omega), ← List.getD_eq_getElem?_getD]
  rw [h1]
  by_cases h : p < 32 * k
  · rw [List.getD_eq_getElem?_getD (l := _ ++ _), List.getElem?_append_left (by rw [List.length_take]; omega), List.getElem?_take, if_pos h, ← List.getD_eq_getElem?_getD]
  · rw [List.getD_eq_getElem?_getD (l := _ ++ _), List.getElem?_append_right (by rw [List.length_take]; omega), List.length_take, ← List.getD_eq_getElem?_getD]
    rw [flat_get (by omega), show p / 32 = k by omega, show p % 32 = p - min (32 * k) (flat fs).length by omega]

section
variable {A B : List Int → List Int → List Int} {fs : List (List Int)}
/-- what a seam is made of: A alters the second half, by the other's first one; B likewise -/
def HalfA (A : List Int → List Int → List Int) : Prop := (∀ a b, (A a b).length = a.length) ∧ ∀ a a' b b' : List Int, a.length = 32 → a'.length = 32 → b.length = 32 → b'.length = 32 → (∀ i, 16 ≤ i → i < 32 → a.getD i 0 = a'.getD i 0) → (∀ i, i < 16 → b.getD i 0 = b'.getD i 0) → (∀ i, 16 ≤ i → i < 32 → (A a b).getD i 0 = (A a' b').getD i 0) ∧ ∀ i, i < 16 → (A a b).getD i 0 = a.getD i 0
def HalfB (B : List Int → List Int → List Int) : Prop := (∀ a b, (B a b).length = b.length) ∧ ∀ a a' b b' : List Int, a.length = 32 → a'.length = 32 → b.length = 32 → b'.length = 32 → (∀ i, 16 ≤ i → i < 32 → a.getD i 0 = a'.getD i 0) → (∀ i, i < 16 → b.getD i 0 = b'.getD i 0) → (∀ i, i < 16 → (B a b).getD i 0 = (B a' b').getD i 0) ∧ ∀ i, 16 ≤ i → i < 32 → (B a b).getD i 0 = b.getD i 0
theorem seamA_half (F : Int → Int → Int → Int × Int) : HalfA (fun a b => seamA F a b 16) := by
  refine ⟨fun a b => seamA_len F a b 16, fun a a' b b' ha ha' hb hb' h1 h2 => ⟨fun i hi hi2 => ?_, fun i hi => ?_⟩⟩
  · rw [seamA_get (by omega), seamA_get (by omega), if_pos (by omega), if_pos (by omega), h1 i hi hi2, h2 (31 - i) (by omega)]
  · rw [seamA_get (by omega), if_neg (by omega)]
theorem seamB_half (F : Int → Int → Int → Int × Int) : HalfB (fun a b => seamB F a b 16) := by
  refine ⟨fun a b => seamB_len F a b 16, fun a a' b b' ha ha' hb hb' h1 h2 => ⟨fun i hi => ?_, fun i hi hi2 => ?_⟩⟩
  · rw [seamB_get (by omega), seamB_get (by omega), if_pos (by omega), if_pos (by omega), h2 i hi, h1 (31 - i) (by omega) (by omega)]
  · rw [seamB_get (by omega), if_neg (by omega)]

theorem HalfA1 : HalfA seam1 := seamA_half turnL
theorem HalfB1 : HalfB seam2 := seamB_half turnL
theorem HalfA2 : HalfA unseam1 := seamA_half backL
theorem HalfB2 : HalfB unseam2 := seamB_half backL
theorem seam1_len (a b : List Int) : (seam1 a b).length = a.length := seamA_len _ _ _ _
theorem seam2_len (a b : List Int) : (seam2 a b).length = b.length := seamB_len _ _ _ _
theorem unseam1_len (a b : List Int) : (unseam1 a b).length = a.length := seamA_len _ _ _ _
theorem unseam2_len (a b : List Int) : (unseam2 a b).length = b.length := seamB_len _ _ _ _

/-- frame i behind the first k seams -/
def seamed (A B : List Int → List Int → List Int) (fs : List (List Int)) (k i : Nat) : List Int :=
  (List.range 32).map fun j => if j < 16 then (if 0 < i ∧ i ≤ k then (B (fs.getD (i - 1) []) (fs.getD i [])).getD j 0 else (fs.getD i []).getD j 0)
    else (if i < k then (A (fs.getD i []) (fs.getD (i + 1) [])).getD j 0 else (fs.getD i []).getD j 0)
theorem seamed_len (k i : Nat) : (seamed A B fs k i).length = 32 := by simp [seamed]
theorem seamed_get (k i : Nat) {j : Nat} (h : j < 32) : (seamed A B fs k i).getD j 0 = if j < 16 then (if 0 < i ∧ i ≤ k then (B (fs.getD (i - 1) []) (fs.getD i [])).getD j 0 else (fs.getD i []).getD j 0)
    else (if i < k then (A (fs.getD i []) (fs.getD (i + 1) [])).getD j 0 else (fs.getD i []).getD j 0) := range32_get _ h
theorem seamTo_get (hA : HalfA A) (hB : HalfB B) (h32 : All32 fs) : ∀ k, k + 1 ≤ fs.length → ∀ i, i < fs.length → (seamTo A B fs k).getD i [] = seamed A B fs k i
  | 0, _, i, hi => by
    refine list_getD_ext (by rw [seamed_len]; exact h32 i hi) (fun j hj => ?_)
    have hj' : j < 32 := by have : (seamTo A B fs 0).getD i [] = fs.getD i [] := rfl
                            rw [this, h32 i hi] at hj; exact hj
    rw [seamed_get 0 i hj']
    simp only [seamTo]
    split
    · rw [if_neg (by omega)]
    · rw [if_neg (by omega)]
  | k + 1, hk, i, hi => by
    have ih := seamTo_get hA hB h32 k (by omega)
    have hlk := ih k (by omega)
    have hlk1 := ih (k + 1) (by omega)
    have hk0 := h32 k (by omega)
    have hk1 := h32 (k + 1) (by omega)
    have sl0 : (seamed A B fs k k).length = 32 := seamed_len k k
    have sl1 : (seamed A B fs k (k + 1)).length = 32 := seamed_len k (k + 1)
    have e1 : ∀ j, 16 ≤ j → j < 32 → (seamed A B fs k k).getD j 0 = (fs.getD k []).getD j 0 := fun j h1 h2 => by
      rw [seamed_get k k h2, if_neg (by omega), if_neg (by omega)]
    have e2 : ∀ j, j < 16 → (seamed A B fs k (k + 1)).getD j 0 = (fs.getD (k + 1) []).getD j 0 := fun j h1 => by
      rw [seamed_get k (k + 1) (by omega), if_pos h1, if_neg (by omega)]
    have e3 : ∀ j, 16 ≤ j → j < 32 → (seamed A B fs k (k + 1)).getD j 0 = (fs.getD (k + 1) []).getD j 0 := fun j h1 h2 => by
      rw [seamed_get k (k + 1) h2, if_neg (by omega), if_neg (by omega)]
    have ga := hA.2 _ _ _ _ sl0 hk0 sl1 hk1 e1 e2
    have gb := hB.2 _ _ _ _ sl0 hk0 sl1 hk1 e1 e2
    simp only [seamTo, frames_getD_set, List.length_set, seamTo_len, hlk, hlk1]
    by_cases c1 : k + 1 = i
    · subst c1
      rw [if_pos ⟨rfl, by omega⟩]
      refine list_getD_ext (by rw [hB.1, seamed_len, seamed_len]) (fun j hj => ?_)
      have hj' : j < 32 := by rw [hB.1, sl1] at hj; exact hj
      rw [seamed_get (k + 1) (k + 1) hj']
      by_cases h : j < 16
      · rw [if_pos h, if_pos (by omega), gb.1 j h, show k + 1 - 1 = k by omega]
      · rw [if_neg h, if_neg (by omega), gb.2 j (by omega) hj', e3 j (by omega) hj']
    · rw [if_neg (by omega)]
      by_cases c2 : k = i
      · subst c2
        rw [if_pos ⟨rfl, by omega⟩]
        refine list_getD_ext (by rw [hA.1, seamed_len, seamed_len]) (fun j hj => ?_)
        have hj' : j < 32 := by rw [hA.1, sl0] at hj; exact hj
        rw [seamed_get (k + 1) k hj']
        by_cases h : j < 16
        · rw [if_pos h, ga.2 j h, seamed_get k k hj', if_pos h]
          by_cases c : 0 < k
          · rw [if_pos (by omega), if_pos (by omega)]
          · rw [if_neg (by omega), if_neg (by omega)]
        · rw [if_neg h, if_pos (by omega), ga.1 j (by omega) hj']
      · rw [if_neg (by omega), ih i hi]
        refine list_getD_ext (by rw [seamed_len, seamed_len]) (fun j hj => ?_)
        have hj' : j < 32 := by rw [seamed_len] at hj; exact hj
        rw [seamed_get k i hj', seamed_get (k + 1) i hj']
        by_cases h : j < 16
        · rw [if_pos h, if_pos h]
          by_cases c : 0 < i ∧ i ≤ k
          · rw [if_pos c, if_pos (by omega)]
          · rw [if_neg c, if_neg (by omega)]
        · rw [if_neg h, if_neg h]
          by_cases c : i < k
          · rw [if_pos c, if_pos (by omega)]
          · rw [if_neg c, if_neg (by omega)]
end
end Go.Proofs.Ytlfiaaoegeodnaa
