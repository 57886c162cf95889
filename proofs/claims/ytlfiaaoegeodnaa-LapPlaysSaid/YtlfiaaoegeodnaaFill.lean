/- Lists that are written from their beginning on, place by place. No Go in it. -/
namespace Go.Proofs.Ytlfiaaoegeodnaa

/-- the first k places written over by g -/
def overTo (g : Nat → Int) (zs : List Int) (k : Nat) : List Int := (List.range zs.length).map fun i => if i < k then g i else zs.getD i 0
theorem overTo_len (g : Nat → Int) (zs : List Int) (k : Nat) : (overTo g zs k).length = zs.length := by simp [overTo]
theorem overTo_get {g : Nat → Int} {zs : List Int} {k i : Nat} (hi : i < zs.length) : (overTo g zs k).getD i 0 = if i < k then g i else zs.getD i 0 := by
  simp [overTo, List.getD_eq_getElem?_getD, List.getElem?_map, List.getElem?_range hi]
theorem list_getD_ext {xs ys : List Int} (h : xs.length = ys.length) (hi : ∀ i, i < xs.length → xs.getD i 0 = ys.getD i 0) : xs = ys := by
  apply List.ext_getElem h
  intro i h1 h2
  have := hi i h1
  simpa [List.getD_eq_getElem?_getD, List.getElem?_eq_getElem h1, List.getElem?_eq_getElem h2] using this
theorem overTo_zero (g : Nat → Int) (zs : List Int) : overTo g zs 0 = zs := by
  refine list_getD_ext (overTo_len _ _ _) (fun i hi => ?_)
  rw [overTo_get (by simpa [overTo_len] using hi)]
  simp
theorem set_getD (zs : List Int) (i j : Nat) (v : Int) : (zs.set i v).getD j 0 = if i = j ∧ i < zs.length then v else zs.getD j 0 := by
  simp only [List.getD_eq_getElem?_getD, List.getElem?_set]
  by_cases h : i = j
  · subst h
    by_cases h2 : i < zs.length
    · simp [h2]
    · simp [h2]
  · simp [h]
theorem overTo_succ {g : Nat → Int} {zs : List Int} {k : Nat} {v : Int} (hv : v = g k) (hk : k < zs.length) : (overTo g zs k).set k v = overTo g zs (k + 1) := by
  subst hv
  refine list_getD_ext (by simp [overTo_len]) (fun i hi => ?_)
  have hi' : i < zs.length := by simpa [overTo_len] using hi
  rw [set_getD, overTo_get hi', overTo_get hi', overTo_len]
  by_cases e : k = i
  · subst e
    rw [if_pos ⟨rfl, hk⟩, if_pos (by omega)]
  · rw [if_neg (by omega)]
    by_cases h : i < k
    · rw [if_pos h, if_pos (by omega)]
    · rw [if_neg h, if_neg (by omega)]
theorem overTo_all {g : Nat → Int} {zs : List Int} {n : Nat} (h : zs.length = n) : overTo g zs n = (List.range n).map g := by
  unfold overTo
  rw [h]
  exact List.map_congr_left fun i hi => if_pos (List.mem_range.1 hi)
theorem range_map_get {f : Int → Int} {zs : List Int} {n : Nat} (h : zs.length = n) : ((List.range n).map fun i => f (zs.getD i 0)) = zs.map f := by
  subst h
  apply List.ext_getElem (by simp)
  intro i h1 h2
  have : i < zs.length := by simpa using h2
  simp [List.getD_eq_getElem?_getD, List.getElem?_eq_getElem this]
end Go.Proofs.Ytlfiaaoegeodnaa
