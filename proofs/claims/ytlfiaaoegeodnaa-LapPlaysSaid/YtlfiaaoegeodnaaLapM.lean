/- Frames in one block: a frame read, a frame written. -/
import Derived.Test.YtlfiaaoegeodnaaLapQ
import Derived.Test.YtlfiaaoegeodnaaEqI
namespace Go.Proofs.Ytlfiaaoegeodnaa
open Go.RowKit

theorem frame_range {w : World} {g : Nat} {t : TypeId} {fs : List (List Int)} {i o : Nat} (h : Blk w g t (ints (flat fs))) (hi : i < fs.length) (hl : (fs.getD i []).length = 32) (ho : o = i * 32) : w.rangeAt g o ((fs.getD i []).map (Value.int .i64)) := fun j v hv => by
  subst ho
  have hj : j < 32 := by
    have := (List.getElem?_eq_some_iff.1 hv).1
    rw [List.length_map, hl] at this
    exact this
  rw [blk_int h (by rw [flat_len]; omega), show i * 32 + j = 32 * i + j by omega, flat_at hi hj]
  rw [List.getElem?_map, List.getElem?_eq_getElem (by omega)] at hv
  simp only [Option.map_some, Option.some.injEq] at hv
  rw [← hv, List.getD_eq_getElem?_getD, List.getElem?_eq_getElem (by omega), Option.getD_some]

theorem ints_at (zs : List Int) {i : Nat} (h : i < zs.length) : (ints zs)[i]? = some (.int .i64 (zs.getD i 0)) := by
  rw [ints_get, List.getElem?_eq_getElem h]
  simp [List.getD, List.getElem?_eq_getElem h]

theorem frame_there {w : World} {g : Nat} {t : TypeId} {fs : List (List Int)} {i o : Nat} (h : Blk w g t (ints (flat fs))) (hi : i < fs.length) (ho : o = i * 32) : w.there g o 32 := fun j hj => by
  subst ho
  exact ⟨by rw [blk_int h (by rw [flat_len]; omega)]; rfl, blk_free h _⟩

theorem frame_store {w : World} {g : Nat} {t : TypeId} {fs : List (List Int)} {i o : Nat} {f : List Int} (h : Blk w g t (ints (flat fs))) (hi : i < fs.length) (hf : f.length = 32) (ho : o = i * 32) :
    Blk (w.setCells g o (f.map (Value.int .i64))) g t (ints (flat (fs.set i f))) ∧ w.grownBy (w.setCells g o (f.map (Value.int .i64))) (some g) := by
  subst ho
  obtain ⟨cs', k1, k2, k3, k4, k5, k6⟩ := setCells_blk (f.map (Value.int .i64)) (i * 32) w h (by rw [ints_size, flat_len, List.length_map, hf]; omega)
  rw [List.length_map, hf] at k5 k6
  rw [ints_size, flat_len] at k3
  have e : cs' = ints (flat (fs.set i f)) := by
    apply Array.ext_getElem?
    intro p
    rcases Nat.lt_or_ge p (32 * fs.length) with hp | hp
    · rw [ints_at _ (by rw [flat_len, List.length_set]; exact hp), flat_get (by rw [List.length_set]; exact hp), frames_getD_set]
      by_cases h1 : p < i * 32
      · rw [k4 p h1, ints_at _ (by rw [flat_len]; exact hp), flat_get hp, if_neg (by omega)]
      · by_cases h2 : p < i * 32 + 32
        · have := k5 (p - i * 32) (by omega)
          rw [show i * 32 + (p - i * 32) = p by omega] at this
          rw [this, if_pos (by omega), List.getElem?_map, List.getElem?_eq_getElem (by omega : p - i * 32 < f.length), show p % 32 = p - i * 32 by omega]
          simp [List.getD_eq_getElem?_getD, List.getElem?_eq_getElem (by omega : p - i * 32 < f.length)]
        · rw [k6 p (by omega), ints_at _ (by rw [flat_len]; exact hp), flat_get hp, if_neg (by omega)]
    · rw [Array.getElem?_eq_none (by omega), Array.getElem?_eq_none (by rw [ints_size, flat_len, List.length_set]; exact hp)]
  rw [e] at k1
  exact ⟨k1, k2⟩

theorem zeros_get (n i : Nat) : (List.replicate n (0 : Int)).getD i 0 = 0 := by
  rw [List.getD_eq_getElem?_getD, List.getElem?_replicate]
  split <;> rfl
/-- what make lays for m frames -/
theorem made_frames (m : Nat) : madeCells (ints (List.replicate 32 0)) (m * 32) = ints (List.replicate (32 * m) 0) := by
  apply Array.ext_getElem?
  intro p
  rcases Nat.lt_or_ge p (32 * m) with hp | hp
  · have hp2 : p % 32 < 32 := by omega
    rw [ints_at _ (by simpa using hp)]
    simp only [madeCells, Array.getElem?_map, ints_size, List.length_replicate]
    rw [Array.getElem?_range, if_pos (by omega)]
    simp only [Option.map_some, Option.some.injEq]
    have h0 := ints_at (List.replicate 32 0) (i := p % 32) (by simpa using hp2)
    rw [getElem!_pos _ _ (by rw [ints_size, List.length_replicate]; exact hp2)]
    rw [Array.getElem?_eq_getElem (by rw [ints_size, List.length_replicate]; exact hp2), Option.some.injEq] at h0
    rw [h0, zeros_get, zeros_get]
  · rw [Array.getElem?_eq_none (by rw [size_madeCells]; omega), Array.getElem?_eq_none (by rw [ints_size, List.length_replicate]; exact hp)]
end Go.Proofs.Ytlfiaaoegeodnaa
