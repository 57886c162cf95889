/- The contract of band.Put. -/
import Derived.Test.YtnmhbonheaoldaaBandC
namespace Go.Proofs.Ytnmhbonheaoldaa
open Go.RowKit

theorem putL_set {zs : List Int} {b : Nat} {cs : List Int} {j : Nat} (hl : zs.length = 32) (hb : b < 8) : (putL zs b cs).getD j 0 = if 4 * b ≤ j ∧ j < 4 * b + 4 then cs.getD (j - 4 * b) 0 else zs.getD j 0 := by
  simp only [putL, getD_set, List.length_set, hl]
  by_cases h : 4 * b ≤ j ∧ j < 4 * b + 4
  · rw [if_pos h]
    have : j - 4 * b = 0 ∨ j - 4 * b = 1 ∨ j - 4 * b = 2 ∨ j - 4 * b = 3 := by omega
    rcases this with e | e | e | e <;> rw [e] <;> ((repeat (rw [if_neg (by omega)])); rw [if_pos (by omega)])
  · rw [if_neg h]
    (repeat (rw [if_neg (by omega)]))

theorem ints_getD (zs : List Int) {i : Nat} (h : i < zs.length) : (ints zs)[i]? = some (.int .i64 (zs.getD i 0)) := by
  rw [ints_get, List.getElem?_eq_getElem h]
  simp [List.getD, List.getElem?_eq_getElem h]

/-- a band of a known block, written at once -/
theorem put_block {w : World} {g : Nat} {t : TypeId} {zs cs : List Int} {b : Nat} (h : Blk w g t (ints zs)) (hl : zs.length = 32) (hc : cs.length = 4) (hb : b < 8) :
    Blk (w.setCells g (4 * b) (cs.map (Value.int .i64))) g t (ints (putL zs b cs)) ∧ w.grownBy (w.setCells g (4 * b) (cs.map (Value.int .i64))) (some g) := by
  obtain ⟨cs', k1, k2, k3, k4, k5, k6⟩ := setCells_blk (cs.map (Value.int .i64)) (4 * b) w h (by rw [ints_size, hl, List.length_map, hc]; omega)
  rw [List.length_map, hc] at k5 k6
  rw [ints_size, hl] at k3
  have e : cs' = ints (putL zs b cs) := by
    apply Array.ext_getElem?
    intro i
    rcases Nat.lt_or_ge i 32 with hi | hi
    · rw [ints_getD _ (by rw [putL_len]; omega), putL_set hl hb]
      by_cases h1 : i < 4 * b
      · rw [k4 i h1, ints_getD _ (by omega), if_neg (by omega)]
      · by_cases h2 : i < 4 * b + 4
        · have := k5 (i - 4 * b) (by omega)
          rw [show 4 * b + (i - 4 * b) = i by omega] at this
          rw [this, if_pos (by omega), List.getElem?_map, List.getElem?_eq_getElem (by omega : i - 4 * b < cs.length)]
          simp [List.getD_eq_getElem?_getD, List.getElem?_eq_getElem (by omega : i - 4 * b < cs.length)]
        · rw [k6 i (by omega), ints_getD _ (by omega), if_neg (by omega)]
    · rw [Array.getElem?_eq_none (by omega), Array.getElem?_eq_none (by rw [ints_size, putL_len]; omega)]
  rw [e] at k1
  exact ⟨k1, k2⟩

/-- what copy does with a band's coefficients -/
theorem run_copy_band {P : Program} {T E : TypeId} (hu : P.underlying T = some (.slice E)) (hs : (P.info? E).map (·.size) = some 1) (w : World) (g g' : Nat) (t t' : TypeId) (zs cs : List Int) (ty : TypeId) (o dLen dCap : Nat) (b : Nat) (ho : o = 4 * b)
    (hl : zs.length = 32) (hc : cs.length = 4) (hb : b < 8) (hd : 4 ≤ dLen) (h : Blk w g t (ints zs)) (h' : Blk w g' t' (ints cs)) :
    (Builtin.copy_ #[T, T] ty #[.slice (some ⟨g, o, none⟩) dLen dCap, .slice (some ⟨g', 0, none⟩) 4 4]).run P w = .ok (goInt 4) (w.setCells g (4 * b) (cs.map (Value.int .i64))) := by
  subst ho
  have := run_copy_cells (P := P) w T T ty E g (4 * b) dLen dCap ⟨g', 0, none⟩ 4 4 (cs.map (Value.int .i64)) hu hs (by rw [List.length_map, hc]; show 4 = min 4 dLen; omega)
    (fun j v hv => by
      rw [Addr.add_mid, Nat.zero_add, blk_cell h', ints_get, ← List.getElem?_map]
      exact hv)
    (fun j hj => by
      rw [List.length_map, hc] at hj
      rw [blk_int h (by omega)]; rfl)
    (fun j _ => blk_free h _) (fun v hv => by obtain ⟨z, _, rfl⟩ := List.mem_map.1 hv; rfl)
  rw [List.length_map, hc] at this
  exact this

set_option maxHeartbeats 2000000 in
theorem put_calls (zs cs : List Int) (b : Nat) (w : World) (hl : zs.length = 32) (hc : cs.length = 4) (hb : b < 8) :
    Calls Try.prog 24 #[.agg (ints zs), .int .i64 b, .agg (ints cs)] w fun e w' => e = .returned (.agg (ints (putL zs b cs))) ∧ Below w.heap.size w w' := by
  have b0 := blk_alloc (blk_alloc (blk_new w 32 (ints zs)) (.cells (ints cs) 28)) (.cells #[Value.int .i64 0, Value.int .i64 0, Value.int .i64 0, Value.int .i64 0, Value.int .i64 0, Value.int .i64 0, Value.int .i64 0, Value.int .i64 0, Value.int .i64 0, Value.int .i64 0, Value.int .i64 0, Value.int .i64 0, Value.int .i64 0, Value.int .i64 0, Value.int .i64 0, Value.int .i64 0, Value.int .i64 0, Value.int .i64 0, Value.int .i64 0, Value.int .i64 0, Value.int .i64 0, Value.int .i64 0, Value.int .i64 0, Value.int .i64 0, Value.int .i64 0, Value.int .i64 0, Value.int .i64 0, Value.int .i64 0, Value.int .i64 0, Value.int .i64 0, Value.int .i64 0, Value.int .i64 0] 32)
  have b1 := blk_alloc (blk_new (w.alloc (.cells (ints zs) 32)) 28 (ints cs)) (.cells #[Value.int .i64 0, Value.int .i64 0, Value.int .i64 0, Value.int .i64 0, Value.int .i64 0, Value.int .i64 0, Value.int .i64 0, Value.int .i64 0, Value.int .i64 0, Value.int .i64 0, Value.int .i64 0, Value.int .i64 0, Value.int .i64 0, Value.int .i64 0, Value.int .i64 0, Value.int .i64 0, Value.int .i64 0, Value.int .i64 0, Value.int .i64 0, Value.int .i64 0, Value.int .i64 0, Value.int .i64 0, Value.int .i64 0, Value.int .i64 0, Value.int .i64 0, Value.int .i64 0, Value.int .i64 0, Value.int .i64 0, Value.int .i64 0, Value.int .i64 0, Value.int .i64 0, Value.int .i64 0] 32)
  have b2 := blk_new ((w.alloc (.cells (ints zs) 32)).alloc (.cells (ints cs) 28)) 32 #[Value.int .i64 0, Value.int .i64 0, Value.int .i64 0, Value.int .i64 0, Value.int .i64 0, Value.int .i64 0, Value.int .i64 0, Value.int .i64 0, Value.int .i64 0, Value.int .i64 0, Value.int .i64 0, Value.int .i64 0, Value.int .i64 0, Value.int .i64 0, Value.int .i64 0, Value.int .i64 0, Value.int .i64 0, Value.int .i64 0, Value.int .i64 0, Value.int .i64 0, Value.int .i64 0, Value.int .i64 0, Value.int .i64 0, Value.int .i64 0, Value.int .i64 0, Value.int .i64 0, Value.int .i64 0, Value.int .i64 0, Value.int .i64 0, Value.int .i64 0, Value.int .i64 0, Value.int .i64 0]
  rw [show (w.alloc (.cells (ints zs) 32)).heap.size = w.heap.size + 1 by simp] at b1
  rw [show ((w.alloc (.cells (ints zs) 32)).alloc (.cells (ints cs) 28)).heap.size = w.heap.size + 2 by simp] at b2
  have hA : Below w.heap.size w (((w.alloc (.cells (ints zs) 32)).alloc (.cells (ints cs) 28)).alloc (.cells #[Value.int .i64 0, Value.int .i64 0, Value.int .i64 0, Value.int .i64 0, Value.int .i64 0, Value.int .i64 0, Value.int .i64 0, Value.int .i64 0, Value.int .i64 0, Value.int .i64 0, Value.int .i64 0, Value.int .i64 0, Value.int .i64 0, Value.int .i64 0, Value.int .i64 0, Value.int .i64 0, Value.int .i64 0, Value.int .i64 0, Value.int .i64 0, Value.int .i64 0, Value.int .i64 0, Value.int .i64 0, Value.int .i64 0, Value.int .i64 0, Value.int .i64 0, Value.int .i64 0, Value.int .i64 0, Value.int .i64 0, Value.int .i64 0, Value.int .i64 0, Value.int .i64 0, Value.int .i64 0] 32)) := (((Below.refl _ w).alloc (Nat.le_refl _) _).alloc (by simp) _).alloc (by simp; omega) _
  have hbb : b = 0 ∨ b = 1 ∨ b = 2 ∨ b = 3 ∨ b = 4 ∨ b = 5 ∨ b = 6 ∨ b = 7 := by omega
  rcases hbb with rfl | rfl | rfl | rfl | rfl | rfl | rfl | rfl
  · have hcp := run_copy_band (P := Try.prog) (T := 55) (E := 3) Try.underlying55 (by kernel_rfl) (((w.alloc (.cells (ints zs) 32)).alloc (.cells (ints cs) 28)).alloc (.cells #[Value.int .i64 0, Value.int .i64 0, Value.int .i64 0, Value.int .i64 0, Value.int .i64 0, Value.int .i64 0, Value.int .i64 0, Value.int .i64 0, Value.int .i64 0, Value.int .i64 0, Value.int .i64 0, Value.int .i64 0, Value.int .i64 0, Value.int .i64 0, Value.int .i64 0, Value.int .i64 0, Value.int .i64 0, Value.int .i64 0, Value.int .i64 0, Value.int .i64 0, Value.int .i64 0, Value.int .i64 0, Value.int .i64 0, Value.int .i64 0, Value.int .i64 0, Value.int .i64 0, Value.int .i64 0, Value.int .i64 0, Value.int .i64 0, Value.int .i64 0, Value.int .i64 0, Value.int .i64 0] 32)).drew w.heap.size (w.heap.size + 1) 32 28 zs cs 3 0 32 32 0 rfl hl hc (by omega) (by omega) (blk_drew b0) (blk_drew b1)
    have hp := put_block (b := 0) (blk_drew b0) hl hc (by omega)
    generalize (((w.alloc (.cells (ints zs) 32)).alloc (.cells (ints cs) 28)).alloc (.cells #[Value.int .i64 0, Value.int .i64 0, Value.int .i64 0, Value.int .i64 0, Value.int .i64 0, Value.int .i64 0, Value.int .i64 0, Value.int .i64 0, Value.int .i64 0, Value.int .i64 0, Value.int .i64 0, Value.int .i64 0, Value.int .i64 0, Value.int .i64 0, Value.int .i64 0, Value.int .i64 0, Value.int .i64 0, Value.int .i64 0, Value.int .i64 0, Value.int .i64 0, Value.int .i64 0, Value.int .i64 0, Value.int .i64 0, Value.int .i64 0, Value.int .i64 0, Value.int .i64 0, Value.int .i64 0, Value.int .i64 0, Value.int .i64 0, Value.int .i64 0, Value.int .i64 0, Value.int .i64 0] 32)).drew.setCells w.heap.size (4 * 0) (cs.map (Value.int .i64)) = w1 at *
    have b2' := blk_grown (blk_drew b2) hp.2 (by simp)
    have hB := below_grown hA.drew hp.2 (by simp; omega) (Nat.le_refl _)
    have hsz := hB.size
    have hp1 := hp.1
    clear b0 b1 b2 hA hp
    go_enter Try.func24, Try.ntmps24
    go_wp2_with (first | (go_at_call 50; refine (bandMay_calls _ _).mono ?_; rintro e w' ⟨rfl, rfl⟩))
    go_region
    clear hcp
    go_wp2_with (first | (refine wpList_load_row rfl 32 _ rfl w.heap.size rfl 32 (ints (putL zs 0 cs)) (0, 0) _ hp1 Try.underlying32 rfl (by rw [ints_size, putL_len, hl]; kernel_rfl) ?_) | (refine wpList_store_blk rfl 32 _ _ rfl (w.heap.size + 2) 32 _ (ints (putL zs 0 cs)) rfl rfl b2' (by rw [ints_size, putL_len, hl]; rfl) (by rw [ints_size, putL_len, hl]; kernel_rfl) (ints_one _) ?_; intro w2 n0 hg))
    exact bodyPost_ret (results_cell_row rfl _ _ (w.heap.size + 2) 32 (ints (putL zs 0 cs)) (0, 0) _ rfl n0 Try.underlying32 rfl (by rw [ints_size, putL_len, hl]; kernel_rfl)) rfl ⟨rfl, below_grown hB hg hsz (by omega)⟩
  · have hcp := run_copy_band (P := Try.prog) (T := 55) (E := 3) Try.underlying55 (by kernel_rfl) (((w.alloc (.cells (ints zs) 32)).alloc (.cells (ints cs) 28)).alloc (.cells #[Value.int .i64 0, Value.int .i64 0, Value.int .i64 0, Value.int .i64 0, Value.int .i64 0, Value.int .i64 0, Value.int .i64 0, Value.int .i64 0, Value.int .i64 0, Value.int .i64 0, Value.int .i64 0, Value.int .i64 0, Value.int .i64 0, Value.int .i64 0, Value.int .i64 0, Value.int .i64 0, Value.int .i64 0, Value.int .i64 0, Value.int .i64 0, Value.int .i64 0, Value.int .i64 0, Value.int .i64 0, Value.int .i64 0, Value.int .i64 0, Value.int .i64 0, Value.int .i64 0, Value.int .i64 0, Value.int .i64 0, Value.int .i64 0, Value.int .i64 0, Value.int .i64 0, Value.int .i64 0] 32)).drew w.heap.size (w.heap.size + 1) 32 28 zs cs 3 4 28 28 1 rfl hl hc (by omega) (by omega) (blk_drew b0) (blk_drew b1)
    have hp := put_block (b := 1) (blk_drew b0) hl hc (by omega)
    generalize (((w.alloc (.cells (ints zs) 32)).alloc (.cells (ints cs) 28)).alloc (.cells #[Value.int .i64 0, Value.int .i64 0, Value.int .i64 0, Value.int .i64 0, Value.int .i64 0, Value.int .i64 0, Value.int .i64 0, Value.int .i64 0, Value.int .i64 0, Value.int .i64 0, Value.int .i64 0, Value.int .i64 0, Value.int .i64 0, Value.int .i64 0, Value.int .i64 0, Value.int .i64 0, Value.int .i64 0, Value.int .i64 0, Value.int .i64 0, Value.int .i64 0, Value.int .i64 0, Value.int .i64 0, Value.int .i64 0, Value.int .i64 0, Value.int .i64 0, Value.int .i64 0, Value.int .i64 0, Value.int .i64 0, Value.int .i64 0, Value.int .i64 0, Value.int .i64 0, Value.int .i64 0] 32)).drew.setCells w.heap.size (4 * 1) (cs.map (Value.int .i64)) = w1 at *
    have b2' := blk_grown (blk_drew b2) hp.2 (by simp)
    have hB := below_grown hA.drew hp.2 (by simp; omega) (Nat.le_refl _)
    have hsz := hB.size
    have hp1 := hp.1
    clear b0 b1 b2 hA hp
    go_enter Try.func24, Try.ntmps24
    go_wp2_with (first | (go_at_call 50; refine (bandMay_calls _ _).mono ?_; rintro e w' ⟨rfl, rfl⟩))
    go_region
    clear hcp
    go_wp2_with (first | (refine wpList_load_row rfl 32 _ rfl w.heap.size rfl 32 (ints (putL zs 1 cs)) (0, 0) _ hp1 Try.underlying32 rfl (by rw [ints_size, putL_len, hl]; kernel_rfl) ?_) | (refine wpList_store_blk rfl 32 _ _ rfl (w.heap.size + 2) 32 _ (ints (putL zs 1 cs)) rfl rfl b2' (by rw [ints_size, putL_len, hl]; rfl) (by rw [ints_size, putL_len, hl]; kernel_rfl) (ints_one _) ?_; intro w2 n0 hg))
    exact bodyPost_ret (results_cell_row rfl _ _ (w.heap.size + 2) 32 (ints (putL zs 1 cs)) (0, 0) _ rfl n0 Try.underlying32 rfl (by rw [ints_size, putL_len, hl]; kernel_rfl)) rfl ⟨rfl, below_grown hB hg hsz (by omega)⟩
  · have hcp := run_copy_band (P := Try.prog) (T := 55) (E := 3) Try.underlying55 (by kernel_rfl) (((w.alloc (.cells (ints zs) 32)).alloc (.cells (ints cs) 28)).alloc (.cells #[Value.int .i64 0, Value.int .i64 0, Value.int .i64 0, Value.int .i64 0, Value.int .i64 0, Value.int .i64 0, Value.int .i64 0, Value.int .i64 0, Value.int .i64 0, Value.int .i64 0, Value.int .i64 0, Value.int .i64 0, Value.int .i64 0, Value.int .i64 0, Value.int .i64 0, Value.int .i64 0, Value.int .i64 0, Value.int .i64 0, Value.int .i64 0, Value.int .i64 0, Value.int .i64 0, Value.int .i64 0, Value.int .i64 0, Value.int .i64 0, Value.int .i64 0, Value.int .i64 0, Value.int .i64 0, Value.int .i64 0, Value.int .i64 0, Value.int .i64 0, Value.int .i64 0, Value.int .i64 0] 32)).drew w.heap.size (w.heap.size + 1) 32 28 zs cs 3 8 24 24 2 rfl hl hc (by omega) (by omega) (blk_drew b0) (blk_drew b1)
    have hp := put_block (b := 2) (blk_drew b0) hl hc (by omega)
    generalize (((w.alloc (.cells (ints zs) 32)).alloc (.cells (ints cs) 28)).alloc (.cells #[Value.int .i64 0, Value.int .i64 0, Value.int .i64 0, Value.int .i64 0, Value.int .i64 0, Value.int .i64 0, Value.int .i64 0, Value.int .i64 0, Value.int .i64 0, Value.int .i64 0, Value.int .i64 0, Value.int .i64 0, Value.int .i64 0, Value.int .i64 0, Value.int .i64 0, Value.int .i64 0, Value.int .i64 0, Value.int .i64 0, Value.int .i64 0, Value.int .i64 0, Value.int .i64 0, Value.int .i64 0, Value.int .i64 0, Value.int .i64 0, Value.int .i64 0, Value.int .i64 0, Value.int .i64 0, Value.int .i64 0, Value.int .i64 0, Value.int .i64 0, Value.int .i64 0, Value.int .i64 0] 32)).drew.setCells w.heap.size (4 * 2) (cs.map (Value.int .i64)) = w1 at *
    have b2' := blk_grown (blk_drew b2) hp.2 (by simp)
    have hB := below_grown hA.drew hp.2 (by simp; omega) (Nat.le_refl _)
    have hsz := hB.size
    have hp1 := hp.1
    clear b0 b1 b2 hA hp
    go_enter Try.func24, Try.ntmps24
    go_wp2_with (first | (go_at_call 50; refine (bandMay_calls _ _).mono ?_; rintro e w' ⟨rfl, rfl⟩))
    go_region
    clear hcp
    go_wp2_with (first | (refine wpList_load_row rfl 32 _ rfl w.heap.size rfl 32 (ints (putL zs 2 cs)) (0, 0) _ hp1 Try.underlying32 rfl (by rw [ints_size, putL_len, hl]; kernel_rfl) ?_) | (refine wpList_store_blk rfl 32 _ _ rfl (w.heap.size + 2) 32 _ (ints (putL zs 2 cs)) rfl rfl b2' (by rw [ints_size, putL_len, hl]; rfl) (by rw [ints_size, putL_len, hl]; kernel_rfl) (ints_one _) ?_; intro w2 n0 hg))
    exact bodyPost_ret (results_cell_row rfl _ _ (w.heap.size + 2) 32 (ints (putL zs 2 cs)) (0, 0) _ rfl n0 Try.underlying32 rfl (by rw [ints_size, putL_len, hl]; kernel_rfl)) rfl ⟨rfl, below_grown hB hg hsz (by omega)⟩
  · have hcp := run_copy_band (P := Try.prog) (T := 55) (E := 3) Try.underlying55 (by kernel_rfl) (((w.alloc (.cells (ints zs) 32)).alloc (.cells (ints cs) 28)).alloc (.cells #[Value.int .i64 0, Value.int .i64 0, Value.int .i64 0, Value.int .i64 0, Value.int .i64 0, Value.int .i64 0, Value.int .i64 0, Value.int .i64 0, Value.int .i64 0, Value.int .i64 0, Value.int .i64 0, Value.int .i64 0, Value.int .i64 0, Value.int .i64 0, Value.int .i64 0, Value.int .i64 0, Value.int .i64 0, Value.int .i64 0, Value.int .i64 0, Value.int .i64 0, Value.int .i64 0, Value.int .i64 0, Value.int .i64 0, Value.int .i64 0, Value.int .i64 0, Value.int .i64 0, Value.int .i64 0, Value.int .i64 0, Value.int .i64 0, Value.int .i64 0, Value.int .i64 0, Value.int .i64 0] 32)).drew w.heap.size (w.heap.size + 1) 32 28 zs cs 3 12 20 20 3 rfl hl hc (by omega) (by omega) (blk_drew b0) (blk_drew b1)
    have hp := put_block (b := 3) (blk_drew b0) hl hc (by omega)
    generalize (((w.alloc (.cells (ints zs) 32)).alloc (.cells (ints cs) 28)).alloc (.cells #[Value.int .i64 0, Value.int .i64 0, Value.int .i64 0, Value.int .i64 0, Value.int .i64 0, Value.int .i64 0, Value.int .i64 0, Value.int .i64 0, Value.int .i64 0, Value.int .i64 0, Value.int .i64 0, Value.int .i64 0, Value.int .i64 0, Value.int .i64 0, Value.int .i64 0, Value.int .i64 0, Value.int .i64 0, Value.int .i64 0, Value.int .i64 0, Value.int .i64 0, Value.int .i64 0, Value.int .i64 0, Value.int .i64 0, Value.int .i64 0, Value.int .i64 0, Value.int .i64 0, Value.int .i64 0, Value.int .i64 0, Value.int .i64 0, Value.int .i64 0, Value.int .i64 0, Value.int .i64 0] 32)).drew.setCells w.heap.size (4 * 3) (cs.map (Value.int .i64)) = w1 at *
    have b2' := blk_grown (blk_drew b2) hp.2 (by simp)
    have hB := below_grown hA.drew hp.2 (by simp; omega) (Nat.le_refl _)
    have hsz := hB.size
    have hp1 := hp.1
    clear b0 b1 b2 hA hp
    go_enter Try.func24, Try.ntmps24
    go_wp2_with (first | (go_at_call 50; refine (bandMay_calls _ _).mono ?_; rintro e w' ⟨rfl, rfl⟩))
    go_region
    clear hcp
    go_wp2_with (first | (refine wpList_load_row rfl 32 _ rfl w.heap.size rfl 32 (ints (putL zs 3 cs)) (0, 0) _ hp1 Try.underlying32 rfl (by rw [ints_size, putL_len, hl]; kernel_rfl) ?_) | (refine wpList_store_blk rfl 32 _ _ rfl (w.heap.size + 2) 32 _ (ints (putL zs 3 cs)) rfl rfl b2' (by rw [ints_size, putL_len, hl]; rfl) (by rw [ints_size, putL_len, hl]; kernel_rfl) (ints_one _) ?_; intro w2 n0 hg))
    exact bodyPost_ret (results_cell_row rfl _ _ (w.heap.size + 2) 32 (ints (putL zs 3 cs)) (0, 0) _ rfl n0 Try.underlying32 rfl (by rw [ints_size, putL_len, hl]; kernel_rfl)) rfl ⟨rfl, below_grown hB hg hsz (by omega)⟩
  · have hcp := run_copy_band (P := Try.prog) (T := 55) (E := 3) Try.underlying55 (by kernel_rfl) (((w.alloc (.cells (ints zs) 32)).alloc (.cells (ints cs) 28)).alloc (.cells #[Value.int .i64 0, Value.int .i64 0, Value.int .i64 0, Value.int .i64 0, Value.int .i64 0, Value.int .i64 0, Value.int .i64 0, Value.int .i64 0, Value.int .i64 0, Value.int .i64 0, Value.int .i64 0, Value.int .i64 0, Value.int .i64 0, Value.int .i64 0, Value.int .i64 0, Value.int .i64 0, Value.int .i64 0, Value.int .i64 0, Value.int .i64 0, Value.int .i64 0, Value.int .i64 0, Value.int .i64 0, Value.int .i64 0, Value.int .i64 0, Value.int .i64 0, Value.int .i64 0, Value.int .i64 0, Value.int .i64 0, Value.int .i64 0, Value.int .i64 0, Value.int .i64 0, Value.int .i64 0] 32)).drew w.heap.size (w.heap.size + 1) 32 28 zs cs 3 16 16 16 4 rfl hl hc (by omega) (by omega) (blk_drew b0) (blk_drew b1)
    have hp := put_block (b := 4) (blk_drew b0) hl hc (by omega)
    generalize (((w.alloc (.cells (ints zs) 32)).alloc (.cells (ints cs) 28)).alloc (.cells #[Value.int .i64 0, Value.int .i64 0, Value.int .i64 0, Value.int .i64 0, Value.int .i64 0, Value.int .i64 0, Value.int .i64 0, Value.int .i64 0, Value.int .i64 0, Value.int .i64 0, Value.int .i64 0, Value.int .i64 0, Value.int .i64 0, Value.int .i64 0, Value.int .i64 0, Value.int .i64 0, Value.int .i64 0, Value.int .i64 0, Value.int .i64 0, Value.int .i64 0, Value.int .i64 0, Value.int .i64 0, Value.int .i64 0, Value.int .i64 0, Value.int .i64 0, Value.int .i64 0, Value.int .i64 0, Value.int .i64 0, Value.int .i64 0, Value.int .i64 0, Value.int .i64 0, Value.int .i64 0] 32)).drew.setCells w.heap.size (4 * 4) (cs.map (Value.int .i64)) = w1 at *
    have b2' := blk_grown (blk_drew b2) hp.2 (by simp)
    have hB := below_grown hA.drew hp.2 (by simp; omega) (Nat.le_refl _)
    have hsz := hB.size
    have hp1 := hp.1
    clear b0 b1 b2 hA hp
    go_enter Try.func24, Try.ntmps24
    go_wp2_with (first | (go_at_call 50; refine (bandMay_calls _ _).mono ?_; rintro e w' ⟨rfl, rfl⟩))
    go_region
    clear hcp
    go_wp2_with (first | (refine wpList_load_row rfl 32 _ rfl w.heap.size rfl 32 (ints (putL zs 4 cs)) (0, 0) _ hp1 Try.underlying32 rfl (by rw [ints_size, putL_len, hl]; kernel_rfl) ?_) | (refine wpList_store_blk rfl 32 _ _ rfl (w.heap.size + 2) 32 _ (ints (putL zs 4 cs)) rfl rfl b2' (by rw [ints_size, putL_len, hl]; rfl) (by rw [ints_size, putL_len, hl]; kernel_rfl) (ints_one _) ?_; intro w2 n0 hg))
    exact bodyPost_ret (results_cell_row rfl _ _ (w.heap.size + 2) 32 (ints (putL zs 4 cs)) (0, 0) _ rfl n0 Try.underlying32 rfl (by rw [ints_size, putL_len, hl]; kernel_rfl)) rfl ⟨rfl, below_grown hB hg hsz (by omega)⟩
  · have hcp := run_copy_band (P := Try.prog) (T := 55) (E := 3) Try.underlying55 (by kernel_rfl) (((w.alloc (.cells (ints zs) 32)).alloc (.cells (ints cs) 28)).alloc (.cells #[Value.int .i64 0, Value.int .i64 0, Value.int .i64 0, Value.int .i64 0, Value.int .i64 0, Value.int .i64 0, Value.int .i64 0, Value.int .i64 0, Value.int .i64 0, Value.int .i64 0, Value.int .i64 0, Value.int .i64 0, Value.int .i64 0, Value.int .i64 0, Value.int .i64 0, Value.int .i64 0, Value.int .i64 0, Value.int .i64 0, Value.int .i64 0, Value.int .i64 0, Value.int .i64 0, Value.int .i64 0, Value.int .i64 0, Value.int .i64 0, Value.int .i64 0, Value.int .i64 0, Value.int .i64 0, Value.int .i64 0, Value.int .i64 0, Value.int .i64 0, Value.int .i64 0, Value.int .i64 0] 32)).drew w.heap.size (w.heap.size + 1) 32 28 zs cs 3 20 12 12 5 rfl hl hc (by omega) (by omega) (blk_drew b0) (blk_drew b1)
    have hp := put_block (b := 5) (blk_drew b0) hl hc (by omega)
    generalize (((w.alloc (.cells (ints zs) 32)).alloc (.cells (ints cs) 28)).alloc (.cells #[Value.int .i64 0, Value.int .i64 0, Value.int .i64 0, Value.int .i64 0, Value.int .i64 0, Value.int .i64 0, Value.int .i64 0, Value.int .i64 0, Value.int .i64 0, Value.int .i64 0, Value.int .i64 0, Value.int .i64 0, Value.int .i64 0, Value.int .i64 0, Value.int .i64 0, Value.int .i64 0, Value.int .i64 0, Value.int .i64 0, Value.int .i64 0, Value.int .i64 0, Value.int .i64 0, Value.int .i64 0, Value.int .i64 0, Value.int .i64 0, Value.int .i64 0, Value.int .i64 0, Value.int .i64 0, Value.int .i64 0, Value.int .i64 0, Value.int .i64 0, Value.int .i64 0, Value.int .i64 0] 32)).drew.setCells w.heap.size (4 * 5) (cs.map (Value.int .i64)) = w1 at *
    have b2' := blk_grown (blk_drew b2) hp.2 (by simp)
    have hB := below_grown hA.drew hp.2 (by simp; omega) (Nat.le_refl _)
    have hsz := hB.size
    have hp1 := hp.1
    clear b0 b1 b2 hA hp
    go_enter Try.func24, Try.ntmps24
    go_wp2_with (first | (go_at_call 50; refine (bandMay_calls _ _).mono ?_; rintro e w' ⟨rfl, rfl⟩))
    go_region
    clear hcp
    go_wp2_with (first | (refine wpList_load_row rfl 32 _ rfl w.heap.size rfl 32 (ints (putL zs 5 cs)) (0, 0) _ hp1 Try.underlying32 rfl (by rw [ints_size, putL_len, hl]; kernel_rfl) ?_) | (refine wpList_store_blk rfl 32 _ _ rfl (w.heap.size + 2) 32 _ (ints (putL zs 5 cs)) rfl rfl b2' (by rw [ints_size, putL_len, hl]; rfl) (by rw [ints_size, putL_len, hl]; kernel_rfl) (ints_one _) ?_; intro w2 n0 hg))
    exact bodyPost_ret (results_cell_row rfl _ _ (w.heap.size + 2) 32 (ints (putL zs 5 cs)) (0, 0) _ rfl n0 Try.underlying32 rfl (by rw [ints_size, putL_len, hl]; kernel_rfl)) rfl ⟨rfl, below_grown hB hg hsz (by omega)⟩
  · have hcp := run_copy_band (P := Try.prog) (T := 55) (E := 3) Try.underlying55 (by kernel_rfl) (((w.alloc (.cells (ints zs) 32)).alloc (.cells (ints cs) 28)).alloc (.cells #[Value.int .i64 0, Value.int .i64 0, Value.int .i64 0, Value.int .i64 0, Value.int .i64 0, Value.int .i64 0, Value.int .i64 0, Value.int .i64 0, Value.int .i64 0, Value.int .i64 0, Value.int .i64 0, Value.int .i64 0, Value.int .i64 0, Value.int .i64 0, Value.int .i64 0, Value.int .i64 0, Value.int .i64 0, Value.int .i64 0, Value.int .i64 0, Value.int .i64 0, Value.int .i64 0, Value.int .i64 0, Value.int .i64 0, Value.int .i64 0, Value.int .i64 0, Value.int .i64 0, Value.int .i64 0, Value.int .i64 0, Value.int .i64 0, Value.int .i64 0, Value.int .i64 0, Value.int .i64 0] 32)).drew w.heap.size (w.heap.size + 1) 32 28 zs cs 3 24 8 8 6 rfl hl hc (by omega) (by omega) (blk_drew b0) (blk_drew b1)
    have hp := put_block (b := 6) (blk_drew b0) hl hc (by omega)
    generalize (((w.alloc (.cells (ints zs) 32)).alloc (.cells (ints cs) 28)).alloc (.cells #[Value.int .i64 0, Value.int .i64 0, Value.int .i64 0, Value.int .i64 0, Value.int .i64 0, Value.int .i64 0, Value.int .i64 0, Value.int .i64 0, Value.int .i64 0, Value.int .i64 0, Value.int .i64 0, Value.int .i64 0, Value.int .i64 0, Value.int .i64 0, Value.int .i64 0, Value.int .i64 0, Value.int .i64 0, Value.int .i64 0, Value.int .i64 0, Value.int .i64 0, Value.int .i64 0, Value.int .i64 0, Value.int .i64 0, Value.int .i64 0, Value.int .i64 0, Value.int .i64 0, Value.int .i64 0, Value.int .i64 0, Value.int .i64 0, Value.int .i64 0, Value.int .i64 0, Value.int .i64 0] 32)).drew.setCells w.heap.size (4 * 6) (cs.map (Value.int .i64)) = w1 at *
    have b2' := blk_grown (blk_drew b2) hp.2 (by simp)
    have hB := below_grown hA.drew hp.2 (by simp; omega) (Nat.le_refl _)
    have hsz := hB.size
    have hp1 := hp.1
    clear b0 b1 b2 hA hp
    go_enter Try.func24, Try.ntmps24
    go_wp2_with (first | (go_at_call 50; refine (bandMay_calls _ _).mono ?_; rintro e w' ⟨rfl, rfl⟩))
    go_region
    clear hcp
    go_wp2_with (first | (refine wpList_load_row rfl 32 _ rfl w.heap.size rfl 32 (ints (putL zs 6 cs)) (0, 0) _ hp1 Try.underlying32 rfl (by rw [ints_size, putL_len, hl]; kernel_rfl) ?_) | (refine wpList_store_blk rfl 32 _ _ rfl (w.heap.size + 2) 32 _ (ints (putL zs 6 cs)) rfl rfl b2' (by rw [ints_size, putL_len, hl]; rfl) (by rw [ints_size, putL_len, hl]; kernel_rfl) (ints_one _) ?_; intro w2 n0 hg))
    exact bodyPost_ret (results_cell_row rfl _ _ (w.heap.size + 2) 32 (ints (putL zs 6 cs)) (0, 0) _ rfl n0 Try.underlying32 rfl (by rw [ints_size, putL_len, hl]; kernel_rfl)) rfl ⟨rfl, below_grown hB hg hsz (by omega)⟩
  · have hcp := run_copy_band (P := Try.prog) (T := 55) (E := 3) Try.underlying55 (by kernel_rfl) (((w.alloc (.cells (ints zs) 32)).alloc (.cells (ints cs) 28)).alloc (.cells #[Value.int .i64 0, Value.int .i64 0, Value.int .i64 0, Value.int .i64 0, Value.int .i64 0, Value.int .i64 0, Value.int .i64 0, Value.int .i64 0, Value.int .i64 0, Value.int .i64 0, Value.int .i64 0, Value.int .i64 0, Value.int .i64 0, Value.int .i64 0, Value.int .i64 0, Value.int .i64 0, Value.int .i64 0, Value.int .i64 0, Value.int .i64 0, Value.int .i64 0, Value.int .i64 0, Value.int .i64 0, Value.int .i64 0, Value.int .i64 0, Value.int .i64 0, Value.int .i64 0, Value.int .i64 0, Value.int .i64 0, Value.int .i64 0, Value.int .i64 0, Value.int .i64 0, Value.int .i64 0] 32)).drew w.heap.size (w.heap.size + 1) 32 28 zs cs 3 28 4 4 7 rfl hl hc (by omega) (by omega) (blk_drew b0) (blk_drew b1)
    have hp := put_block (b := 7) (blk_drew b0) hl hc (by omega)
    generalize (((w.alloc (.cells (ints zs) 32)).alloc (.cells (ints cs) 28)).alloc (.cells #[Value.int .i64 0, Value.int .i64 0, Value.int .i64 0, Value.int .i64 0, Value.int .i64 0, Value.int .i64 0, Value.int .i64 0, Value.int .i64 0, Value.int .i64 0, Value.int .i64 0, Value.int .i64 0, Value.int .i64 0, Value.int .i64 0, Value.int .i64 0, Value.int .i64 0, Value.int .i64 0, Value.int .i64 0, Value.int .i64 0, Value.int .i64 0, Value.int .i64 0, Value.int .i64 0, Value.int .i64 0, Value.int .i64 0, Value.int .i64 0, Value.int .i64 0, Value.int .i64 0, Value.int .i64 0, Value.int .i64 0, Value.int .i64 0, Value.int .i64 0, Value.int .i64 0, Value.int .i64 0] 32)).drew.setCells w.heap.size (4 * 7) (cs.map (Value.int .i64)) = w1 at *
    have b2' := blk_grown (blk_drew b2) hp.2 (by simp)
    have hB := below_grown hA.drew hp.2 (by simp; omega) (Nat.le_refl _)
    have hsz := hB.size
    have hp1 := hp.1
    clear b0 b1 b2 hA hp
    go_enter Try.func24, Try.ntmps24
    go_wp2_with (first | (go_at_call 50; refine (bandMay_calls _ _).mono ?_; rintro e w' ⟨rfl, rfl⟩))
    go_region
    clear hcp
    go_wp2_with (first | (refine wpList_load_row rfl 32 _ rfl w.heap.size rfl 32 (ints (putL zs 7 cs)) (0, 0) _ hp1 Try.underlying32 rfl (by rw [ints_size, putL_len, hl]; kernel_rfl) ?_) | (refine wpList_store_blk rfl 32 _ _ rfl (w.heap.size + 2) 32 _ (ints (putL zs 7 cs)) rfl rfl b2' (by rw [ints_size, putL_len, hl]; rfl) (by rw [ints_size, putL_len, hl]; kernel_rfl) (ints_one _) ?_; intro w2 n0 hg))
    exact bodyPost_ret (results_cell_row rfl _ _ (w.heap.size + 2) 32 (ints (putL zs 7 cs)) (0, 0) _ rfl n0 Try.underlying32 rfl (by rw [ints_size, putL_len, hl]; kernel_rfl)) rfl ⟨rfl, below_grown hB hg hsz (by omega)⟩

theorem put_away (zs cs : List Int) (b : Int) (w : World) (hl : zs.length = 32) (hb : (decide (0 ≤ b) && decide (b < 8)) = false) :
    Calls Try.prog 24 #[.agg (ints zs), .int .i64 b, .agg (ints cs)] w fun e w' => e = .returned (.agg (ints zs)) ∧ Below w.heap.size w w' := by
  have b0 := blk_alloc (blk_alloc (blk_new w 32 (ints zs)) (.cells (ints cs) 28)) (.cells #[Value.int .i64 0, Value.int .i64 0, Value.int .i64 0, Value.int .i64 0, Value.int .i64 0, Value.int .i64 0, Value.int .i64 0, Value.int .i64 0, Value.int .i64 0, Value.int .i64 0, Value.int .i64 0, Value.int .i64 0, Value.int .i64 0, Value.int .i64 0, Value.int .i64 0, Value.int .i64 0, Value.int .i64 0, Value.int .i64 0, Value.int .i64 0, Value.int .i64 0, Value.int .i64 0, Value.int .i64 0, Value.int .i64 0, Value.int .i64 0, Value.int .i64 0, Value.int .i64 0, Value.int .i64 0, Value.int .i64 0, Value.int .i64 0, Value.int .i64 0, Value.int .i64 0, Value.int .i64 0] 32)
  have b2 := blk_new ((w.alloc (.cells (ints zs) 32)).alloc (.cells (ints cs) 28)) 32 #[Value.int .i64 0, Value.int .i64 0, Value.int .i64 0, Value.int .i64 0, Value.int .i64 0, Value.int .i64 0, Value.int .i64 0, Value.int .i64 0, Value.int .i64 0, Value.int .i64 0, Value.int .i64 0, Value.int .i64 0, Value.int .i64 0, Value.int .i64 0, Value.int .i64 0, Value.int .i64 0, Value.int .i64 0, Value.int .i64 0, Value.int .i64 0, Value.int .i64 0, Value.int .i64 0, Value.int .i64 0, Value.int .i64 0, Value.int .i64 0, Value.int .i64 0, Value.int .i64 0, Value.int .i64 0, Value.int .i64 0, Value.int .i64 0, Value.int .i64 0, Value.int .i64 0, Value.int .i64 0]
  rw [show ((w.alloc (.cells (ints zs) 32)).alloc (.cells (ints cs) 28)).heap.size = w.heap.size + 2 by simp] at b2
  have hA : Below w.heap.size w (((w.alloc (.cells (ints zs) 32)).alloc (.cells (ints cs) 28)).alloc (.cells #[Value.int .i64 0, Value.int .i64 0, Value.int .i64 0, Value.int .i64 0, Value.int .i64 0, Value.int .i64 0, Value.int .i64 0, Value.int .i64 0, Value.int .i64 0, Value.int .i64 0, Value.int .i64 0, Value.int .i64 0, Value.int .i64 0, Value.int .i64 0, Value.int .i64 0, Value.int .i64 0, Value.int .i64 0, Value.int .i64 0, Value.int .i64 0, Value.int .i64 0, Value.int .i64 0, Value.int .i64 0, Value.int .i64 0, Value.int .i64 0, Value.int .i64 0, Value.int .i64 0, Value.int .i64 0, Value.int .i64 0, Value.int .i64 0, Value.int .i64 0, Value.int .i64 0, Value.int .i64 0] 32)) := (((Below.refl _ w).alloc (Nat.le_refl _) _).alloc (by simp) _).alloc (by simp; omega) _
  have hm := fun w => bandMay_calls b w
  rw [hb] at hm
  clear hb
  go_enter Try.func24, Try.ntmps24
  go_wp2_with (first | (go_at_call 50; refine (hm _).mono ?_; rintro e w' ⟨rfl, rfl⟩) | (refine wpList_load_row rfl 32 _ rfl w.heap.size rfl 32 (ints zs) (0, 0) _ b0 Try.underlying32 rfl (by rw [ints_size, hl]; kernel_rfl) ?_) | (refine wpList_store_blk rfl 32 _ _ rfl (w.heap.size + 2) 32 _ (ints zs) rfl rfl b2 (by rw [ints_size, hl]; rfl) (by rw [ints_size, hl]; kernel_rfl) (ints_one _) ?_; intro w2 n0 hg))
  exact bodyPost_ret (results_cell_row rfl _ _ (w.heap.size + 2) 32 (ints zs) (0, 0) _ rfl n0 Try.underlying32 rfl (by rw [ints_size, hl]; kernel_rfl)) rfl ⟨rfl, below_grown hA hg (by simp; omega) (by omega)⟩
end Go.Proofs.Ytnmhbonheaoldaa
