/- Plain laws of layer 11: the way back; the example, layer 11's; counts. And the contract of the example. -/
import Derived.Test.YtlfiaaoegeodnaaLapH
namespace Go.Proofs.Ytlfiaaoegeodnaa
open Go.RowKit
attribute [local go_sem ↓] Go.wp_at_zero Go.wp_at_succ

/-- seams undone -/
theorem seams_undone {A B A' B' : List Int → List Int → List Int} {fs : List (List Int)} (hA : HalfA A) (hB : HalfB B) (hA' : HalfA A') (hB' : HalfB B') (h32 : All32 fs) (hu : ∀ a b : List Int, a.length = 32 → b.length = 32 → A' (A a b) (B a b) = a ∧ B' (A a b) (B a b) = b) {k : Nat} (hk : k + 1 = fs.length) :
    seamTo A' B' (seamTo A B fs k) k = fs := by
  have hS := seamTo_all hA hB h32 (k := k) (by omega)
  have hl := seamTo_len A B fs k
  refine frames_ext (by rw [seamTo_len, hl]) (fun i hi => ?_)
  rw [seamTo_len, hl] at hi
  have hg : ∀ i, i < fs.length → (seamTo A B fs k).getD i [] = seamed A B fs k i := fun i hi => seams_is hA hB h32 (by omega) hi
  rw [seams_is hA' hB' hS (by omega) (by omega)]
  refine list_getD_ext (by rw [seamed_len, h32 i hi]) (fun j hj => ?_)
  rw [seamed_len] at hj
  rw [seamed_get k i hj]
  have e0 : ∀ i, i < fs.length → 0 < i → ∀ j, j < 16 → (seamed A B fs k i).getD j 0 = (B (fs.getD (i - 1) []) (fs.getD i [])).getD j 0 := fun i hi h0 j hj => by
    rw [seamed_get k i (by omega), if_pos hj, if_pos (by omega)]
  have e1 : ∀ i, i < k → ∀ j, 16 ≤ j → j < 32 → (seamed A B fs k i).getD j 0 = (A (fs.getD i []) (fs.getD (i + 1) [])).getD j 0 := fun i hi j h1 h2 => by
    rw [seamed_get k i h2, if_neg (by omega), if_pos hi]
  by_cases h : j < 16
  · rw [if_pos h]
    by_cases c : 0 < i ∧ i ≤ k
    · rw [if_pos c, hg (i - 1) (by omega), hg i hi]
      have l1 := h32 (i - 1) (by omega)
      have l2 := h32 i hi
      have := (hB'.2 (seamed A B fs k (i - 1)) (A (fs.getD (i - 1) []) (fs.getD i [])) (seamed A B fs k i) (B (fs.getD (i - 1) []) (fs.getD i [])) (seamed_len _ _) ((hA.1 _ _).trans l1) (seamed_len _ _) ((hB.1 _ _).trans l2)
        (fun j h1 h2 => by rw [e1 (i - 1) (by omega) j h1 h2, show i - 1 + 1 = i by omega]) (fun j h1 => e0 i hi c.1 j h1)).1 j h
      rw [this, (hu _ _ l1 l2).2]
    · rw [if_neg c, hg i hi, seamed_get k i hj, if_pos h, if_neg c]
  · rw [if_neg h]
    by_cases c : i < k
    · rw [if_pos c, hg i hi, hg (i + 1) (by omega)]
      have l1 := h32 i hi
      have l2 := h32 (i + 1) (by omega)
      have := (hA'.2 (seamed A B fs k i) (A (fs.getD i []) (fs.getD (i + 1) [])) (seamed A B fs k (i + 1)) (B (fs.getD i []) (fs.getD (i + 1) [])) (seamed_len _ _) ((hA.1 _ _).trans l1) (seamed_len _ _) ((hB.1 _ _).trans l2)
        (fun j h1 h2 => e1 i c j h1 h2) (fun j h1 => by rw [e0 (i + 1) (by omega) (by omega) j h1, show i + 1 - 1 = i by omega])).1 j (by omega) hj
      rw [this, (hu _ _ l1 l2).1]
    · rw [if_neg c, hg i hi, seamed_get k i hj, if_neg h, if_neg c]

theorem map_getD (F : List Int → List Int) {fs : List (List Int)} {i : Nat} (h : i < fs.length) : (fs.map F).getD i [] = F (fs.getD i []) := by
  simp [List.getD_eq_getElem?_getD, List.getElem?_eq_getElem h]
theorem framesL_len (l : List Int) : (framesL l).length = countN l.length := by unfold framesL; rw [List.length_map, seamTo_len, framesOf_len]
theorem framesL_get {l : List Int} {i : Nat} (h : i < countN l.length) : (framesL l).getD i [] = wavesL (seamed seam1 seam2 (framesOf l) (countN l.length - 1) i) := by
  have hp := countN_pos l.length
  unfold framesL
  rw [map_getD wavesL (by rw [seamTo_len, framesOf_len]; exact h), seams_is HalfA1 HalfB1 (framesOf_all l) (by rw [framesOf_len]; omega) (by rw [framesOf_len]; exact h)]
theorem framesL_all (l : List Int) : All32 (framesL l) := by
  intro i hi
  rw [framesL_len] at hi
  rw [framesL_get hi, wavesL_len, seamed_len]
/-- the frames of samples, small enough for the way back -/
theorem framesL_in {l : List Int} (h : AllIn 1048576 l) (i : Nat) : AllIn 16777216 ((framesL l).getD i []) := by
  rcases Nat.lt_or_ge i (countN l.length) with hi | hi
  · rw [framesL_get hi]
    have hs := allIn_mono (seamed_in (by omega) (framesOf_in (by omega) h) (fun a b => seam1_in (by omega) a b) (fun a b => seam2_in (by omega) a b) (countN l.length - 1) i) (d := 1572866) (by omega)
    have hl : (seamed seam1 seam2 (framesOf l) (countN l.length - 1) i).length = 32 := seamed_len _ _
    have h1 := T_le hs (by omega)
    have h2 := (waves_small hl).1
    exact in_of_T ((wavesL_len _).trans hl) (by omega) (by omega)
  · rw [List.getD_eq_getElem?_getD, List.getElem?_eq_none (by rw [framesL_len]; exact hi)]
    intro z hz
    simp at hz
/-- the samples come back -/
theorem samples_frames (l : List Int) : samplesL (framesL l) = flat (framesOf l) := by
  have hp := countN_pos l.length
  have hS := seamTo_all HalfA1 HalfB1 (framesOf_all l) (k := countN l.length - 1) (by rw [framesOf_len]; omega)
  have hm : (framesL l).map dbackL = seamTo seam1 seam2 (framesOf l) (countN l.length - 1) := by
    unfold framesL
    rw [List.map_map]
    refine frames_ext (by rw [List.length_map]) (fun i hi => ?_)
    rw [List.length_map] at hi
    rw [map_getD (dbackL ∘ wavesL) hi, Function.comp_apply, back_waves (hS i hi)]
  unfold samplesL
  rw [hm, framesL_len, seams_undone HalfA1 HalfB1 HalfA2 HalfB2 (framesOf_all l) (fun a b ha hb => unseam_seam ha hb) (by rw [framesOf_len]; omega)]
theorem framesOf_at (l : List Int) {p : Nat} (h : p < 32 * countN l.length) : (flat (framesOf l)).getD p 0 = l.getD p 0 := by
  rw [flat_get (by rw [framesOf_len]; exact h), framesOf_get l (by omega), range32_get _ (by omega), show 32 * (p / 32) + p % 32 = p by omega]

theorem framesL_nil : framesL [] = [zeros] := by
  have e : framesOf [] = [zeros] := by decide
  unfold framesL
  rw [e]
  show [wavesL zeros] = [zeros]
  rw [waves_zero]

set_option maxHeartbeats 2000000 in
theorem awake11_calls (w : World) : Calls Try.prog 54 #[] w fun e w' => e = .returned (.bool true) ∧ Below w.heap.size w w' := by
  have c1 := fun W => frames_calls none 0 0 [] W rfl (by omega) (slA_nil W none) (by intro z hz; simp at hz)
  have b9 := blk_new
  have c2 := fun (W : World) => frames_calls (some ⟨W.heap.size, 0, none⟩) 1 1 [900] (W.alloc (.cells #[.int .i64 900] 3)) rfl (by omega) (slA_blk (zs := [900]) (blk_new W 3 (ints [900]))) (by intro z hz; simp at hz; omega)
  rw [framesL_nil, show flat [zeros] = zeros by decide, show countN 0 = 1 by rfl] at c1
  rw [show countN 1 = 2 by rfl] at c2
  have hlen2 : (framesL [900]).length = 2 := framesL_len _
  have hs9 := fun g (W : World) (h : BlkP W g 44 (flat (framesL [900]))) => samples_calls g 2 2 (framesL [900]) W (by omega) (by omega) hlen2 (framesL_all _) (framesL_in (by intro z hz; simp at hz; omega)) h
  have h900 : (samplesL (framesL [900])).getD 0 0 = 900 := by rw [samples_frames, framesOf_at _ (by decide)]; rfl
  have hl900 : (samplesL (framesL [900])).length = 64 := by rw [samples_frames, flat_len, framesOf_len]; rfl
  have e0 : ∀ W, (Op.equalIn 10000 44 (.agg (ints zeros)) (.agg #[Value.int .i64 0, Value.int .i64 0, Value.int .i64 0, Value.int .i64 0, Value.int .i64 0, Value.int .i64 0, Value.int .i64 0, Value.int .i64 0, Value.int .i64 0, Value.int .i64 0, Value.int .i64 0, Value.int .i64 0, Value.int .i64 0, Value.int .i64 0, Value.int .i64 0, Value.int .i64 0, Value.int .i64 0, Value.int .i64 0, Value.int .i64 0, Value.int .i64 0, Value.int .i64 0, Value.int .i64 0, Value.int .i64 0, Value.int .i64 0, Value.int .i64 0, Value.int .i64 0, Value.int .i64 0, Value.int .i64 0, Value.int .i64 0, Value.int .i64 0, Value.int .i64 0, Value.int .i64 0])).run Try.prog W = .ok true W := fun W => by
    have := equal_frames (xs := zeros) (ys := zeros) rfl rfl W
    rw [decide_eq_true rfl] at this
    exact this
  have hz32 : zeros.length = 32 := rfl
  generalize framesL [900] = fr at *
  clear hlen2 b9
  generalize samplesL fr = sm at *
  generalize zeros = zz at *
  go_enter Try.func54, Try.ntmps54
  go_wp2_with fail
  refine (c1 _).mono ?_
  rintro e w1 ⟨g1, rfl, hg1, hb1, hB⟩
  have lt1 := blk_lt hb1
  go_wp2_with fail
  refine (c2 _).mono ?_
  rintro e w2 ⟨g2, rfl, hg2, hb2, hC⟩
  have hC2 := bnext ((Below.refl _ w1).alloc (Nat.le_refl _) (.cells #[.int .i64 900] 3)) hC
  have hb1' := blk_below hb1 hC2 lt1
  have B2 := bnext hB hC2
  clear hb1 hC hC2 hB
  go_wp2_with (first | (refine wpList_load_wanted (by rfl) 44 _ rfl g1 rfl 44 zz _ hb1' Try.underlying44 rfl (by rw [hz32]; kernel_rfl) ?_))
  refine (hs9 g2 _ (blkP_of hb2)).mono ?_
  rintro e w3 ⟨g3, c3, rfl, hb3, hC⟩
  have c0 := blkP_int hb3 (i := 0) (by omega)
  rw [h900] at c0
  have B3 := bnext B2 hC
  clear hb1' hb2 hC B2 hb3 h900
  go_wp2_with fail
  go_ret
  exact ⟨rfl, B3⟩
end Go.Proofs.Ytlfiaaoegeodnaa
