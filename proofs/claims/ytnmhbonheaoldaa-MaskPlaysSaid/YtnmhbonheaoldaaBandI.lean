/- The walk of layer 16's statement BandPlays. -/
import Derived.Test.YtnmhbonheaoldaaBandH
namespace Go.Proofs.Ytnmhbonheaoldaa
open Go.RowKit
attribute [local go_sem ↓] Go.wp_at_zero Go.wp_at_succ

/-- what the walk of BandPlays knows of its memory -/
def PlaysB (w : World) (g5 g6 : Nat) (x y a0 a1 : List Int) (W : World) : Prop :=
  Blk W g5 37 (ints x) ∧ Blk W g6 32 (ints y) ∧ Blk W w.heap.size 31 (ints a0) ∧ Blk W (w.heap.size + 1) 36 (ints a1) ∧ Below w.heap.size w W
theorem playsB_below {w W W' : World} {g5 g6 : Nat} {x y a0 a1 : List Int} (h : PlaysB w g5 g6 x y a0 a1 W) (hC : Below W.heap.size W W') : PlaysB w g5 g6 x y a0 a1 W' :=
  ⟨blk_below h.1 hC (blk_lt h.1), blk_below h.2.1 hC (blk_lt h.2.1), blk_below h.2.2.1 hC (blk_lt h.2.2.1), blk_below h.2.2.2.1 hC (blk_lt h.2.2.2.1), bnext h.2.2.2.2 hC⟩
theorem playsB_draws {w W : World} {g5 g6 : Nat} {x y a0 a1 : List Int} (h : PlaysB w g5 g6 x y a0 a1 W) (n : Nat) : PlaysB w g5 g6 x y a0 a1 (W.drewN n) :=
  ⟨blk_draws h.1 n, blk_draws h.2.1 n, blk_draws h.2.2.1 n, blk_draws h.2.2.2.1 n, below_draws h.2.2.2.2 n⟩
theorem playsB_drew {w W : World} {g5 g6 : Nat} {x y a0 a1 : List Int} (h : PlaysB w g5 g6 x y a0 a1 W) : PlaysB w g5 g6 x y a0 a1 W.drew :=
  ⟨blk_drew h.1, blk_drew h.2.1, blk_drew h.2.2.1, blk_drew h.2.2.2.1, h.2.2.2.2.drew⟩

/-- the first k steps may be -/
def rightTo (zs : List Int) (k : Nat) : Bool := (List.range k).all fun i => decide (0 ≤ zs.getD i 0) && decide (zs.getD i 0 ≤ 15)
theorem rightTo_zero (zs : List Int) : rightTo zs 0 = true := rfl
theorem rightTo_succ (zs : List Int) (k : Nat) : rightTo zs (k + 1) = (rightTo zs k && (decide (0 ≤ zs.getD k 0) && decide (zs.getD k 0 ≤ 15))) := by
  simp [rightTo, List.range_succ]
theorem rightTo_all {zs : List Int} {n : Nat} (hl : zs.length = n) : rightTo zs n = rightB zs := by
  rw [Bool.eq_iff_iff]
  simp only [rightTo, rightB, List.all_eq_true, List.mem_range, Bool.and_eq_true, decide_eq_true_eq, Bool.not_eq_true', List.any_eq_false, Bool.or_eq_true, not_or, Int.not_lt]
  constructor
  · intro h z hz
    obtain ⟨i, hi, rfl⟩ := List.mem_iff_getElem.1 hz
    have := h i (by omega)
    simpa [List.getD_eq_getElem?_getD, List.getElem?_eq_getElem hi] using this
  · intro h i hi
    exact h (zs.getD i 0) (by rw [List.getD_eq_getElem?_getD, List.getElem?_eq_getElem (by omega)]; exact List.getElem_mem (by omega))

theorem stepsL_get (zs : List Int) {k : Nat} (hk : k < 8) : (stepsL zs).getD k 0 = (stepL (bandL zs k) : Int) := by
  simp [stepsL, List.getD_eq_getElem?_getD, List.getElem?_map, List.getElem?_range hk]
theorem stepsL_len (zs : List Int) : (stepsL zs).length = 8 := by simp [stepsL]
theorem map_get {f : Int → Int} (zs : List Int) {i : Nat} (h : i < zs.length) : (zs.map f).getD i 0 = f (zs.getD i 0) := by
  simp [List.getD_eq_getElem?_getD, List.getElem?_eq_getElem h]

set_option maxHeartbeats 8000000 in
theorem bandPlays_walk (a0 a1 : List Int) (l0 : a0.length = 32) (w0 : ∀ z ∈ a0, (Lit.int .i64 z).wf = true) (l1 : a1.length = 8) (w1 : ∀ z ∈ a1, (Lit.int .i64 z).wf = true) (w : World) : Calls Try.prog 10 #[.agg (a0.map (Value.int .i64)).toArray, .agg (a1.map (Value.int .i64)).toArray] w (LawTrue w) := by
  have b0 := blk_alloc (blk_new w 31 (ints a0)) (.cells (ints a1) 36)
  have b1 := blk_new (w.alloc (.cells (ints a0) 31)) 36 (ints a1)
  rw [show (w.alloc (.cells (ints a0) 31)).heap.size = w.heap.size + 1 by simp] at b1
  have hA : Below w.heap.size w ((w.alloc (.cells (ints a0) 31)).alloc (.cells (ints a1) 36)) := ((Below.refl _ w).alloc (Nat.le_refl _) _).alloc (by simp) _
  have hall := i64_all w0
  have hall1 := i64_all w1
  have hly : (a0.map clampZ).length = 32 := by rw [List.length_map, l0]
  have hlx := stepsL_len a0
  have cst := fun W => steps_calls a0 W l0 hall
  have ccl := fun W => clamp_calls a0 W l0
  have crt := fun W => right_calls a1 W l1 hall1
  have crx := fun W => right_calls (stepsL a0) W (stepsL_len a0) (stepsL_in a0)
  rw [stepsL_right] at crx
  have HGX := Lib.hid (fun k hk => stepsL_get a0 (k := k) hk)
  have HGY := Lib.hid (fun i hi => map_get (f := clampZ) a0 (i := i) hi)
  generalize hx : stepsL a0 = x at *
  generalize hy : a0.map clampZ = y at *
  have HA := Lib.hid hall
  clear hx hy w0 w1 hall hall1
  rw [show (a0.map (Value.int .i64)).toArray = ints a0 from rfl, show (a1.map (Value.int .i64)).toArray = ints a1 from rfl]
  go_enter Try.func10, Try.ntmps10
  go_wp2_with fail
  refine (awake16_calls _).mono ?_
  rintro e w1 ⟨rfl, hB⟩
  have k0 := blk_below b0 hB (blk_lt b0)
  have k1 := blk_below b1 hB (blk_lt b1)
  have B0 := bnext hA hB
  clear b0 b1 hA hB
  go_wp2_with (first | (refine wpList_load_row rfl 31 _ rfl w.heap.size rfl 31 (ints a0) (0, 0) _ k0 Try.underlying31 rfl (by rw [ints_size, l0]; kernel_rfl) ?_))
  refine (cst _).mono ?_
  rintro e w2 ⟨rfl, hC⟩
  have m0 := blk_below k0 hC (blk_lt k0)
  have m1 := blk_below k1 hC (blk_lt k1)
  have B1 := bnext B0 hC
  have nn := blk_new w2 37 #[Value.int .i64 0, Value.int .i64 0, Value.int .i64 0, Value.int .i64 0, Value.int .i64 0, Value.int .i64 0, Value.int .i64 0, Value.int .i64 0]
  have hs1 := B1.size
  have lt0 := blk_lt m0
  have lt1 := blk_lt m1
  clear k0 k1 hC B0 cst
  go_wp2_with (first | (refine wpList_store_blk rfl 37 _ _ rfl w2.heap.size 37 _ (ints x) rfl rfl nn (by rw [ints_size, hlx]; rfl) (by rw [ints_size, hlx]; kernel_rfl) (ints_one _) ?_; intro w3 n0 hg; have m2 := blk_grown (blk_alloc m0 (.cells #[Value.int .i64 0, Value.int .i64 0, Value.int .i64 0, Value.int .i64 0, Value.int .i64 0, Value.int .i64 0, Value.int .i64 0, Value.int .i64 0] 37)) hg (by simp; omega)) | (refine wpList_load_row rfl 31 _ rfl w.heap.size rfl 31 (ints a0) (0, 0) _ m2 Try.underlying31 rfl (by rw [ints_size, l0]; kernel_rfl) ?_))
  have m3 := blk_grown (blk_alloc m1 (.cells #[Value.int .i64 0, Value.int .i64 0, Value.int .i64 0, Value.int .i64 0, Value.int .i64 0, Value.int .i64 0, Value.int .i64 0, Value.int .i64 0] 37)) hg (by simp; omega)
  have B2 := below_grown (B1.alloc hs1 (.cells #[Value.int .i64 0, Value.int .i64 0, Value.int .i64 0, Value.int .i64 0, Value.int .i64 0, Value.int .i64 0, Value.int .i64 0, Value.int .i64 0] 37)) hg (by simp; omega) (by omega)
  clear nn m0 m1 B1 hg hs1
  refine (ccl _).mono ?_
  rintro e w4 ⟨rfl, hC⟩
  have k0 := blk_below m2 hC (blk_lt m2)
  have k1 := blk_below m3 hC (blk_lt m3)
  have k5 := blk_below n0 hC (blk_lt n0)
  have B3 := bnext B2 hC
  have nn := blk_new w4 32 #[Value.int .i64 0, Value.int .i64 0, Value.int .i64 0, Value.int .i64 0, Value.int .i64 0, Value.int .i64 0, Value.int .i64 0, Value.int .i64 0, Value.int .i64 0, Value.int .i64 0, Value.int .i64 0, Value.int .i64 0, Value.int .i64 0, Value.int .i64 0, Value.int .i64 0, Value.int .i64 0, Value.int .i64 0, Value.int .i64 0, Value.int .i64 0, Value.int .i64 0, Value.int .i64 0, Value.int .i64 0, Value.int .i64 0, Value.int .i64 0, Value.int .i64 0, Value.int .i64 0, Value.int .i64 0, Value.int .i64 0, Value.int .i64 0, Value.int .i64 0, Value.int .i64 0, Value.int .i64 0]
  have hs1 := B3.size
  have lt2 := blk_lt k0
  have lt3 := blk_lt k1
  have lt5 := blk_lt k5
  clear m2 m3 n0 hC B2 ccl
  go_wp2_with (first | (refine wpList_store_blk rfl 32 _ _ rfl w4.heap.size 32 _ (ints y) rfl rfl nn (by rw [ints_size, hly]; rfl) (by rw [ints_size, hly]; kernel_rfl) (ints_one _) ?_; intro w5 n0 hg))
  have m0 := blk_grown (blk_alloc k0 (.cells #[Value.int .i64 0, Value.int .i64 0, Value.int .i64 0, Value.int .i64 0, Value.int .i64 0, Value.int .i64 0, Value.int .i64 0, Value.int .i64 0, Value.int .i64 0, Value.int .i64 0, Value.int .i64 0, Value.int .i64 0, Value.int .i64 0, Value.int .i64 0, Value.int .i64 0, Value.int .i64 0, Value.int .i64 0, Value.int .i64 0, Value.int .i64 0, Value.int .i64 0, Value.int .i64 0, Value.int .i64 0, Value.int .i64 0, Value.int .i64 0, Value.int .i64 0, Value.int .i64 0, Value.int .i64 0, Value.int .i64 0, Value.int .i64 0, Value.int .i64 0, Value.int .i64 0, Value.int .i64 0] 32)) hg (by simp; omega)
  have m1 := blk_grown (blk_alloc k1 (.cells #[Value.int .i64 0, Value.int .i64 0, Value.int .i64 0, Value.int .i64 0, Value.int .i64 0, Value.int .i64 0, Value.int .i64 0, Value.int .i64 0, Value.int .i64 0, Value.int .i64 0, Value.int .i64 0, Value.int .i64 0, Value.int .i64 0, Value.int .i64 0, Value.int .i64 0, Value.int .i64 0, Value.int .i64 0, Value.int .i64 0, Value.int .i64 0, Value.int .i64 0, Value.int .i64 0, Value.int .i64 0, Value.int .i64 0, Value.int .i64 0, Value.int .i64 0, Value.int .i64 0, Value.int .i64 0, Value.int .i64 0, Value.int .i64 0, Value.int .i64 0, Value.int .i64 0, Value.int .i64 0] 32)) hg (by simp; omega)
  have m5 := blk_grown (blk_alloc k5 (.cells #[Value.int .i64 0, Value.int .i64 0, Value.int .i64 0, Value.int .i64 0, Value.int .i64 0, Value.int .i64 0, Value.int .i64 0, Value.int .i64 0, Value.int .i64 0, Value.int .i64 0, Value.int .i64 0, Value.int .i64 0, Value.int .i64 0, Value.int .i64 0, Value.int .i64 0, Value.int .i64 0, Value.int .i64 0, Value.int .i64 0, Value.int .i64 0, Value.int .i64 0, Value.int .i64 0, Value.int .i64 0, Value.int .i64 0, Value.int .i64 0, Value.int .i64 0, Value.int .i64 0, Value.int .i64 0, Value.int .i64 0, Value.int .i64 0, Value.int .i64 0, Value.int .i64 0, Value.int .i64 0] 32)) hg (by simp; omega)
  have B4 := below_grown (B3.alloc hs1 (.cells #[Value.int .i64 0, Value.int .i64 0, Value.int .i64 0, Value.int .i64 0, Value.int .i64 0, Value.int .i64 0, Value.int .i64 0, Value.int .i64 0, Value.int .i64 0, Value.int .i64 0, Value.int .i64 0, Value.int .i64 0, Value.int .i64 0, Value.int .i64 0, Value.int .i64 0, Value.int .i64 0, Value.int .i64 0, Value.int .i64 0, Value.int .i64 0, Value.int .i64 0, Value.int .i64 0, Value.int .i64 0, Value.int .i64 0, Value.int .i64 0, Value.int .i64 0, Value.int .i64 0, Value.int .i64 0, Value.int .i64 0, Value.int .i64 0, Value.int .i64 0, Value.int .i64 0, Value.int .i64 0] 32)) hg (by simp; omega) (by omega)
  have HP := Lib.hid (show PlaysB w w2.heap.size w4.heap.size x y a0 a1 w5 from ⟨m5, n0, m0, m1, B4⟩)
  clear nn k0 k1 k5 B3 hg hs1 m0 m1 m5 n0 B4
  generalize w2.heap.size = g5 at *
  generalize w4.heap.size = g6 at *
  have hu0 := Try.underlying31
  have hu4 := Try.underlying28
  have HI0 := Lib.hid (show (Try.prog.info? 31).map (·.size) = some (a0.map (Value.int .i64)).length by rw [List.length_map, l0]; kernel_rfl)
  go_wp2_with fail
  go_loopg [7, 8] 8 (fun gg s7 s8 wr => ∃ kk : Nat, ∃ bb : Bool, kk ≤ 8 ∧ 8 - kk ≤ gg ∧ s8 = .int .i64 kk ∧ s7 = .bool bb ∧ Aside (rightTo a1 kk = bb) ∧ Aside (PlaysB w g5 g6 x y a0 a1 wr))
  case atStart => exact ⟨0, true, Nat.zero_le _, by omega, rfl, rfl, rfl, HP.out⟩
  case round =>
    clear HP
    obtain ⟨kk, bb, hkk, hgk, rfl, rfl, hR, hH⟩ := hrel
    by_cases hlt : kk < 8
    · have hltz : (kk : Int) < 8 := by omega
      have cb := fun W => refBand_calls a0 kk W l0 hlt
      have cs := fun W => refStep_calls (bandL a0 kk) W (bandL_len a0 kk)
      have co := fun W => of_calls a0 kk W l0 hlt
      have ct := fun W => step_calls (bandL a0 kk) W (bandL_len a0 kk) (bandL_in HA.out kk)
      have e3 := fun W => eq_fours (bandL_len a0 kk) (bandL_len a0 kk) W
      rw [decide_eq_true rfl] at e3
      have hlz := bandL_len a0 kk
      have hgx := HGX.out kk hlt
      generalize (stepL (bandL a0 kk) : Int) = s at *
      generalize bandL a0 kk = z at *
      have k0 := hH.out.2.2.1
      go_wp2_with (first | (refine wpList_load_row rfl 31 _ rfl w.heap.size rfl 31 (ints a0) (0, 0) _ k0 Try.underlying31 rfl (by rw [ints_size, l0]; kernel_rfl) ?_))
      refine (cb _).mono ?_
      rintro e w6 ⟨rfl, hC⟩
      have P1 := playsB_below hH.out hC
      have nn := blk_new w6 28 #[Value.int .i64 0, Value.int .i64 0, Value.int .i64 0, Value.int .i64 0]
      clear hC hH k0 cb
      go_wp2_with (first | (refine wpList_store_blk rfl 28 _ _ rfl w6.heap.size 28 _ (ints z) rfl rfl nn (by rw [ints_size, hlz]; rfl) (by rw [ints_size, hlz]; kernel_rfl) (ints_one _) ?_; intro w7 n9 hg))
      have P2 : PlaysB w g5 g6 x y a0 a1 w7 := by
        obtain ⟨p1, p2, p3, p4, p5⟩ := P1
        have q1 := blk_lt p1
        have q2 := blk_lt p2
        have q3 := blk_lt p3
        have q4 := blk_lt p4
        have hs := p5.size
        exact ⟨blk_grown (blk_alloc p1 (.cells #[Value.int .i64 0, Value.int .i64 0, Value.int .i64 0, Value.int .i64 0] 28)) hg (by simp; omega), blk_grown (blk_alloc p2 (.cells #[Value.int .i64 0, Value.int .i64 0, Value.int .i64 0, Value.int .i64 0] 28)) hg (by simp; omega), blk_grown (blk_alloc p3 (.cells #[Value.int .i64 0, Value.int .i64 0, Value.int .i64 0, Value.int .i64 0] 28)) hg (by simp; omega), blk_grown (blk_alloc p4 (.cells #[Value.int .i64 0, Value.int .i64 0, Value.int .i64 0, Value.int .i64 0] 28)) hg (by simp; omega), below_grown (p5.alloc hs (.cells #[Value.int .i64 0, Value.int .i64 0, Value.int .i64 0, Value.int .i64 0] 28)) hg (by simp; omega) (by omega)⟩
      have c5 : w7.cell? ⟨g5, kk, none⟩ = some (.int .i64 s) := by rw [← hgx]; exact blk_int P2.1 (by omega)
      clear nn P1 hg
      generalize w6.heap.size = g9 at *
      have hi0 := HI0.out
      have hi4 : (Try.prog.info? 28).map (·.size) = some (z.map (Value.int .i64)).length := by rw [List.length_map, hlz]; kernel_rfl
      have C5 := Lib.hid c5
      clear c5 hgx
      simp only [ints] at e3 cs co ct
      go_wp2_with fail
      refine wp_region_held_drew (S := (fun W => PlaysB w g5 g6 x y a0 a1 W ∧ Blk W g9 28 (ints z) ∧ W.cell? ⟨g5, kk, none⟩ = some (.int .i64 s))) (by kernel_rfl) ⟨playsB_drew P2, blk_drew n9, C5.out⟩ (fun hHeld => ?_)
      refine wpAnyH_take (i := 0) (oi := ⟨_, _, _, _, _, _⟩) (v := ?_) rfl (by kernel_rfl) (by kernel_rfl) (by kernel_rfl) (fun _ _ _ h => h) (Or.inl ⟨by rfl, ?_⟩) (by assumption) ?_
      rotate_left
      · intro W hSw
        try dsimp only at hSw
        go_simp
        try with_reducible rfl
      try simp only [Act.put, List.setIfInBounds_toArray, List.set_cons_zero, List.set_cons_succ]
      refine wpAnyH_take (i := 1) (oi := ⟨_, _, _, _, _, _⟩) (v := ?_) rfl (by kernel_rfl) (by kernel_rfl) (by kernel_rfl) (fun _ _ _ h => h) (Or.inl ⟨by rfl, ?_⟩) (by assumption) ?_
      rotate_left
      · intro W hSw
        try dsimp only at hSw
        go_simp
        try with_reducible rfl
      try simp only [Act.put, List.setIfInBounds_toArray, List.set_cons_zero, List.set_cons_succ]
      refine wpAnyH_take (i := 2) (oi := ⟨_, _, _, _, _, _⟩) (v := ?_) rfl (by kernel_rfl) (by kernel_rfl) (by kernel_rfl) (fun _ _ _ h => h) (Or.inl ⟨by rfl, ?_⟩) (by assumption) ?_
      rotate_left
      · intro W hSw
        try dsimp only at hSw
        go_simp
        try with_reducible rfl
      try simp only [Act.put, List.setIfInBounds_toArray, List.set_cons_zero, List.set_cons_succ]
      refine wpAnyH_take (i := 3) (oi := ⟨_, _, _, _, _, _⟩) (v := _) rfl (by kernel_rfl) (by kernel_rfl) (by kernel_rfl) (fun _ _ _ h => h) (yieldsIf_load_mid (by rfl) _ _ rfl _ _ rfl _ _ (fun _ h => range_whole h.2.1) hu4 rfl hi4) (by assumption) ?_
      try simp only [Act.put, List.setIfInBounds_toArray, List.set_cons_zero, List.set_cons_succ]
      refine wpAnyH_ready (rs := [4]) (by kernel_rfl) (by simp) ?_
      refine AllReadyH.cons (o := ⟨_, _, _, _, _, _⟩) rfl (fun K hK => ?_) AllReadyH.nil
      go_simp
      refine (cs _).mono ?_
      rintro e w' ⟨rfl, hC⟩
      go_simp
      refine hK.out _ _ ⟨playsB_below hHeld.1 hC, blk_below hHeld.2.1 hC (blk_lt hHeld.2.1), (hC.cell (p := ⟨g5, kk, none⟩) (blk_lt hHeld.1.1)).trans hHeld.2.2⟩ (fun hHeld => ?_)
      clear hK K
      try simp only [Act.put, List.setIfInBounds_toArray, List.set_cons_zero, List.set_cons_succ]
      refine wpAnyH_take (i := 5) (oi := ⟨_, _, _, _, _, _⟩) (v := ?_) rfl (by kernel_rfl) (by kernel_rfl) (by kernel_rfl) (fun _ _ _ h => h) (Or.inl ⟨by rfl, ?_⟩) (by assumption) ?_
      rotate_left
      · intro W hSw
        try dsimp only at hSw
        go_simp
        try with_reducible rfl
      try simp only [Act.put, List.setIfInBounds_toArray, List.set_cons_zero, List.set_cons_succ]
      refine wpAnyH_take (i := 6) (oi := ⟨_, _, _, _, _, _⟩) (v := ?_) rfl (by kernel_rfl) (by kernel_rfl) (by kernel_rfl) (fun _ _ _ h => h) (Or.inl ⟨by rfl, ?_⟩) (by assumption) ?_
      rotate_left
      · intro W hSw
        try dsimp only at hSw
        go_simp
        try with_reducible rfl
      try simp only [Act.put, List.setIfInBounds_toArray, List.set_cons_zero, List.set_cons_succ]
      refine wpAnyH_take (i := 7) (oi := ⟨_, _, _, _, _, _⟩) (v := _) rfl (by kernel_rfl) (by kernel_rfl) (by kernel_rfl) (fun _ _ _ h => h) (yieldsIf_load_mid (by rfl) _ _ rfl _ _ rfl _ _ (fun _ h => range_whole h.1.2.2.1) hu0 rfl hi0) (by assumption) ?_
      try simp only [Act.put, List.setIfInBounds_toArray, List.set_cons_zero, List.set_cons_succ]
      refine wpAnyH_take (i := 8) (oi := ⟨_, _, _, _, _, _⟩) (v := ?_) rfl (by kernel_rfl) (by kernel_rfl) (by kernel_rfl) (fun _ _ _ h => h) (Or.inl ⟨by rfl, ?_⟩) (by assumption) ?_
      rotate_left
      · intro W hSw
        try dsimp only at hSw
        go_simp
        try with_reducible rfl
      try simp only [Act.put, List.setIfInBounds_toArray, List.set_cons_zero, List.set_cons_succ]
      refine wpAnyH_take (i := 10) (oi := ⟨_, _, _, _, _, _⟩) (v := _) rfl (by kernel_rfl) (by kernel_rfl) (by kernel_rfl) (fun _ _ _ h => h) (yieldsIf_load_mid (by rfl) _ _ rfl _ _ rfl _ _ (fun _ h => range_whole h.2.1) hu4 rfl hi4) (by assumption) ?_
      try simp only [Act.put, List.setIfInBounds_toArray, List.set_cons_zero, List.set_cons_succ]
      refine wpAnyH_ready (rs := [9]) (by kernel_rfl) (by simp) ?_
      refine AllReadyH.cons (o := ⟨_, _, _, _, _, _⟩) rfl (fun K hK => ?_) AllReadyH.nil
      go_simp
      refine (co _).mono ?_
      rintro e w' ⟨rfl, hC⟩
      go_simp
      refine hK.out _ _ ⟨playsB_below hHeld.1 hC, blk_below hHeld.2.1 hC (blk_lt hHeld.2.1), (hC.cell (p := ⟨g5, kk, none⟩) (blk_lt hHeld.1.1)).trans hHeld.2.2⟩ (fun hHeld => ?_)
      clear hK K
      try simp only [Act.put, List.setIfInBounds_toArray, List.set_cons_zero, List.set_cons_succ]
      refine wpAnyH_take (i := 11) (oi := ⟨_, _, _, _, _, _⟩) (v := ?_) rfl (by kernel_rfl) (by kernel_rfl) (by kernel_rfl) (fun _ _ _ h => h) (Or.inl ⟨by rfl, ?_⟩) (by assumption) ?_
      rotate_left
      · intro W hSw
        try dsimp only at hSw
        go_simp
        try with_reducible rfl
      try simp only [Act.put, List.setIfInBounds_toArray, List.set_cons_zero, List.set_cons_succ]
      refine wpAnyH_take (i := 12) (oi := ⟨_, _, _, _, _, _⟩) (v := ?_) rfl (by kernel_rfl) (by kernel_rfl) (by kernel_rfl) (fun _ _ _ h => h) (Or.inl ⟨by rfl, ?_⟩) (by assumption) ?_
      rotate_left
      · intro W hSw
        try dsimp only at hSw
        go_simp
        try with_reducible rfl
      try simp only [Act.put, List.setIfInBounds_toArray, List.set_cons_zero, List.set_cons_succ]
      refine wpAnyH_take (i := 13) (oi := ⟨_, _, _, _, _, _⟩) (v := ?_) rfl (by kernel_rfl) (by kernel_rfl) (by kernel_rfl) (fun _ _ _ h => h) (Or.inl ⟨by rfl, ?_⟩) (by assumption) ?_
      rotate_left
      · intro W hSw
        try dsimp only at hSw
        go_simp
        try with_reducible rfl
      try simp only [Act.put, List.setIfInBounds_toArray, List.set_cons_zero, List.set_cons_succ]
      refine wpAnyH_take (i := 14) (oi := ⟨_, _, _, _, _, _⟩) (v := _) rfl (by kernel_rfl) (by kernel_rfl) (by kernel_rfl) (fun _ _ _ h => h) (yieldsIf_load_mid (by rfl) _ _ rfl _ _ rfl _ _ (fun _ h => range_whole h.2.1) hu4 rfl hi4) (by assumption) ?_
      try simp only [Act.put, List.setIfInBounds_toArray, List.set_cons_zero, List.set_cons_succ]
      refine wpAnyH_take (i := 16) (oi := ⟨_, _, _, _, _, _⟩) (v := ?_) rfl (by kernel_rfl) (by kernel_rfl) (by kernel_rfl) (fun _ _ _ h => h) (Or.inl ⟨by rfl, ?_⟩) (by assumption) ?_
      rotate_left
      · intro W hSw
        try dsimp only at hSw
        go_simp
        try with_reducible rfl
      try simp only [Act.put, List.setIfInBounds_toArray, List.set_cons_zero, List.set_cons_succ]
      refine wpAnyH_take (i := 17) (oi := ⟨_, _, _, _, _, _⟩) (v := ?_) rfl (by kernel_rfl) (by kernel_rfl) (by kernel_rfl) (fun _ _ _ h => h) (Or.inl ⟨by rfl, ?_⟩) (by assumption) ?_
      rotate_left
      · intro W hSw
        try dsimp only at hSw
        go_simp
        try with_reducible rfl
      try simp only [Act.put, List.setIfInBounds_toArray, List.set_cons_zero, List.set_cons_succ]
      refine wpAnyH_take (i := 18) (oi := ⟨_, _, _, _, _, _⟩) (v := ?_) rfl (by kernel_rfl) (by kernel_rfl) (by kernel_rfl) (fun _ _ _ h => h) (Or.inl ⟨by rfl, ?_⟩) (by assumption) ?_
      rotate_left
      · intro W hSw
        try dsimp only at hSw
        go_simp
        try with_reducible rfl
      try simp only [Act.put, List.setIfInBounds_toArray, List.set_cons_zero, List.set_cons_succ]
      refine wpAnyH_ready (rs := [15]) (by kernel_rfl) (by simp) ?_
      refine AllReadyH.cons (o := ⟨_, _, _, _, _, _⟩) rfl (fun K hK => ?_) AllReadyH.nil
      go_simp
      refine (ct _).mono ?_
      rintro e w' ⟨rfl, hC⟩
      go_simp
      refine hK.out _ _ ⟨playsB_below hHeld.1 hC, blk_below hHeld.2.1 hC (blk_lt hHeld.2.1), (hC.cell (p := ⟨g5, kk, none⟩) (blk_lt hHeld.1.1)).trans hHeld.2.2⟩ (fun hHeld => ?_)
      clear hK K
      try simp only [Act.put, List.setIfInBounds_toArray, List.set_cons_zero, List.set_cons_succ]
      refine wpAnyH_take (i := 19) (oi := ⟨_, _, _, _, _, _⟩) (v := ?_) rfl (by kernel_rfl) (by kernel_rfl) (by kernel_rfl) (fun _ _ _ h => h) (Or.inl ⟨by rfl, ?_⟩) (by assumption) ?_
      rotate_left
      · intro W hSw
        try dsimp only at hSw
        go_simp
        try with_reducible rfl
      try simp only [Act.put, List.setIfInBounds_toArray, List.set_cons_zero, List.set_cons_succ]
      refine wpAnyH_take (i := 20) (oi := ⟨_, _, _, _, _, _⟩) (v := ?_) rfl (by kernel_rfl) (by kernel_rfl) (by kernel_rfl) (fun _ _ _ h => h) (Or.inl ⟨by rfl, ?_⟩) (by assumption) ?_
      rotate_left
      · intro W hSw
        try dsimp only at hSw
        go_simp
        try with_reducible rfl
      try simp only [Act.put, List.setIfInBounds_toArray, List.set_cons_zero, List.set_cons_succ]
      refine wpAnyH_done (by kernel_rfl) ?_ _
      have hsu := Lib.hid (rightTo_succ a1 kk)
      have hP := Lib.hid hHeld.1
      have c1 := blk_int hHeld.1.2.2.2.1 (i := kk) (by omega)
      clear hHeld P2 n9 C5 cs co ct e3 hi0 hi4
      generalize a1.getD kk 0 = t at *
      cases bb
      · go_wp2_with fail
        go_roundg (8 - (kk + 1))
        case measure => omega
        case rel =>
          have hres : rightTo a1 (kk + 1) = false := by rw [hsu.out, hR.out]; rfl
          exact ⟨kk + 1, false, by omega, by omega, by go_num, rfl, hres, hP.out⟩
      · by_cases h1 : 0 ≤ t
        · by_cases h2 : t ≤ 15
          · go_wp2_with fail
            go_roundg (8 - (kk + 1))
            case measure => omega
            case rel =>
              have hres : rightTo a1 (kk + 1) = true := by rw [hsu.out, hR.out]; simp [h1, h2]
              exact ⟨kk + 1, true, by omega, by omega, by go_num, rfl, hres, hP.out⟩
          · go_wp2_with fail
            go_roundg (8 - (kk + 1))
            case measure => omega
            case rel =>
              have hres : rightTo a1 (kk + 1) = false := by rw [hsu.out, hR.out]; simp; omega
              exact ⟨kk + 1, false, by omega, by omega, by go_num, rfl, hres, hP.out⟩
        · go_wp2_with fail
          go_roundg (8 - (kk + 1))
          case measure => omega
          case rel =>
            have hres : rightTo a1 (kk + 1) = false := by rw [hsu.out, hR.out]; simp; omega
            exact ⟨kk + 1, false, by omega, by omega, by go_num, rfl, hres, hP.out⟩
    · have hltz : ¬ (kk : Int) < 8 := by omega
      obtain rfl : kk = 8 := by omega
      have HR := Lib.hid ((rightTo_all l1).symm.trans hR.out)
      have HP := Lib.hid hH.out
      clear hR hH hltz hkk hgk
      go_wp2_with fail
      go_loopg [10] 32 (fun gg s10 wr => ∃ kk : Nat, kk ≤ 32 ∧ 32 - kk ≤ gg ∧ s10 = .int .i64 kk ∧ Aside (PlaysB w g5 g6 x y a0 a1 wr))
      case atStart => exact ⟨0, Nat.zero_le _, by omega, rfl, HP.out⟩
      case round =>
        clear HP
        obtain ⟨kk, hkk, hgk, rfl, hH⟩ := hrel
        by_cases hlt : kk < 32
        · have hltz : (kk : Int) < 32 := by omega
          have hk0 : 0 ≤ (kk : Int) := by omega
          have c0 := blk_int hH.out.2.2.1 (i := kk) (by omega)
          have c6 := blk_int hH.out.2.1 (i := kk) (by omega)
          rw [HGY.out kk (by omega)] at c6
          have cc := fun W => refClamp_calls (a0.getD kk 0) W
          generalize clampZ (a0.getD kk 0) = s at *
          generalize a0.getD kk 0 = t at *
          go_wp2_with fail
          go_quiet ((go_at_call 33; exact Calls.quiet_of_same ((cc _).mono fun _ _ h => ⟨h.1, h.2.symm⟩)))
          have hP := Lib.hid (playsB_draws hH.out nq)
          clear hH c0 c6 cc
          go_wp2_with fail
          go_roundg (32 - (kk + 1))
          case measure => omega
          case rel => exact ⟨kk + 1, by omega, by omega, by go_num, hP.out⟩
        · have hltz : ¬ (kk : Int) < 32 := by omega
          have k1 := hH.out.2.2.2.1
          rw [HR.out] at crt
          go_wp2_with (first | (refine wpList_load_row rfl 36 _ rfl (w.heap.size + 1) rfl 36 (ints a1) (0, 0) _ k1 Try.underlying36 rfl (by rw [ints_size, l1]; kernel_rfl) ?_))
          refine (crt _).mono ?_
          rintro e w8 ⟨rfl, hC⟩
          have k5 := blk_below hH.out.1 hC (blk_lt hH.out.1)
          have B8 := bnext hH.out.2.2.2.2 hC
          clear hH k1 hC crt
          go_wp2_with (first | (refine wpList_load_wanted (by rfl) 37 _ rfl g5 rfl 37 x _ k5 Try.underlying37 rfl (by rw [hlx]; kernel_rfl) ?_))
          refine (crx _).mono ?_
          rintro e w9 ⟨rfl, hC⟩
          have B9 := bnext B8 hC
          go_wp2_with fail
          go_ret
          exact ⟨rfl, B9⟩
end Go.Proofs.Ytnmhbonheaoldaa
