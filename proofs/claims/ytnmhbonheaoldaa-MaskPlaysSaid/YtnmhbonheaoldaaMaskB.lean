/- Contracts of the package mask: all budgets, how far pulses may be, how far they are, whether they may become others. -/
import Derived.Test.YtnmhbonheaoldaaMask
namespace Go.Proofs.Ytnmhbonheaoldaa
open Go.RowKit
attribute [local go_sem ↓] Go.wp_at_zero Go.wp_at_succ

def budsL (s : List Int) : List Int := (List.range 8).map (budL s)
theorem budsL_len (s : List Int) : (budsL s).length = 8 := by simp [budsL]
theorem budsL_get (s : List Int) {k : Nat} (hk : k < 8) : (budsL s).getD k 0 = budL s k := by
  simp [budsL, List.getD_eq_getElem?_getD, List.getElem?_map, List.getElem?_range hk]

set_option maxHeartbeats 1000000 in
theorem all_calls (zs : List Int) (w : World) (hl : zs.length = 8) (hr : rightB zs = true) :
    Calls Try.prog 27 #[.agg (ints zs)] w fun e w' => e = .returned (.agg (ints (budsL zs))) ∧ Below w.heap.size w w' := by
  have b0 := blk_alloc (blk_alloc (blk_new w 37 (ints zs)) (.cells #[Value.int .i64 0, Value.int .i64 0, Value.int .i64 0, Value.int .i64 0, Value.int .i64 0, Value.int .i64 0, Value.int .i64 0, Value.int .i64 0] 37)) (.cells #[Value.int .i64 0, Value.int .i64 0, Value.int .i64 0, Value.int .i64 0, Value.int .i64 0, Value.int .i64 0, Value.int .i64 0, Value.int .i64 0] 37)
  have b1 := blk_alloc (blk_new (w.alloc (.cells (ints zs) 37)) 37 (ints (List.replicate 8 0))) (.cells #[Value.int .i64 0, Value.int .i64 0, Value.int .i64 0, Value.int .i64 0, Value.int .i64 0, Value.int .i64 0, Value.int .i64 0, Value.int .i64 0] 37)
  have b2 := blk_new ((w.alloc (.cells (ints zs) 37)).alloc (.cells #[Value.int .i64 0, Value.int .i64 0, Value.int .i64 0, Value.int .i64 0, Value.int .i64 0, Value.int .i64 0, Value.int .i64 0, Value.int .i64 0] 37)) 37 (ints (List.replicate 8 0))
  rw [show (w.alloc (.cells (ints zs) 37)).heap.size = w.heap.size + 1 by simp] at b1
  rw [show ((w.alloc (.cells (ints zs) 37)).alloc (.cells #[Value.int .i64 0, Value.int .i64 0, Value.int .i64 0, Value.int .i64 0, Value.int .i64 0, Value.int .i64 0, Value.int .i64 0, Value.int .i64 0] 37)).heap.size = w.heap.size + 2 by simp] at b2
  have hA : Below w.heap.size w (((w.alloc (.cells (ints zs) 37)).alloc (.cells #[Value.int .i64 0, Value.int .i64 0, Value.int .i64 0, Value.int .i64 0, Value.int .i64 0, Value.int .i64 0, Value.int .i64 0, Value.int .i64 0] 37)).alloc (.cells #[Value.int .i64 0, Value.int .i64 0, Value.int .i64 0, Value.int .i64 0, Value.int .i64 0, Value.int .i64 0, Value.int .i64 0, Value.int .i64 0] 37)) := (((Below.refl _ w).alloc (Nat.le_refl _) _).alloc (by simp) _).alloc (by simp; omega) _
  have B0 := Lib.hid b0
  have B1 := Lib.hid b1
  have B2 := Lib.hid b2
  have HR := Lib.hid hr
  clear b0 b1 b2 hr
  go_enter Try.func27, Try.ntmps27
  go_wp2_with fail
  go_loopg [5] 8 (fun gg s5 wr => ∃ kk : Nat, kk ≤ 8 ∧ 8 - kk ≤ gg ∧ s5 = .int .i64 kk ∧ Aside (Below w.heap.size w wr) ∧ Aside (Blk wr w.heap.size 37 (ints zs)) ∧ Aside (Blk wr (w.heap.size + 1) 37 (ints (List.replicate 8 0))) ∧ Aside (Blk wr (w.heap.size + 2) 37 (ints (overTo (budL zs) (List.replicate 8 0) kk))))
  case atStart => exact ⟨0, Nat.zero_le _, by omega, rfl, hA, B0.out, B1.out, by rw [overTo_zero]; exact B2.out⟩
  case round =>
    obtain ⟨kk, hkk, hg, rfl, B, K0, K1, K2⟩ := hrel
    by_cases hlt : kk < 8
    · have hltz : (kk : Int) < 8 := by omega
      have k0 := K0.out
      go_wp2_with (first | (refine wpList_load_row rfl 37 _ rfl w.heap.size rfl 37 (ints zs) (0, 0) _ k0 Try.underlying37 rfl (by rw [ints_size, hl]; kernel_rfl) ?_))
      refine (budget_calls zs kk _ hl HR.out hlt).mono ?_
      rintro e w2 ⟨rfl, hC⟩
      have B2 := bnext B.out hC
      have k0 := blk_below K0.out hC (blk_lt K0.out)
      have k1 := blk_below K1.out hC (blk_lt K1.out)
      have k2 := blk_below K2.out hC (blk_lt K2.out)
      clear hC K0 K1 K2 B
      have hlo := overTo_len (budL zs) (List.replicate 8 0) kk
      have c2 := blk_int k2 (i := kk) (by rw [hlo]; simpa using hlt)
      have f2 := blk_free k2 kk
      generalize hs : budL zs kk = s at *
      have HS := Lib.hid hs
      have F0 := Lib.hid k0
      have F1 := Lib.hid k1
      have F2 := Lib.hid k2
      clear hs k0 k1 k2
      go_wp2_with fail
      go_roundg (8 - (kk + 1))
      case measure => omega
      case rel =>
        refine ⟨kk + 1, by omega, by omega, by go_num, B2.setCell (p := ⟨_, _, none⟩) (by show w.heap.size ≤ w.heap.size + 1 + 1; omega) _, blk_far F0.out (by omega) _, blk_far F1.out (by omega) _, ?_⟩
        have h := blk_set_int F2.out kk s
        rw [overTo_succ (by rw [← HS.out]) (by simpa using hlt)] at h
        exact h
    · have hltz : ¬ (kk : Int) < 8 := by omega
      have : kk = 8 := by omega
      subst this
      have k1 := K1.out
      have k2 := K2.out
      rw [overTo_all (by simp), show (List.range 8).map (budL zs) = budsL zs from rfl] at k2
      have hls := budsL_len zs
      have hsz := B.out.size
      clear K0 K1 K2
      go_wp2_with (first | (refine wpList_load_row rfl 37 _ rfl (w.heap.size + 2) rfl 37 (ints (budsL zs)) (0, 0) _ k2 Try.underlying37 rfl (by rw [ints_size, hls]; kernel_rfl) ?_) | (refine wpList_store_blk rfl 37 _ _ rfl (w.heap.size + 1) 37 _ (ints (budsL zs)) rfl rfl k1 (by rw [ints_size, ints_size, hls]; simp) (by rw [ints_size, hls]; kernel_rfl) (ints_one _) ?_; intro w2 n0 hg))
      exact bodyPost_ret (results_cell_row rfl _ _ (w.heap.size + 1) 37 (ints (budsL zs)) (0, 0) _ rfl n0 Try.underlying37 rfl (by rw [ints_size, hls]; kernel_rfl)) rfl ⟨rfl, below_grown B.out hg hsz (by omega)⟩

theorem moves_away (s : List Int) (b : Int) (w : World) (hl : s.length = 8) (hi : ∀ z ∈ s, -9223372036854775808 ≤ z ∧ z ≤ 9223372036854775807) (hr : (rightB s && decide (0 ≤ b) && decide (b < 8)) = false) :
    Calls Try.prog 37 #[.agg (ints s), .int .i64 b] w fun e w' => e = .returned (.int .i64 0) ∧ Below w.heap.size w w' := by
  have b0 := blk_new w 37 (ints s)
  have hA := (Below.refl _ w).alloc (Nat.le_refl _) (.cells (ints s) 37)
  have cm := fun W => maskMay_calls s b W hl hi
  rw [hr] at cm
  clear hr hi
  go_enter Try.func37, Try.ntmps37
  go_wp2_with (first | (refine wpList_load_row rfl 37 _ rfl w.heap.size rfl 37 (ints s) (0, 0) _ b0 Try.underlying37 rfl (by rw [ints_size, hl]; kernel_rfl) ?_))
  refine (cm _).mono ?_
  rintro e w1 ⟨rfl, hB⟩
  have hE := bnext hA hB
  go_wp2_with fail
  go_ret
  exact ⟨rfl, hE⟩

theorem right_in {s : List Int} (hr : rightB s = true) : ∀ z ∈ s, -9223372036854775808 ≤ z ∧ z ≤ 9223372036854775807 := by
  intro z hz
  obtain ⟨i, hi, rfl⟩ := List.mem_iff_getElem.1 hz
  have := right_get hr i
  rw [List.getD_eq_getElem?_getD, List.getElem?_eq_getElem hi, Option.getD_some] at this
  omega
def movesL (s : List Int) (b : Nat) : Int := budL s b / 2 ^ (s.getD b 0).toNat

set_option maxHeartbeats 2000000 in
theorem moves_calls (s : List Int) (b : Nat) (w : World) (hl : s.length = 8) (hr : rightB s = true) (hb : b < 8) :
    Calls Try.prog 37 #[.agg (ints s), .int .i64 b] w fun e w' => e = .returned (.int .i64 (movesL s b)) ∧ Below w.heap.size w w' := by
  have b0 := blk_new w 37 (ints s)
  have hA := (Below.refl _ w).alloc (Nat.le_refl _) (.cells (ints s) 37)
  have cm := fun W => maskMay_calls s b W hl (right_in hr)
  rw [hr, show (true && decide (0 ≤ (b : Int)) && decide ((b : Int) < 8)) = true by simp; omega] at cm
  have cb := fun W => budget_calls s b W hl hr hb
  have hg := right_get hr b
  have hbz : (b : Int) < 8 := by omega
  have hb0 : 0 ≤ (b : Int) := by omega
  have HM := Lib.hid (show movesL s b = budL s b / 2 ^ (s.getD b 0).toNat from rfl)
  obtain ⟨n, hn⟩ : ∃ n : Nat, s.getD b 0 = n := ⟨(s.getD b 0).toNat, by omega⟩
  have c0 : (w.alloc (.cells (ints s) 37)).cell? ⟨w.heap.size, b, none⟩ = some (.int .i64 n) := by rw [← hn]; exact blk_int b0 (by omega)
  rw [hn] at hg
  have HM2 := Lib.hid (show movesL s b = budL s b / 2 ^ n by rw [HM.out, hn]; rfl)
  have hn0 : 0 ≤ (n : Int) := by omega
  have hn64 : (n : Int) ≤ 64 := by omega
  clear hn HM
  generalize budL s b = bud at *
  clear hr
  go_enter Try.func37, Try.ntmps37
  go_wp2_with (first | (refine wpList_load_row rfl 37 _ rfl w.heap.size rfl 37 (ints s) (0, 0) _ b0 Try.underlying37 rfl (by rw [ints_size, hl]; kernel_rfl) ?_))
  refine (cm _).mono ?_
  rintro e w1 ⟨rfl, hB⟩
  have hE := bnext hA hB
  have k0 := blk_below b0 hB (blk_lt b0)
  have k1 : w1.cell? ⟨w.heap.size, b, none⟩ = some (.int .i64 n) := (hB.cell (p := ⟨w.heap.size, b, none⟩) (blk_lt b0)).trans c0
  have K1 := Lib.hid k1
  clear hA hB b0 c0 cm k1
  have hu := Try.underlying37
  have hi : (Try.prog.info? 37).map (·.size) = some (s.map (Value.int .i64)).length := by rw [List.length_map, hl]; kernel_rfl
  simp only [ints] at cb
  go_wp2_with fail
  refine wp_region_held_drew (S := (fun W => Blk W w.heap.size 37 (ints s) ∧ W.cell? ⟨w.heap.size, b, none⟩ = some (.int .i64 n) ∧ Below w.heap.size w W)) (by kernel_rfl) ⟨blk_drew k0, K1.out, hE.drew⟩ (fun hHeld => ?_)
  refine wpAnyH_take (i := 0) (oi := ⟨_, _, _, _, _, _⟩) (v := _) rfl (by kernel_rfl) (by kernel_rfl) (by kernel_rfl) (fun _ _ _ h => h) (yieldsIf_load_mid (by rfl) _ _ rfl _ _ rfl _ _ (fun _ h => range_whole h.1) hu rfl hi) (by assumption) ?_
  try simp only [Act.put, List.setIfInBounds_toArray, List.set_cons_zero, List.set_cons_succ]
  refine wpAnyH_take (i := 1) (oi := ⟨_, _, _, _, _, _⟩) (v := ?_) rfl (by kernel_rfl) (by kernel_rfl) (by kernel_rfl) (fun _ _ _ h => h) (Or.inl ⟨by rfl, ?_⟩) (by assumption) ?_
  rotate_left
  · intro W hSw
    try dsimp only at hSw
    go_simp
    try with_reducible rfl
  try simp only [Act.put, List.setIfInBounds_toArray, List.set_cons_zero, List.set_cons_succ]
  refine wpAnyH_take (i := 3) (oi := ⟨_, _, _, _, _, _⟩) (v := ?_) rfl (by kernel_rfl) (by kernel_rfl) (by kernel_rfl) (fun _ _ _ h => h) (Or.inl ⟨by rfl, ?_⟩) (by assumption) ?_
  rotate_left
  · intro W hSw
    try dsimp only at hSw
    go_simp
    try with_reducible rfl
  try simp only [Act.put, List.setIfInBounds_toArray, List.set_cons_zero, List.set_cons_succ]
  refine wpAnyH_take (i := 4) (oi := ⟨_, _, _, _, _, _⟩) (v := ?_) rfl (by kernel_rfl) (by kernel_rfl) (by kernel_rfl) (fun _ _ _ h => h) (Or.inl ⟨by rfl, ?_⟩) (by assumption) ?_
  rotate_left
  · intro W hSw
    try dsimp only at hSw
    go_simp
    try with_reducible rfl
  try simp only [Act.put, List.setIfInBounds_toArray, List.set_cons_zero, List.set_cons_succ]
  refine wpAnyH_take (i := 5) (oi := ⟨_, _, _, _, _, _⟩) (v := ?_) rfl (by kernel_rfl) (by kernel_rfl) (by kernel_rfl) (fun _ _ _ h => h) (Or.inl ⟨by rfl, ?_⟩) (by assumption) ?_
  rotate_left
  · intro W hSw
    try dsimp only at hSw
    go_simp
    try with_reducible rfl
  try simp only [Act.put, List.setIfInBounds_toArray, List.set_cons_zero, List.set_cons_succ]
  refine wpAnyH_ready (rs := [2]) (by kernel_rfl) (by simp) ?_
  refine AllReadyH.cons (o := ⟨_, _, _, _, _, _⟩) rfl (fun K hK => ?_) AllReadyH.nil
  go_simp
  refine (cb _).mono ?_
  rintro e w' ⟨rfl, hC⟩
  go_simp
  refine hK.out _ _ ⟨blk_below hHeld.1 hC (blk_lt hHeld.1), (hC.cell (p := ⟨w.heap.size, b, none⟩) (blk_lt hHeld.1)).trans hHeld.2.1, bnext hHeld.2.2 hC⟩ (fun hHeld => ?_)
  clear hK K
  try simp only [Act.put, List.setIfInBounds_toArray, List.set_cons_zero, List.set_cons_succ]
  refine wpAnyH_take (i := 6) (oi := ⟨_, _, _, _, _, _⟩) (v := ?_) rfl (by kernel_rfl) (by kernel_rfl) (by kernel_rfl) (fun _ _ _ h => h) (Or.inl ⟨by rfl, ?_⟩) (by assumption) ?_
  rotate_left
  · intro W hSw
    try dsimp only at hSw
    go_simp
    try with_reducible rfl
  try simp only [Act.put, List.setIfInBounds_toArray, List.set_cons_zero, List.set_cons_succ]
  refine wpAnyH_take (i := 7) (oi := ⟨_, _, _, _, _, _⟩) (v := ?_) rfl (by kernel_rfl) (by kernel_rfl) (by kernel_rfl) (fun _ _ _ h => h) (Or.inl ⟨by rfl, ?_⟩) (by assumption) ?_
  rotate_left
  · intro W hSw
    try dsimp only at hSw
    go_simp
    try with_reducible rfl
  try simp only [Act.put, List.setIfInBounds_toArray, List.set_cons_zero, List.set_cons_succ]
  refine wpAnyH_done (by kernel_rfl) ?_ _
  have hF := hHeld.2.2
  clear hHeld
  go_wp2_with fail
  go_ret
  exact ⟨ret_i64 (by rw [HM2.out]), hF⟩

theorem far_held {y z : Int} (hy : -9223372036854775808 ≤ y ∧ y ≤ 9223372036854775807) (hz : -9223372036854775808 ≤ z ∧ z ≤ 9223372036854775807)
    (h1 : ¬ 1048576 < max y (max (IntKind.i64.wrap (-y)) (max z (IntKind.i64.wrap (-z))))) (h2 : ¬ min y z < -1048576) : -1048576 ≤ y ∧ y ≤ 1048576 ∧ -1048576 ≤ z ∧ z ≤ 1048576 := by
  rw [IntKind.wrap_i64, IntKind.wrap_i64] at h1
  omega
theorem far_great {y z : Int} (hy : -9223372036854775808 ≤ y ∧ y ≤ 9223372036854775807) (hz : -9223372036854775808 ≤ z ∧ z ≤ 9223372036854775807)
    (h : 1048576 < max y (max (IntKind.i64.wrap (-y)) (max z (IntKind.i64.wrap (-z)))) ∨ min y z < -1048576) : ¬ (-1048576 ≤ y ∧ y ≤ 1048576 ∧ -1048576 ≤ z ∧ z ≤ 1048576) := by
  rw [IntKind.wrap_i64, IntKind.wrap_i64] at h
  omega
theorem greatB_not {y z : Int} : (!greatB y && !greatB z) = decide (-1048576 ≤ y ∧ y ≤ 1048576 ∧ -1048576 ≤ z ∧ z ≤ 1048576) := by
  rw [Bool.eq_iff_iff]
  simp [greatB]
  omega

set_option maxHeartbeats 2000000 in
theorem far_calls (ys zs : List Int) (w : World) (hly : ys.length = 4) (hlz : zs.length = 4) (hiy : ∀ z ∈ ys, -9223372036854775808 ≤ z ∧ z ≤ 9223372036854775807) (hiz : ∀ z ∈ zs, -9223372036854775808 ≤ z ∧ z ≤ 9223372036854775807) :
    Calls Try.prog 38 #[.agg (ints ys), .agg (ints zs)] w fun e w' => e = .returned (.int .i64 (farL ys zs)) ∧ Below w.heap.size w w' := by
  have b0 := blk_alloc (blk_new w 69 (ints ys)) (.cells (ints zs) 69)
  have b1 := blk_new (w.alloc (.cells (ints ys) 69)) 69 (ints zs)
  rw [show (w.alloc (.cells (ints ys) 69)).heap.size = w.heap.size + 1 by simp] at b1
  have hA : Below w.heap.size w ((w.alloc (.cells (ints ys) 69)).alloc (.cells (ints zs) 69)) := ((Below.refl _ w).alloc (Nat.le_refl _) _).alloc (by simp) _
  have B0 := Lib.hid b0
  have B1 := Lib.hid b1
  have HY := Lib.hid hiy
  have HZ := Lib.hid hiz
  clear b0 b1 hiy hiz
  go_enter Try.func38, Try.ntmps38
  go_wp2_with fail
  go_loopg [5, 7] 4 (fun gg s5 s7 wr => ∃ kk : Nat, kk ≤ 4 ∧ 4 - kk ≤ gg ∧ s7 = .int .i64 kk ∧ s5 = .int .i64 (farTo ys zs kk) ∧ Aside (Below w.heap.size w wr) ∧ Aside (Blk wr w.heap.size 69 (ints ys) ∧ Blk wr (w.heap.size + 1) 69 (ints zs)) ∧ Aside (heldTo ys zs kk = true))
  case atStart => exact ⟨0, Nat.zero_le _, by omega, rfl, rfl, hA, ⟨B0.out, B1.out⟩, rfl⟩
  case round =>
    clear hA B0 B1
    obtain ⟨kk, hkk, hgk, rfl, rfl, B, K, H⟩ := hrel
    by_cases hlt : kk < 4
    · have hltz : (kk : Int) < 4 := by omega
      have hk0 : 0 ≤ (kk : Int) := by omega
      have cy := blk_int K.out.1 (i := kk) (by omega)
      have cz := blk_int K.out.2 (i := kk) (by omega)
      have hy := HY.out (ys.getD kk 0) (by rw [List.getD_eq_getElem?_getD, List.getElem?_eq_getElem (by omega)]; exact List.getElem_mem (by omega))
      have hz := HZ.out (zs.getD kk 0) (by rw [List.getD_eq_getElem?_getD, List.getElem?_eq_getElem (by omega)]; exact List.getElem_mem (by omega))
      have hfb := farTo_bd H.out
      have hsu := Lib.hid (heldTo_succ ys zs kk)
      have hfu := Lib.hid (show farTo ys zs (kk + 1) = farTo ys zs kk + gapZ (ys.getD kk 0) (zs.getD kk 0) from rfl)
      generalize ys.getD kk 0 = y at *
      generalize zs.getD kk 0 = z at *
      generalize farTo ys zs kk = n at *
      have fh := far_held hy hz
      have fg := far_great hy hz
      have FH := Lib.hid fh
      have FG := Lib.hid fg
      clear fh fg
      generalize hY : IntKind.i64.wrap (-y) = y' at *
      generalize hZ : IntKind.i64.wrap (-z) = z' at *
      by_cases h1 : 1048576 < max y (max y' (max z z'))
      · have hres : farL ys zs = -1 := by
          unfold farL
          rw [if_neg]
          have : heldTo ys zs (kk + 1) = false := by rw [hsu.out, greatB_not, H.out, decide_eq_false (FG.out (Or.inl h1))]; rfl
          rw [heldTo_le (by omega) this]
          decide
        have HRES := Lib.hid hres
        clear hres FH FG
        generalize hm : max y (max y' (max z z')) = m at *
        go_wp2_with fail
        go_quiet (fail)
        go_wp2_with fail
        go_ret
        exact ⟨ret_i64 HRES.out.symm, below_draws B.out nq⟩
      · by_cases h2 : min y z < -1048576
        · have hres : farL ys zs = -1 := by
            unfold farL
            rw [if_neg]
            have : heldTo ys zs (kk + 1) = false := by rw [hsu.out, greatB_not, H.out, decide_eq_false (FG.out (Or.inr h2))]; rfl
            rw [heldTo_le (by omega) this]
            decide
          have HRES := Lib.hid hres
          clear hres FH FG
          generalize hm : max y (max y' (max z z')) = m at *
          generalize hm2 : min y z = m2 at *
          have h1' : m ≤ 1048576 := by omega
          go_wp2_with fail
          go_quiet (fail)
          go_wp2_with fail
          go_ret
          exact ⟨ret_i64 HRES.out.symm, below_draws B.out nq⟩
        · have hb := FH.out h1 h2
          have hresd : heldTo ys zs (kk + 1) = true := by rw [hsu.out, greatB_not, H.out, decide_eq_true hb]; rfl
          have HRES := Lib.hid hresd
          have hw1 : IntKind.i64.wrap (y - z) = y - z := IntWalk.i64_in _ ⟨by omega, by omega⟩
          have hw2 : IntKind.i64.wrap (z - y) = z - y := IntWalk.i64_in _ ⟨by omega, by omega⟩
          have hg := gapZ_nonneg y z
          have hg2 : gapZ y z ≤ 2097152 := by unfold gapZ; omega
          have hw3 : IntKind.i64.wrap (n + gapZ y z) = n + gapZ y z := IntWalk.i64_in _ ⟨by omega, by omega⟩
          have hgz : max (y - z) (z - y) = gapZ y z := rfl
          clear hresd FH FG hsu
          have h1m : max y (max y' (max z z')) ≤ 1048576 := by omega
          have h2m : -1048576 ≤ min y z := by omega
          clear h1 h2 hb
          generalize hm : max y (max y' (max z z')) = m at *
          generalize hm2 : min y z = m2 at *
          generalize hgg : gapZ y z = q at *
          have HGG := Lib.hid hgg
          clear hgg
          go_wp2_with fail
          go_quiet (fail)
          have h := K.out
          have BB := Lib.hid (below_draws B.out nq)
          have KK := Lib.hid (show Blk (wr.drewN nq) w.heap.size 69 (ints ys) ∧ Blk (wr.drewN nq) (w.heap.size + 1) 69 (ints zs) from ⟨blk_draws h.1 nq, blk_draws h.2 nq⟩)
          have cy' : (wr.drewN nq).cell? ⟨w.heap.size, kk, none⟩ = some (.int .i64 y) := cy
          have cz' : (wr.drewN nq).cell? ⟨w.heap.size + 1, kk, none⟩ = some (.int .i64 z) := cz
          clear cy cz hm hm2 hY hZ B K h
          generalize wr.drewN nq = w2 at *
          go_wp2_with fail
          go_quiet (fail)
          have BB2 := Lib.hid (below_draws BB.out nq)
          have h := KK.out
          have KK2 := Lib.hid (show Blk (w2.drewN nq) w.heap.size 69 (ints ys) ∧ Blk (w2.drewN nq) (w.heap.size + 1) 69 (ints zs) from ⟨blk_draws h.1 nq, blk_draws h.2 nq⟩)
          clear BB KK h cy' cz' hw1 hw2 hw3 hgz
          go_wp2_with fail
          go_roundg (4 - (kk + 1))
          case measure => omega
          case rel => exact ⟨kk + 1, by omega, by omega, by go_num, by rw [hfu.out], BB2.out, KK2.out, HRES.out⟩
    · have hltz : ¬ (kk : Int) < 4 := by omega
      obtain rfl : kk = 4 := by omega
      have hres := Lib.hid (show farL ys zs = farTo ys zs 4 by unfold farL; rw [H.out, if_pos rfl])
      go_wp2_with fail
      go_ret
      exact ⟨ret_i64 hres.out.symm, B.out⟩
end Go.Proofs.Ytnmhbonheaoldaa
