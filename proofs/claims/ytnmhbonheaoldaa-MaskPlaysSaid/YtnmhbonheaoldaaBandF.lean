/- The walk of layer 16's statement BandClamps. -/
import Derived.Test.YtnmhbonheaoldaaBandE
import Derived.Test.YtnmhbonheaoldaaBandC
import Derived.Test.YtnmhbonheaoldaaEqI
import Derived.Deep.RegionWith
import Derived.Deep.RegionHeld3
import Derived.Deep.DrawnRows
namespace Go.Proofs.Ytnmhbonheaoldaa
open Go.RowKit
attribute [local go_sem ↓] Go.wp_at_zero Go.wp_at_succ

theorem i64_all {zs : List Int} (h : ∀ z ∈ zs, (Lit.int .i64 z).wf = true) : ∀ z ∈ zs, -9223372036854775808 ≤ z ∧ z ≤ 9223372036854775807 := fun z hz => i64_bounds (h z hz)

/-- the first k numbers are in their range -/
def inTo (zs : List Int) (k : Nat) : Bool := (List.range k).all fun i => decide (-1048576 ≤ zs.getD i 0) && decide (zs.getD i 0 ≤ 1048576)
theorem inTo_zero (zs : List Int) : inTo zs 0 = true := rfl
theorem inTo_succ (zs : List Int) (k : Nat) : inTo zs (k + 1) = (inTo zs k && (decide (-1048576 ≤ zs.getD k 0) && decide (zs.getD k 0 ≤ 1048576))) := by
  simp [inTo, List.range_succ]
theorem inTo_all {zs : List Int} (hl : zs.length = 32) : inTo zs 32 = decide (zs.map clampZ = zs) := by
  rw [Bool.eq_iff_iff, decide_eq_true_iff, clampL_id]
  simp only [inTo, List.all_eq_true, List.mem_range, Bool.and_eq_true, decide_eq_true_eq]
  constructor
  · intro h z hz
    obtain ⟨i, hi, rfl⟩ := List.mem_iff_getElem.1 hz
    have := h i (by omega)
    simpa [List.getD_eq_getElem?_getD, List.getElem?_eq_getElem hi] using this
  · intro h i hi
    have := h (zs.getD i 0) (by rw [List.getD_eq_getElem?_getD, List.getElem?_eq_getElem (by omega)]; exact List.getElem_mem (by omega))
    exact this

theorem stepsL_right (zs : List Int) : rightB (stepsL zs) = true := by
  simp only [rightB, Bool.not_eq_true', List.any_eq_false, Bool.not_eq_true, Bool.or_eq_false_iff, decide_eq_false_iff_not]
  intro x hx
  simp only [stepsL, List.mem_map, List.mem_range] at hx
  obtain ⟨b, _, rfl⟩ := hx
  have := stepL_le (bandL zs b)
  omega
theorem stepsL_in (zs : List Int) : ∀ z ∈ stepsL zs, -9223372036854775808 ≤ z ∧ z ≤ 9223372036854775807 := by
  intro x hx
  simp only [stepsL, List.mem_map, List.mem_range] at hx
  obtain ⟨b, _, rfl⟩ := hx
  have := stepL_le (bandL zs b)
  omega

set_option maxHeartbeats 4000000 in
theorem bandClamps_walk (a0 : List Int) (l0 : a0.length = 32) (w0 : ∀ z ∈ a0, (Lit.int .i64 z).wf = true) (w : World) : Calls Try.prog 11 #[.agg (a0.map (Value.int .i64)).toArray] w (LawTrue w) := by
  have b0 := blk_new w 31 (ints a0)
  have hA := (Below.refl _ w).alloc (Nat.le_refl _) (.cells (ints a0) 31)
  have hall := i64_all w0
  have hly : (a0.map clampZ).length = 32 := by rw [List.length_map, l0]
  have cl0 := fun W => clamp_calls a0 W l0
  have cl1 := fun W => clamp_calls (a0.map clampZ) W hly
  rw [clampL_twice] at cl1
  have cst := fun W => steps_calls a0 W l0 hall
  have crt := fun W => right_calls (stepsL a0) W (by simp [stepsL]) (stepsL_in a0)
  rw [stepsL_right] at crt
  have e0 := fun W => eq_frames hly hly W
  rw [decide_eq_true rfl] at e0
  have e1 := fun W => eq_frames hly l0 W
  rw [← inTo_all l0] at e1
  generalize hy : a0.map clampZ = y at *
  clear hy w0 hall
  rw [show (a0.map (Value.int .i64)).toArray = ints a0 from rfl]
  go_enter Try.func11, Try.ntmps11
  go_wp2_with fail
  refine (awake16_calls _).mono ?_
  rintro e w1 ⟨rfl, hB⟩
  have k0 := blk_below b0 hB (blk_lt b0)
  have B0 := bnext hA hB
  clear b0 hA hB
  go_wp2_with (first | (refine wpList_load_row rfl 31 _ rfl w.heap.size rfl 31 (ints a0) (0, 0) _ k0 Try.underlying31 rfl (by rw [ints_size, l0]; kernel_rfl) ?_))
  refine (cl0 _).mono ?_
  rintro e w2 ⟨rfl, hC⟩
  have k1 := blk_below k0 hC (blk_lt k0)
  have B1 := bnext B0 hC
  clear k0 hC B0 cl0
  go_wp2_with (first | (refine wpList_store_blk rfl 32 _ _ rfl w2.heap.size 32 _ (ints y) rfl rfl (blk_new w2 32 #[Value.int .i64 0, Value.int .i64 0, Value.int .i64 0, Value.int .i64 0, Value.int .i64 0, Value.int .i64 0, Value.int .i64 0, Value.int .i64 0, Value.int .i64 0, Value.int .i64 0, Value.int .i64 0, Value.int .i64 0, Value.int .i64 0, Value.int .i64 0, Value.int .i64 0, Value.int .i64 0, Value.int .i64 0, Value.int .i64 0, Value.int .i64 0, Value.int .i64 0, Value.int .i64 0, Value.int .i64 0, Value.int .i64 0, Value.int .i64 0, Value.int .i64 0, Value.int .i64 0, Value.int .i64 0, Value.int .i64 0, Value.int .i64 0, Value.int .i64 0, Value.int .i64 0, Value.int .i64 0]) (by rw [ints_size, hly]; rfl) (by rw [ints_size, hly]; kernel_rfl) (ints_one _) ?_; intro w3 n0 hg))
  have hs := B1.size
  have lt0 := blk_lt k1
  have B2 := below_grown (B1.alloc hs (.cells #[Value.int .i64 0, Value.int .i64 0, Value.int .i64 0, Value.int .i64 0, Value.int .i64 0, Value.int .i64 0, Value.int .i64 0, Value.int .i64 0, Value.int .i64 0, Value.int .i64 0, Value.int .i64 0, Value.int .i64 0, Value.int .i64 0, Value.int .i64 0, Value.int .i64 0, Value.int .i64 0, Value.int .i64 0, Value.int .i64 0, Value.int .i64 0, Value.int .i64 0, Value.int .i64 0, Value.int .i64 0, Value.int .i64 0, Value.int .i64 0, Value.int .i64 0, Value.int .i64 0, Value.int .i64 0, Value.int .i64 0, Value.int .i64 0, Value.int .i64 0, Value.int .i64 0, Value.int .i64 0] 32)) hg (by simp; omega) (by omega)
  have k2 := blk_grown (blk_alloc k1 (.cells #[Value.int .i64 0, Value.int .i64 0, Value.int .i64 0, Value.int .i64 0, Value.int .i64 0, Value.int .i64 0, Value.int .i64 0, Value.int .i64 0, Value.int .i64 0, Value.int .i64 0, Value.int .i64 0, Value.int .i64 0, Value.int .i64 0, Value.int .i64 0, Value.int .i64 0, Value.int .i64 0, Value.int .i64 0, Value.int .i64 0, Value.int .i64 0, Value.int .i64 0, Value.int .i64 0, Value.int .i64 0, Value.int .i64 0, Value.int .i64 0, Value.int .i64 0, Value.int .i64 0, Value.int .i64 0, Value.int .i64 0, Value.int .i64 0, Value.int .i64 0, Value.int .i64 0, Value.int .i64 0] 32)) hg (by simp; omega)
  clear k1 B1 hg hs
  generalize w2.heap.size = g at *
  have K0 := Lib.hid k2
  have N0 := Lib.hid n0
  have E0 := Lib.hid e0
  have E1 := Lib.hid e1
  clear k2 n0 e0 e1
  go_wp2_with fail
  go_loopg [4, 5] 32 (fun gg s4 s5 wr => ∃ kk : Nat, ∃ bb : Bool, kk ≤ 32 ∧ 32 - kk ≤ gg ∧ s5 = .int .i64 kk ∧ s4 = .bool bb ∧ Aside (inTo a0 kk = bb) ∧ Aside (wr = w3))
  case atStart => exact ⟨0, true, Nat.zero_le _, by omega, rfl, rfl, rfl, rfl⟩
  case round =>
    obtain ⟨kk, bb, hkk, hgk, rfl, rfl, hI, hW⟩ := hrel
    obtain rfl := hW.out
    clear hW
    by_cases hlt : kk < 32
    · have hltz : (kk : Int) < 32 := by omega
      have c0 := blk_int K0.out (i := kk) (by omega)
      have hsu := Lib.hid (inTo_succ a0 kk)
      generalize hs : a0.getD kk 0 = s at *
      have HS := Lib.hid hs
      clear hs
      cases bb
      · go_wp2_with fail
        go_roundg (32 - (kk + 1))
        case measure => omega
        case rel =>
          have hres : inTo a0 (kk + 1) = false := by rw [hsu.out, hI.out]; rfl
          exact ⟨kk + 1, false, by omega, by omega, by go_num, rfl, hres, rfl⟩
      · by_cases h1 : -1048576 ≤ s
        · by_cases h2 : s ≤ 1048576
          · go_wp2_with fail
            go_roundg (32 - (kk + 1))
            case measure => omega
            case rel =>
              have hres : inTo a0 (kk + 1) = true := by rw [hsu.out, hI.out]; simp [h1, h2]
              exact ⟨kk + 1, true, by omega, by omega, by go_num, rfl, hres, rfl⟩
          · go_wp2_with fail
            go_roundg (32 - (kk + 1))
            case measure => omega
            case rel =>
              have hres : inTo a0 (kk + 1) = false := by rw [hsu.out, hI.out]; simp; omega
              exact ⟨kk + 1, false, by omega, by omega, by go_num, rfl, hres, rfl⟩
        · go_wp2_with fail
          go_roundg (32 - (kk + 1))
          case measure => omega
          case rel =>
              have hres : inTo a0 (kk + 1) = false := by rw [hsu.out, hI.out]; simp; omega
              exact ⟨kk + 1, false, by omega, by omega, by go_num, rfl, hres, rfl⟩
    · have hltz : ¬ (kk : Int) < 32 := by omega
      obtain rfl : kk = 32 := by omega
      have e0 := E0.out
      have e1 := E1.out
      rw [hI.out] at e1
      have r0 := range_whole K0.out
      have r1 := range_whole N0.out
      have hlt1 := blk_lt N0.out
      have hu0 := Try.underlying31
      have hu1 := Try.underlying32
      have hi0 : (Try.prog.info? 31).map (·.size) = some (a0.map (Value.int .i64)).length := by rw [List.length_map, l0]; kernel_rfl
      have hi1 : (Try.prog.info? 32).map (·.size) = some (y.map (Value.int .i64)).length := by rw [List.length_map, hly]; kernel_rfl
      clear E0 E1 K0 N0 hI hltz hgk hkk
      simp only [ints] at cl1 cst crt e0 e1
      go_wp2_with fail
      refine wp_region_held_drew (S := (fun W => W.rangeAt g 0 (y.map (Value.int .i64)) ∧ W.rangeAt w.heap.size 0 (a0.map (Value.int .i64)) ∧ Below w.heap.size w W ∧ g + 1 ≤ W.heap.size)) (by kernel_rfl) ⟨(World.rangeAt_drew _ _ _ _).2 r1, (World.rangeAt_drew _ _ _ _).2 r0, B2.drew, hlt1⟩ (fun hHeld => ?_)
      refine wpAnyH_take (i := 0) (oi := ⟨_, _, _, _, _, _⟩) (v := _) rfl (by kernel_rfl) (by kernel_rfl) (by kernel_rfl) (fun _ _ _ h => h) (yieldsIf_load_mid (by rfl) _ _ rfl _ _ rfl _ _ (fun _ h => h.1) hu1 rfl hi1) (by assumption) ?_
      try simp only [Act.put, List.setIfInBounds_toArray, List.set_cons_zero, List.set_cons_succ]
      refine wpAnyH_take (i := 2) (oi := ⟨_, _, _, _, _, _⟩) (v := _) rfl (by kernel_rfl) (by kernel_rfl) (by kernel_rfl) (fun _ _ _ h => h) (yieldsIf_load_mid (by rfl) _ _ rfl _ _ rfl _ _ (fun _ h => h.1) hu1 rfl hi1) (by assumption) ?_
      try simp only [Act.put, List.setIfInBounds_toArray, List.set_cons_zero, List.set_cons_succ]
      refine wpAnyH_ready (rs := [1]) (by kernel_rfl) (by simp) ?_
      refine AllReadyH.cons (o := ⟨_, _, _, _, _, _⟩) rfl (fun K hK => ?_) AllReadyH.nil
      go_simp
      refine (cl1 _).mono ?_
      rintro e w' ⟨rfl, hC⟩
      go_simp
      refine hK.out _ _ ⟨range_keep hHeld.1 hC (by omega), range_keep hHeld.2.1 hC (by omega), bnext hHeld.2.2.1 hC, Nat.le_trans hHeld.2.2.2 hC.size⟩ (fun hHeld => ?_)
      clear hK K
      try simp only [Act.put, List.setIfInBounds_toArray, List.set_cons_zero, List.set_cons_succ]
      refine wpAnyH_take (i := 3) (oi := ⟨_, _, _, _, _, _⟩) (v := ?_) rfl (by kernel_rfl) (by kernel_rfl) (by kernel_rfl) (fun _ _ _ h => h) (Or.inl ⟨by rfl, ?_⟩) (by assumption) ?_
      rotate_left
      · intro W hSw
        try dsimp only at hSw
        go_simp
        try with_reducible rfl
      try simp only [Act.put, List.setIfInBounds_toArray, List.set_cons_zero, List.set_cons_succ]
      refine wpAnyH_take (i := 4) (oi := ⟨_, _, _, _, _, _⟩) (v := ?_) rfl (by kernel_rfl) (by kernel_rfl) (by kernel_rfl) (fun _ _ _ h => h) (Or.inl ⟨by rfl, ?_⟩) (by assumption) ?_
      rotate_left
      · intro W hSw
        try dsimp only at hSw
        go_simp
        try with_reducible rfl
      try simp only [Act.put, List.setIfInBounds_toArray, List.set_cons_zero, List.set_cons_succ]
      refine wpAnyH_take (i := 5) (oi := ⟨_, _, _, _, _, _⟩) (v := _) rfl (by kernel_rfl) (by kernel_rfl) (by kernel_rfl) (fun _ _ _ h => h) (yieldsIf_load_mid (by rfl) _ _ rfl _ _ rfl _ _ (fun _ h => h.1) hu1 rfl hi1) (by assumption) ?_
      try simp only [Act.put, List.setIfInBounds_toArray, List.set_cons_zero, List.set_cons_succ]
      refine wpAnyH_take (i := 6) (oi := ⟨_, _, _, _, _, _⟩) (v := _) rfl (by kernel_rfl) (by kernel_rfl) (by kernel_rfl) (fun _ _ _ h => h) (yieldsIf_load_mid (by rfl) _ _ rfl _ _ rfl _ _ (fun _ h => h.2.1) hu0 rfl hi0) (by assumption) ?_
      try simp only [Act.put, List.setIfInBounds_toArray, List.set_cons_zero, List.set_cons_succ]
      refine wpAnyH_take (i := 7) (oi := ⟨_, _, _, _, _, _⟩) (v := ?_) rfl (by kernel_rfl) (by kernel_rfl) (by kernel_rfl) (fun _ _ _ h => h) (Or.inl ⟨by rfl, ?_⟩) (by assumption) ?_
      rotate_left
      · intro W hSw
        try dsimp only at hSw
        go_simp
        try with_reducible rfl
      try simp only [Act.put, List.setIfInBounds_toArray, List.set_cons_zero, List.set_cons_succ]
      refine wpAnyH_take (i := 8) (oi := ⟨_, _, _, _, _, _⟩) (v := ?_) rfl (by kernel_rfl) (by kernel_rfl) (by kernel_rfl) (fun _ _ _ h => h) (Or.inl ⟨by rfl, ?_⟩) (by assumption) ?_
      rotate_left
      · intro W hSw
        try dsimp only at hSw
        go_simp
        try with_reducible rfl
      try simp only [Act.put, List.setIfInBounds_toArray, List.set_cons_zero, List.set_cons_succ]
      refine wpAnyH_take (i := 9) (oi := ⟨_, _, _, _, _, _⟩) (v := ?_) rfl (by kernel_rfl) (by kernel_rfl) (by kernel_rfl) (fun _ _ _ h => h) (Or.inl ⟨by rfl, ?_⟩) (by assumption) ?_
      rotate_left
      · intro W hSw
        try dsimp only at hSw
        go_simp
        try with_reducible rfl
      try simp only [Act.put, List.setIfInBounds_toArray, List.set_cons_zero, List.set_cons_succ]
      refine wpAnyH_take (i := 10) (oi := ⟨_, _, _, _, _, _⟩) (v := ?_) rfl (by kernel_rfl) (by kernel_rfl) (by kernel_rfl) (fun _ _ _ h => h) (Or.inl ⟨by rfl, ?_⟩) (by assumption) ?_
      rotate_left
      · intro W hSw
        try dsimp only at hSw
        go_simp
        try with_reducible rfl
      try simp only [Act.put, List.setIfInBounds_toArray, List.set_cons_zero, List.set_cons_succ]
      refine wpAnyH_take (i := 11) (oi := ⟨_, _, _, _, _, _⟩) (v := ?_) rfl (by kernel_rfl) (by kernel_rfl) (by kernel_rfl) (fun _ _ _ h => h) (Or.inl ⟨by rfl, ?_⟩) (by assumption) ?_
      rotate_left
      · intro W hSw
        try dsimp only at hSw
        go_simp
        try with_reducible rfl
      try simp only [Act.put, List.setIfInBounds_toArray, List.set_cons_zero, List.set_cons_succ]
      refine wpAnyH_take (i := 12) (oi := ⟨_, _, _, _, _, _⟩) (v := _) rfl (by kernel_rfl) (by kernel_rfl) (by kernel_rfl) (fun _ _ _ h => h) (yieldsIf_load_mid (by rfl) _ _ rfl _ _ rfl _ _ (fun _ h => h.2.1) hu0 rfl hi0) (by assumption) ?_
      try simp only [Act.put, List.setIfInBounds_toArray, List.set_cons_zero, List.set_cons_succ]
      refine wpAnyH_ready (rs := [13]) (by kernel_rfl) (by simp) ?_
      refine AllReadyH.cons (o := ⟨_, _, _, _, _, _⟩) rfl (fun K hK => ?_) AllReadyH.nil
      go_simp
      refine (cst _).mono ?_
      rintro e w' ⟨rfl, hC⟩
      go_simp
      refine hK.out _ _ ⟨range_keep hHeld.1 hC (by omega), range_keep hHeld.2.1 hC (by omega), bnext hHeld.2.2.1 hC, Nat.le_trans hHeld.2.2.2 hC.size⟩ (fun hHeld => ?_)
      clear hK K
      try simp only [Act.put, List.setIfInBounds_toArray, List.set_cons_zero, List.set_cons_succ]
      refine wpAnyH_ready (rs := [14]) (by kernel_rfl) (by simp) ?_
      refine AllReadyH.cons (o := ⟨_, _, _, _, _, _⟩) rfl (fun K hK => ?_) AllReadyH.nil
      go_simp
      refine (crt _).mono ?_
      rintro e w' ⟨rfl, hC⟩
      go_simp
      refine hK.out _ _ ⟨range_keep hHeld.1 hC (by omega), range_keep hHeld.2.1 hC (by omega), bnext hHeld.2.2.1 hC, Nat.le_trans hHeld.2.2.2 hC.size⟩ (fun hHeld => ?_)
      clear hK K
      try simp only [Act.put, List.setIfInBounds_toArray, List.set_cons_zero, List.set_cons_succ]
      refine wpAnyH_take (i := 15) (oi := ⟨_, _, _, _, _, _⟩) (v := ?_) rfl (by kernel_rfl) (by kernel_rfl) (by kernel_rfl) (fun _ _ _ h => h) (Or.inl ⟨by rfl, ?_⟩) (by assumption) ?_
      rotate_left
      · intro W hSw
        try dsimp only at hSw
        go_simp
        try with_reducible rfl
      try simp only [Act.put, List.setIfInBounds_toArray, List.set_cons_zero, List.set_cons_succ]
      refine wpAnyH_take (i := 16) (oi := ⟨_, _, _, _, _, _⟩) (v := ?_) rfl (by kernel_rfl) (by kernel_rfl) (by kernel_rfl) (fun _ _ _ h => h) (Or.inl ⟨by rfl, ?_⟩) (by assumption) ?_
      rotate_left
      · intro W hSw
        try dsimp only at hSw
        go_simp
        try with_reducible rfl
      try simp only [Act.put, List.setIfInBounds_toArray, List.set_cons_zero, List.set_cons_succ]
      refine wpAnyH_done (by kernel_rfl) ?_ _
      have hE := hHeld.2.2.1
      clear hHeld
      go_wp2_with fail
      go_ret
      exact ⟨rfl, hE⟩
end Go.Proofs.Ytnmhbonheaoldaa
