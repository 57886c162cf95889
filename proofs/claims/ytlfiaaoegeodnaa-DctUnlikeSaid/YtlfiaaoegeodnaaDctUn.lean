/- The walk of layer 10's statement DctUnlike. -/
import Derived.Test.YtlfiaaoegeodnaaDctLB
import Derived.Test.YtlfiaaoegeodnaaKeep
import Derived.Deep.Cut
namespace Go.Proofs.Ytlfiaaoegeodnaa
open Go.RowKit
attribute [local go_sem ↓] Go.wp_at_zero Go.wp_at_succ

set_option maxHeartbeats 4000000 in
theorem dctUnlike_walk (a0 a1 : List Int) (l0 : a0.length = 32) (w0 : ∀ z ∈ a0, (Lit.int .i64 z).wf = true) (l1 : a1.length = 32) (w1 : ∀ z ∈ a1, (Lit.int .i64 z).wf = true) (w : World) :
    Calls Try.prog 17 #[.agg (a0.map (Value.int .i64)).toArray, .agg (a1.map (Value.int .i64)).toArray] w (LawTrue w) := by
  have h0 := fun W => lawheld_calls a0 W l0 (wf_i64 w0)
  have h1 := fun W => lawheld_calls a1 W l1 (wf_i64 w1)
  have hl0 := modL_len a0
  have hl1 := modL_len a1
  have hin0 := modL_in a0
  have hin1 := modL_in a1
  have c1 := fun W => waves_of hl0 (allIn_mono hin0 (by omega)) W
  have c2 := fun W => waves_of hl1 (allIn_mono hin1 (by omega)) W
  have hd : decide (wavesL (modL a0) = wavesL (modL a1)) = decide (modL a0 = modL a1) := by
    rw [decide_eq_decide]
    constructor
    · intro h
      have := congrArg dbackL h
      rwa [back_waves hl0, back_waves hl1] at this
    · intro h; rw [h]
  have e0 := fun W => equal_frames ((wavesL_len _).trans hl0) ((wavesL_len _).trans hl1) W
  rw [hd] at e0
  have e1 := fun W => equal_frames hl0 hl1 W
  clear hin0 hin1 hd
  have C1 := Lib.hid c1
  have C2 := Lib.hid c2
  have E0 := Lib.hid e0
  have E1 := Lib.hid e1
  clear c1 c2 e0 e1
  generalize decide (modL a0 = modL a1) = d at *
  generalize wavesL (modL a0) = y0 at *
  generalize wavesL (modL a1) = y1 at *
  generalize modL a0 = x0 at *
  generalize modL a1 = x1 at *
  have hk : Keep w [(w.heap.size, 43, ints a0), (w.heap.size + 1, 43, ints a1)] ((w.alloc (.cells (ints a0) 43)).alloc (.cells (ints a1) 43)) := by
    have := keep_new (t := 43) (cs := ints a1) (keep_one (w := w) (t := 43) (cs := ints a0))
    rw [show (w.alloc (.cells (ints a0) 43)).heap.size = w.heap.size + 1 by simp] at this
    exact keep_sub this (by simp)
  have hu := Try.underlying43
  have hi0 : (Try.prog.info? 43).map (·.size) = some (a0.map (Value.int .i64)).length := by rw [List.length_map, l0]; kernel_rfl
  have hi1 : (Try.prog.info? 43).map (·.size) = some (a1.map (Value.int .i64)).length := by rw [List.length_map, l1]; kernel_rfl
  clear w0 w1
  rw [show (a0.map (Value.int .i64)).toArray = ints a0 from rfl, show (a1.map (Value.int .i64)).toArray = ints a1 from rfl]
  go_enter Try.func17, Try.ntmps17
  go_upto_region 1 with (fail)
  go_cut [5, 6] from 7 (fun s5 s6 W => ∃ ga gb, s5 = .pointer (some ⟨ga, 0, none⟩) ∧ s6 = .pointer (some ⟨gb, 0, none⟩) ∧ Aside (Keep w [(ga, 44, ints x0), (gb, 44, ints x1), (w.heap.size, 43, ints a0), (w.heap.size + 1, 43, ints a1)] W))
  case first =>
    simp only [ints] at h0 h1
    refine wp_region_held_drew (S := Keep w ([(w.heap.size, 43, ints a0), (w.heap.size + 1, 43, ints a1)])) (by kernel_rfl) (keep_drew hk) (fun hHeld => ?_)
    refine wpAnyH_take (i := 0) (oi := ⟨_, _, _, _, _, _⟩) (v := _) rfl (by kernel_rfl) (by kernel_rfl) (by kernel_rfl) (fun _ _ _ h => h) (yieldsIf_load_mid (by rfl) _ _ rfl _ _ rfl _ _ (fun _ h => range_whole (keep_at h (show (w.heap.size, 43, ints a0) ∈ _ by simp))) hu rfl hi0) (by assumption) ?_
    try simp only [Act.put, List.setIfInBounds_toArray, List.set_cons_zero, List.set_cons_succ]
    refine wpAnyH_take (i := 2) (oi := ⟨_, _, _, _, _, _⟩) (v := _) rfl (by kernel_rfl) (by kernel_rfl) (by kernel_rfl) (fun _ _ _ h => h) (yieldsIf_load_mid (by rfl) _ _ rfl _ _ rfl _ _ (fun _ h => range_whole (keep_at h (show (w.heap.size + 1, 43, ints a1) ∈ _ by simp))) hu rfl hi1) (by assumption) ?_
    try simp only [Act.put, List.setIfInBounds_toArray, List.set_cons_zero, List.set_cons_succ]
    refine keep_any (fun W => Keep w ([(w.heap.size, 43, ints a0), (w.heap.size + 1, 43, ints a1)]) W) hHeld ?_
    clear hHeld hk
    intro W hHeld
    refine wpAnyH_ready (rs := [1, 4, 5]) (by kernel_rfl) (by simp) ?_
    refine AllReadyH.cons (o := ⟨_, _, _, _, _, _⟩) rfl (fun K hK => ?_) (AllReadyH.cons (o := ⟨_, _, _, _, _, _⟩) rfl (fun K hK => ?_) (AllReadyH.cons (o := ⟨_, _, _, _, _, _⟩) rfl (fun K hK => ?_) (AllReadyH.nil)))
    focus
      go_simp
      refine (h0 _).mono ?_
      rintro e W2 ⟨rfl, hC⟩
      go_simp
      replace hHeld := keep_below hHeld hC
      refine hK.out _ _ hHeld (fun _ => ?_)
      clear hK K hC
      try simp only [Act.put, List.setIfInBounds_toArray, List.set_cons_zero, List.set_cons_succ]
      refine keep_any (fun W => Keep w ([(w.heap.size, 43, ints a0), (w.heap.size + 1, 43, ints a1)]) W) hHeld ?_
      clear hHeld
      intro W hHeld
      refine wpAnyH_ready (rs := [3, 4, 5]) (by kernel_rfl) (by simp) ?_
      refine AllReadyH.cons (o := ⟨_, _, _, _, _, _⟩) rfl (fun K hK => ?_) (AllReadyH.cons (o := ⟨_, _, _, _, _, _⟩) rfl (fun K hK => ?_) (AllReadyH.cons (o := ⟨_, _, _, _, _, _⟩) rfl (fun K hK => ?_) (AllReadyH.nil)))
      focus
        go_simp
        refine (h1 _).mono ?_
        rintro e W2 ⟨rfl, hC⟩
        go_simp
        replace hHeld := keep_below hHeld hC
        refine hK.out _ _ hHeld (fun _ => ?_)
        clear hK K hC
        try simp only [Act.put, List.setIfInBounds_toArray, List.set_cons_zero, List.set_cons_succ]
        refine keep_any (fun W => Keep w ([(w.heap.size, 43, ints a0), (w.heap.size + 1, 43, ints a1)]) W) hHeld ?_
        clear hHeld
        intro W hHeld
        refine wpAnyH_ready (rs := [4, 5]) (by kernel_rfl) (by simp) ?_
        refine AllReadyH.cons (o := ⟨_, _, _, _, _, _⟩) rfl (fun K hK => ?_) (AllReadyH.cons (o := ⟨_, _, _, _, _, _⟩) rfl (fun K hK => ?_) (AllReadyH.nil))
        focus
          go_simp
          have hn := keep_lt hHeld
          have hsz := hHeld.2.size
          have nf := blk_new W 44 (#[Value.int .i64 0, Value.int .i64 0, Value.int .i64 0, Value.int .i64 0, Value.int .i64 0, Value.int .i64 0, Value.int .i64 0, Value.int .i64 0, Value.int .i64 0, Value.int .i64 0, Value.int .i64 0, Value.int .i64 0, Value.int .i64 0, Value.int .i64 0, Value.int .i64 0, Value.int .i64 0, Value.int .i64 0, Value.int .i64 0, Value.int .i64 0, Value.int .i64 0, Value.int .i64 0, Value.int .i64 0, Value.int .i64 0, Value.int .i64 0, Value.int .i64 0, Value.int .i64 0, Value.int .i64 0, Value.int .i64 0, Value.int .i64 0, Value.int .i64 0, Value.int .i64 0, Value.int .i64 0])
          replace hHeld := keep_alloc hHeld (.cells (#[Value.int .i64 0, Value.int .i64 0, Value.int .i64 0, Value.int .i64 0, Value.int .i64 0, Value.int .i64 0, Value.int .i64 0, Value.int .i64 0, Value.int .i64 0, Value.int .i64 0, Value.int .i64 0, Value.int .i64 0, Value.int .i64 0, Value.int .i64 0, Value.int .i64 0, Value.int .i64 0, Value.int .i64 0, Value.int .i64 0, Value.int .i64 0, Value.int .i64 0, Value.int .i64 0, Value.int .i64 0, Value.int .i64 0, Value.int .i64 0, Value.int .i64 0, Value.int .i64 0, Value.int .i64 0, Value.int .i64 0, Value.int .i64 0, Value.int .i64 0, Value.int .i64 0, Value.int .i64 0]) 44)
          refine hK.out _ _ hHeld (fun _ => ?_)
          clear hK K
          try simp only [Act.put, List.setIfInBounds_toArray, List.set_cons_zero, List.set_cons_succ]
          generalize W.heap.size = ga at *
          have fA := nf
          have hnga := hn
          have hsga := hsz
          clear nf hn hsz
          refine keep_any (fun W => Keep w ([(w.heap.size, 43, ints a0), (w.heap.size + 1, 43, ints a1)]) W ∧ Blk W ga 44 (#[Value.int .i64 0, Value.int .i64 0, Value.int .i64 0, Value.int .i64 0, Value.int .i64 0, Value.int .i64 0, Value.int .i64 0, Value.int .i64 0, Value.int .i64 0, Value.int .i64 0, Value.int .i64 0, Value.int .i64 0, Value.int .i64 0, Value.int .i64 0, Value.int .i64 0, Value.int .i64 0, Value.int .i64 0, Value.int .i64 0, Value.int .i64 0, Value.int .i64 0, Value.int .i64 0, Value.int .i64 0, Value.int .i64 0, Value.int .i64 0, Value.int .i64 0, Value.int .i64 0, Value.int .i64 0, Value.int .i64 0, Value.int .i64 0, Value.int .i64 0, Value.int .i64 0, Value.int .i64 0])) ⟨hHeld, fA⟩ ?_
          clear hHeld fA
          rintro W ⟨hHeld, fA⟩
          refine wpAnyH_ready (rs := [5]) (by kernel_rfl) (by simp) ?_
          refine AllReadyH.cons (o := ⟨_, _, _, _, _, _⟩) rfl (fun K hK => ?_) (AllReadyH.nil)
          focus
            go_simp
            have hn := keep_lt hHeld
            have hsz := hHeld.2.size
            have nf := blk_new W 44 (#[Value.int .i64 0, Value.int .i64 0, Value.int .i64 0, Value.int .i64 0, Value.int .i64 0, Value.int .i64 0, Value.int .i64 0, Value.int .i64 0, Value.int .i64 0, Value.int .i64 0, Value.int .i64 0, Value.int .i64 0, Value.int .i64 0, Value.int .i64 0, Value.int .i64 0, Value.int .i64 0, Value.int .i64 0, Value.int .i64 0, Value.int .i64 0, Value.int .i64 0, Value.int .i64 0, Value.int .i64 0, Value.int .i64 0, Value.int .i64 0, Value.int .i64 0, Value.int .i64 0, Value.int .i64 0, Value.int .i64 0, Value.int .i64 0, Value.int .i64 0, Value.int .i64 0, Value.int .i64 0])
            have hne := blk_lt fA
            replace fA := blk_alloc fA (.cells (#[Value.int .i64 0, Value.int .i64 0, Value.int .i64 0, Value.int .i64 0, Value.int .i64 0, Value.int .i64 0, Value.int .i64 0, Value.int .i64 0, Value.int .i64 0, Value.int .i64 0, Value.int .i64 0, Value.int .i64 0, Value.int .i64 0, Value.int .i64 0, Value.int .i64 0, Value.int .i64 0, Value.int .i64 0, Value.int .i64 0, Value.int .i64 0, Value.int .i64 0, Value.int .i64 0, Value.int .i64 0, Value.int .i64 0, Value.int .i64 0, Value.int .i64 0, Value.int .i64 0, Value.int .i64 0, Value.int .i64 0, Value.int .i64 0, Value.int .i64 0, Value.int .i64 0, Value.int .i64 0]) 44)
            replace hHeld := keep_alloc hHeld (.cells (#[Value.int .i64 0, Value.int .i64 0, Value.int .i64 0, Value.int .i64 0, Value.int .i64 0, Value.int .i64 0, Value.int .i64 0, Value.int .i64 0, Value.int .i64 0, Value.int .i64 0, Value.int .i64 0, Value.int .i64 0, Value.int .i64 0, Value.int .i64 0, Value.int .i64 0, Value.int .i64 0, Value.int .i64 0, Value.int .i64 0, Value.int .i64 0, Value.int .i64 0, Value.int .i64 0, Value.int .i64 0, Value.int .i64 0, Value.int .i64 0, Value.int .i64 0, Value.int .i64 0, Value.int .i64 0, Value.int .i64 0, Value.int .i64 0, Value.int .i64 0, Value.int .i64 0, Value.int .i64 0]) 44)
            refine hK.out _ _ hHeld (fun _ => ?_)
            clear hK K
            try simp only [Act.put, List.setIfInBounds_toArray, List.set_cons_zero, List.set_cons_succ]
            generalize W.heap.size = gb at *
            have fB := nf
            have hngb := hn
            have hsgb := hsz
            clear nf hn hsz
            refine keep_any (fun W => Keep w ([(w.heap.size, 43, ints a0), (w.heap.size + 1, 43, ints a1)]) W ∧ Blk W ga 44 (#[Value.int .i64 0, Value.int .i64 0, Value.int .i64 0, Value.int .i64 0, Value.int .i64 0, Value.int .i64 0, Value.int .i64 0, Value.int .i64 0, Value.int .i64 0, Value.int .i64 0, Value.int .i64 0, Value.int .i64 0, Value.int .i64 0, Value.int .i64 0, Value.int .i64 0, Value.int .i64 0, Value.int .i64 0, Value.int .i64 0, Value.int .i64 0, Value.int .i64 0, Value.int .i64 0, Value.int .i64 0, Value.int .i64 0, Value.int .i64 0, Value.int .i64 0, Value.int .i64 0, Value.int .i64 0, Value.int .i64 0, Value.int .i64 0, Value.int .i64 0, Value.int .i64 0, Value.int .i64 0]) ∧ Blk W gb 44 (#[Value.int .i64 0, Value.int .i64 0, Value.int .i64 0, Value.int .i64 0, Value.int .i64 0, Value.int .i64 0, Value.int .i64 0, Value.int .i64 0, Value.int .i64 0, Value.int .i64 0, Value.int .i64 0, Value.int .i64 0, Value.int .i64 0, Value.int .i64 0, Value.int .i64 0, Value.int .i64 0, Value.int .i64 0, Value.int .i64 0, Value.int .i64 0, Value.int .i64 0, Value.int .i64 0, Value.int .i64 0, Value.int .i64 0, Value.int .i64 0, Value.int .i64 0, Value.int .i64 0, Value.int .i64 0, Value.int .i64 0, Value.int .i64 0, Value.int .i64 0, Value.int .i64 0, Value.int .i64 0])) ⟨hHeld, fA, fB⟩ ?_
            clear hHeld fA fB
            rintro W ⟨hHeld, fA, fB⟩
            refine wpAnyH_ready (rs := [6]) (by kernel_rfl) (by simp) ?_
            refine AllReadyH.cons (o := ⟨_, _, _, _, _, _⟩) rfl (fun K hK => ?_) AllReadyH.nil
            rw [if_pos (by rfl)]
            refine wp_store_mid 44 _ _ rfl ga 0 (ints x0) rfl rfl (by rw [ints_size, hl0]; exact blk_there fA) (by rw [ints_size, hl0]; kernel_rfl) (ints_one _) ?_
            have k1 := keep_store (new := ints x0) hHeld fA hnga (by have := hHeld.2.size; omega) (by rw [ints_size, hl0]; rfl)
            have k2 := blk_grown fB (setCells_whole (new := ints x0) fA (by rw [ints_size, hl0]; rfl)).2 (by simp; omega)
            refine hK.out _ _ k1.1 (fun _ => ?_)
            clear hK K
            try simp only [Act.put, List.setIfInBounds_toArray, List.set_cons_zero, List.set_cons_succ]
            replace hHeld := k1.1
            replace fA := k1.2
            replace fB := k2
            clear k1 k2
            refine keep_any (fun W => Keep w ([(w.heap.size, 43, ints a0), (w.heap.size + 1, 43, ints a1)]) W ∧ Blk W ga 44 (ints x0) ∧ Blk W gb 44 (#[Value.int .i64 0, Value.int .i64 0, Value.int .i64 0, Value.int .i64 0, Value.int .i64 0, Value.int .i64 0, Value.int .i64 0, Value.int .i64 0, Value.int .i64 0, Value.int .i64 0, Value.int .i64 0, Value.int .i64 0, Value.int .i64 0, Value.int .i64 0, Value.int .i64 0, Value.int .i64 0, Value.int .i64 0, Value.int .i64 0, Value.int .i64 0, Value.int .i64 0, Value.int .i64 0, Value.int .i64 0, Value.int .i64 0, Value.int .i64 0, Value.int .i64 0, Value.int .i64 0, Value.int .i64 0, Value.int .i64 0, Value.int .i64 0, Value.int .i64 0, Value.int .i64 0, Value.int .i64 0])) ⟨hHeld, fA, fB⟩ ?_
            clear hHeld fA fB
            rintro W ⟨hHeld, fA, fB⟩
            refine wpAnyH_ready (rs := [7]) (by kernel_rfl) (by simp) ?_
            refine AllReadyH.cons (o := ⟨_, _, _, _, _, _⟩) rfl (fun K hK => ?_) AllReadyH.nil
            rw [if_pos (by rfl)]
            refine wp_store_mid 44 _ _ rfl gb 0 (ints x1) rfl rfl (by rw [ints_size, hl1]; exact blk_there fB) (by rw [ints_size, hl1]; kernel_rfl) (ints_one _) ?_
            have k1 := keep_store (new := ints x1) hHeld fB hngb (by have := hHeld.2.size; omega) (by rw [ints_size, hl1]; rfl)
            have k2 := blk_grown fA (setCells_whole (new := ints x1) fB (by rw [ints_size, hl1]; rfl)).2 (by simp; omega)
            refine hK.out _ _ k1.1 (fun _ => ?_)
            clear hK K
            try simp only [Act.put, List.setIfInBounds_toArray, List.set_cons_zero, List.set_cons_succ]
            replace hHeld := k1.1
            replace fB := k1.2
            replace fA := k2
            clear k1 k2
            refine keep_any (fun W => Keep w ([(w.heap.size, 43, ints a0), (w.heap.size + 1, 43, ints a1)]) W ∧ Blk W ga 44 (ints x0) ∧ Blk W gb 44 (ints x1)) ⟨hHeld, fA, fB⟩ ?_
            clear hHeld fA fB
            rintro W ⟨hHeld, fA, fB⟩
            refine wpAnyH_done (by kernel_rfl) ?_ _
            go_wp2_with fail
            go_meet
            exact ⟨ga, gb, rfl, rfl, keep_cons (keep_cons hHeld fB) fA⟩
        focus
          go_simp
          have hn := keep_lt hHeld
          have hsz := hHeld.2.size
          have nf := blk_new W 44 (#[Value.int .i64 0, Value.int .i64 0, Value.int .i64 0, Value.int .i64 0, Value.int .i64 0, Value.int .i64 0, Value.int .i64 0, Value.int .i64 0, Value.int .i64 0, Value.int .i64 0, Value.int .i64 0, Value.int .i64 0, Value.int .i64 0, Value.int .i64 0, Value.int .i64 0, Value.int .i64 0, Value.int .i64 0, Value.int .i64 0, Value.int .i64 0, Value.int .i64 0, Value.int .i64 0, Value.int .i64 0, Value.int .i64 0, Value.int .i64 0, Value.int .i64 0, Value.int .i64 0, Value.int .i64 0, Value.int .i64 0, Value.int .i64 0, Value.int .i64 0, Value.int .i64 0, Value.int .i64 0])
          replace hHeld := keep_alloc hHeld (.cells (#[Value.int .i64 0, Value.int .i64 0, Value.int .i64 0, Value.int .i64 0, Value.int .i64 0, Value.int .i64 0, Value.int .i64 0, Value.int .i64 0, Value.int .i64 0, Value.int .i64 0, Value.int .i64 0, Value.int .i64 0, Value.int .i64 0, Value.int .i64 0, Value.int .i64 0, Value.int .i64 0, Value.int .i64 0, Value.int .i64 0, Value.int .i64 0, Value.int .i64 0, Value.int .i64 0, Value.int .i64 0, Value.int .i64 0, Value.int .i64 0, Value.int .i64 0, Value.int .i64 0, Value.int .i64 0, Value.int .i64 0, Value.int .i64 0, Value.int .i64 0, Value.int .i64 0, Value.int .i64 0]) 44)
          refine hK.out _ _ hHeld (fun _ => ?_)
          clear hK K
          try simp only [Act.put, List.setIfInBounds_toArray, List.set_cons_zero, List.set_cons_succ]
          generalize W.heap.size = gb at *
          have fB := nf
          have hngb := hn
          have hsgb := hsz
          clear nf hn hsz
          refine keep_any (fun W => Keep w ([(w.heap.size, 43, ints a0), (w.heap.size + 1, 43, ints a1)]) W ∧ Blk W gb 44 (#[Value.int .i64 0, Value.int .i64 0, Value.int .i64 0, Value.int .i64 0, Value.int .i64 0, Value.int .i64 0, Value.int .i64 0, Value.int .i64 0, Value.int .i64 0, Value.int .i64 0, Value.int .i64 0, Value.int .i64 0, Value.int .i64 0, Value.int .i64 0, Value.int .i64 0, Value.int .i64 0, Value.int .i64 0, Value.int .i64 0, Value.int .i64 0, Value.int .i64 0, Value.int .i64 0, Value.int .i64 0, Value.int .i64 0, Value.int .i64 0, Value.int .i64 0, Value.int .i64 0, Value.int .i64 0, Value.int .i64 0, Value.int .i64 0, Value.int .i64 0, Value.int .i64 0, Value.int .i64 0])) ⟨hHeld, fB⟩ ?_
          clear hHeld fB
          rintro W ⟨hHeld, fB⟩
          refine wpAnyH_ready (rs := [4]) (by kernel_rfl) (by simp) ?_
          refine AllReadyH.cons (o := ⟨_, _, _, _, _, _⟩) rfl (fun K hK => ?_) (AllReadyH.nil)
          focus
            go_simp
            have hn := keep_lt hHeld
            have hsz := hHeld.2.size
            have nf := blk_new W 44 (#[Value.int .i64 0, Value.int .i64 0, Value.int .i64 0, Value.int .i64 0, Value.int .i64 0, Value.int .i64 0, Value.int .i64 0, Value.int .i64 0, Value.int .i64 0, Value.int .i64 0, Value.int .i64 0, Value.int .i64 0, Value.int .i64 0, Value.int .i64 0, Value.int .i64 0, Value.int .i64 0, Value.int .i64 0, Value.int .i64 0, Value.int .i64 0, Value.int .i64 0, Value.int .i64 0, Value.int .i64 0, Value.int .i64 0, Value.int .i64 0, Value.int .i64 0, Value.int .i64 0, Value.int .i64 0, Value.int .i64 0, Value.int .i64 0, Value.int .i64 0, Value.int .i64 0, Value.int .i64 0])
            have hne := blk_lt fB
            replace fB := blk_alloc fB (.cells (#[Value.int .i64 0, Value.int .i64 0, Value.int .i64 0, Value.int .i64 0, Value.int .i64 0, Value.int .i64 0, Value.int .i64 0, Value.int .i64 0, Value.int .i64 0, Value.int .i64 0, Value.int .i64 0, Value.int .i64 0, Value.int .i64 0, Value.int .i64 0, Value.int .i64 0, Value.int .i64 0, Value.int .i64 0, Value.int .i64 0, Value.int .i64 0, Value.int .i64 0, Value.int .i64 0, Value.int .i64 0, Value.int .i64 0, Value.int .i64 0, Value.int .i64 0, Value.int .i64 0, Value.int .i64 0, Value.int .i64 0, Value.int .i64 0, Value.int .i64 0, Value.int .i64 0, Value.int .i64 0]) 44)
            replace hHeld := keep_alloc hHeld (.cells (#[Value.int .i64 0, Value.int .i64 0, Value.int .i64 0, Value.int .i64 0, Value.int .i64 0, Value.int .i64 0, Value.int .i64 0, Value.int .i64 0, Value.int .i64 0, Value.int .i64 0, Value.int .i64 0, Value.int .i64 0, Value.int .i64 0, Value.int .i64 0, Value.int .i64 0, Value.int .i64 0, Value.int .i64 0, Value.int .i64 0, Value.int .i64 0, Value.int .i64 0, Value.int .i64 0, Value.int .i64 0, Value.int .i64 0, Value.int .i64 0, Value.int .i64 0, Value.int .i64 0, Value.int .i64 0, Value.int .i64 0, Value.int .i64 0, Value.int .i64 0, Value.int .i64 0, Value.int .i64 0]) 44)
            refine hK.out _ _ hHeld (fun _ => ?_)
            clear hK K
            try simp only [Act.put, List.setIfInBounds_toArray, List.set_cons_zero, List.set_cons_succ]
            generalize W.heap.size = ga at *
            have fA := nf
            have hnga := hn
            have hsga := hsz
            clear nf hn hsz
            refine keep_any (fun W => Keep w ([(w.heap.size, 43, ints a0), (w.heap.size + 1, 43, ints a1)]) W ∧ Blk W ga 44 (#[Value.int .i64 0, Value.int .i64 0, Value.int .i64 0, Value.int .i64 0, Value.int .i64 0, Value.int .i64 0, Value.int .i64 0, Value.int .i64 0, Value.int .i64 0, Value.int .i64 0, Value.int .i64 0, Value.int .i64 0, Value.int .i64 0, Value.int .i64 0, Value.int .i64 0, Value.int .i64 0, Value.int .i64 0, Value.int .i64 0, Value.int .i64 0, Value.int .i64 0, Value.int .i64 0, Value.int .i64 0, Value.int .i64 0, Value.int .i64 0, Value.int .i64 0, Value.int .i64 0, Value.int .i64 0, Value.int .i64 0, Value.int .i64 0, Value.int .i64 0, Value.int .i64 0, Value.int .i64 0]) ∧ Blk W gb 44 (#[Value.int .i64 0, Value.int .i64 0, Value.int .i64 0, Value.int .i64 0, Value.int .i64 0, Value.int .i64 0, Value.int .i64 0, Value.int .i64 0, Value.int .i64 0, Value.int .i64 0, Value.int .i64 0, Value.int .i64 0, Value.int .i64 0, Value.int .i64 0, Value.int .i64 0, Value.int .i64 0, Value.int .i64 0, Value.int .i64 0, Value.int .i64 0, Value.int .i64 0, Value.int .i64 0, Value.int .i64 0, Value.int .i64 0, Value.int .i64 0, Value.int .i64 0, Value.int .i64 0, Value.int .i64 0, Value.int .i64 0, Value.int .i64 0, Value.int .i64 0, Value.int .i64 0, Value.int .i64 0])) ⟨hHeld, fA, fB⟩ ?_
            clear hHeld fA fB
            rintro W ⟨hHeld, fA, fB⟩
            refine wpAnyH_ready (rs := [6]) (by kernel_rfl) (by simp) ?_
            refine AllReadyH.cons (o := ⟨_, _, _, _, _, _⟩) rfl (fun K hK => ?_) AllReadyH.nil
            rw [if_pos (by rfl)]
            refine wp_store_mid 44 _ _ rfl ga 0 (ints x0) rfl rfl (by rw [ints_size, hl0]; exact blk_there fA) (by rw [ints_size, hl0]; kernel_rfl) (ints_one _) ?_
            have k1 := keep_store (new := ints x0) hHeld fA hnga (by have := hHeld.2.size; omega) (by rw [ints_size, hl0]; rfl)
            have k2 := blk_grown fB (setCells_whole (new := ints x0) fA (by rw [ints_size, hl0]; rfl)).2 (by simp; omega)
            refine hK.out _ _ k1.1 (fun _ => ?_)
            clear hK K
            try simp only [Act.put, List.setIfInBounds_toArray, List.set_cons_zero, List.set_cons_succ]
            replace hHeld := k1.1
            replace fA := k1.2
            replace fB := k2
            clear k1 k2
            refine keep_any (fun W => Keep w ([(w.heap.size, 43, ints a0), (w.heap.size + 1, 43, ints a1)]) W ∧ Blk W ga 44 (ints x0) ∧ Blk W gb 44 (#[Value.int .i64 0, Value.int .i64 0, Value.int .i64 0, Value.int .i64 0, Value.int .i64 0, Value.int .i64 0, Value.int .i64 0, Value.int .i64 0, Value.int .i64 0, Value.int .i64 0, Value.int .i64 0, Value.int .i64 0, Value.int .i64 0, Value.int .i64 0, Value.int .i64 0, Value.int .i64 0, Value.int .i64 0, Value.int .i64 0, Value.int .i64 0, Value.int .i64 0, Value.int .i64 0, Value.int .i64 0, Value.int .i64 0, Value.int .i64 0, Value.int .i64 0, Value.int .i64 0, Value.int .i64 0, Value.int .i64 0, Value.int .i64 0, Value.int .i64 0, Value.int .i64 0, Value.int .i64 0])) ⟨hHeld, fA, fB⟩ ?_
            clear hHeld fA fB
            rintro W ⟨hHeld, fA, fB⟩
            refine wpAnyH_ready (rs := [7]) (by kernel_rfl) (by simp) ?_
            refine AllReadyH.cons (o := ⟨_, _, _, _, _, _⟩) rfl (fun K hK => ?_) AllReadyH.nil
            rw [if_pos (by rfl)]
            refine wp_store_mid 44 _ _ rfl gb 0 (ints x1) rfl rfl (by rw [ints_size, hl1]; exact blk_there fB) (by rw [ints_size, hl1]; kernel_rfl) (ints_one _) ?_
            have k1 := keep_store (new := ints x1) hHeld fB hngb (by have := hHeld.2.size; omega) (by rw [ints_size, hl1]; rfl)
            have k2 := blk_grown fA (setCells_whole (new := ints x1) fB (by rw [ints_size, hl1]; rfl)).2 (by simp; omega)
            refine hK.out _ _ k1.1 (fun _ => ?_)
            clear hK K
            try simp only [Act.put, List.setIfInBounds_toArray, List.set_cons_zero, List.set_cons_succ]
            replace hHeld := k1.1
            replace fB := k1.2
            replace fA := k2
            clear k1 k2
            refine keep_any (fun W => Keep w ([(w.heap.size, 43, ints a0), (w.heap.size + 1, 43, ints a1)]) W ∧ Blk W ga 44 (ints x0) ∧ Blk W gb 44 (ints x1)) ⟨hHeld, fA, fB⟩ ?_
            clear hHeld fA fB
            rintro W ⟨hHeld, fA, fB⟩
            refine wpAnyH_done (by kernel_rfl) ?_ _
            go_wp2_with fail
            go_meet
            exact ⟨ga, gb, rfl, rfl, keep_cons (keep_cons hHeld fB) fA⟩
      focus
        go_simp
        have hn := keep_lt hHeld
        have hsz := hHeld.2.size
        have nf := blk_new W 44 (#[Value.int .i64 0, Value.int .i64 0, Value.int .i64 0, Value.int .i64 0, Value.int .i64 0, Value.int .i64 0, Value.int .i64 0, Value.int .i64 0, Value.int .i64 0, Value.int .i64 0, Value.int .i64 0, Value.int .i64 0, Value.int .i64 0, Value.int .i64 0, Value.int .i64 0, Value.int .i64 0, Value.int .i64 0, Value.int .i64 0, Value.int .i64 0, Value.int .i64 0, Value.int .i64 0, Value.int .i64 0, Value.int .i64 0, Value.int .i64 0, Value.int .i64 0, Value.int .i64 0, Value.int .i64 0, Value.int .i64 0, Value.int .i64 0, Value.int .i64 0, Value.int .i64 0, Value.int .i64 0])
        replace hHeld := keep_alloc hHeld (.cells (#[Value.int .i64 0, Value.int .i64 0, Value.int .i64 0, Value.int .i64 0, Value.int .i64 0, Value.int .i64 0, Value.int .i64 0, Value.int .i64 0, Value.int .i64 0, Value.int .i64 0, Value.int .i64 0, Value.int .i64 0, Value.int .i64 0, Value.int .i64 0, Value.int .i64 0, Value.int .i64 0, Value.int .i64 0, Value.int .i64 0, Value.int .i64 0, Value.int .i64 0, Value.int .i64 0, Value.int .i64 0, Value.int .i64 0, Value.int .i64 0, Value.int .i64 0, Value.int .i64 0, Value.int .i64 0, Value.int .i64 0, Value.int .i64 0, Value.int .i64 0, Value.int .i64 0, Value.int .i64 0]) 44)
        refine hK.out _ _ hHeld (fun _ => ?_)
        clear hK K
        try simp only [Act.put, List.setIfInBounds_toArray, List.set_cons_zero, List.set_cons_succ]
        generalize W.heap.size = ga at *
        have fA := nf
        have hnga := hn
        have hsga := hsz
        clear nf hn hsz
        refine keep_any (fun W => Keep w ([(w.heap.size, 43, ints a0), (w.heap.size + 1, 43, ints a1)]) W ∧ Blk W ga 44 (#[Value.int .i64 0, Value.int .i64 0, Value.int .i64 0, Value.int .i64 0, Value.int .i64 0, Value.int .i64 0, Value.int .i64 0, Value.int .i64 0, Value.int .i64 0, Value.int .i64 0, Value.int .i64 0, Value.int .i64 0, Value.int .i64 0, Value.int .i64 0, Value.int .i64 0, Value.int .i64 0, Value.int .i64 0, Value.int .i64 0, Value.int .i64 0, Value.int .i64 0, Value.int .i64 0, Value.int .i64 0, Value.int .i64 0, Value.int .i64 0, Value.int .i64 0, Value.int .i64 0, Value.int .i64 0, Value.int .i64 0, Value.int .i64 0, Value.int .i64 0, Value.int .i64 0, Value.int .i64 0])) ⟨hHeld, fA⟩ ?_
        clear hHeld fA
        rintro W ⟨hHeld, fA⟩
        refine wpAnyH_ready (rs := [3, 5]) (by kernel_rfl) (by simp) ?_
        refine AllReadyH.cons (o := ⟨_, _, _, _, _, _⟩) rfl (fun K hK => ?_) (AllReadyH.cons (o := ⟨_, _, _, _, _, _⟩) rfl (fun K hK => ?_) (AllReadyH.nil))
        focus
          go_simp
          refine (h1 _).mono ?_
          rintro e W2 ⟨rfl, hC⟩
          go_simp
          replace hHeld := keep_below hHeld hC
          replace fA := blk_below fA hC (blk_lt fA)
          refine hK.out _ _ hHeld (fun _ => ?_)
          clear hK K hC
          try simp only [Act.put, List.setIfInBounds_toArray, List.set_cons_zero, List.set_cons_succ]
          refine keep_any (fun W => Keep w ([(w.heap.size, 43, ints a0), (w.heap.size + 1, 43, ints a1)]) W ∧ Blk W ga 44 (#[Value.int .i64 0, Value.int .i64 0, Value.int .i64 0, Value.int .i64 0, Value.int .i64 0, Value.int .i64 0, Value.int .i64 0, Value.int .i64 0, Value.int .i64 0, Value.int .i64 0, Value.int .i64 0, Value.int .i64 0, Value.int .i64 0, Value.int .i64 0, Value.int .i64 0, Value.int .i64 0, Value.int .i64 0, Value.int .i64 0, Value.int .i64 0, Value.int .i64 0, Value.int .i64 0, Value.int .i64 0, Value.int .i64 0, Value.int .i64 0, Value.int .i64 0, Value.int .i64 0, Value.int .i64 0, Value.int .i64 0, Value.int .i64 0, Value.int .i64 0, Value.int .i64 0, Value.int .i64 0])) ⟨hHeld, fA⟩ ?_
          clear hHeld fA
          rintro W ⟨hHeld, fA⟩
          refine wpAnyH_ready (rs := [5]) (by kernel_rfl) (by simp) ?_
          refine AllReadyH.cons (o := ⟨_, _, _, _, _, _⟩) rfl (fun K hK => ?_) (AllReadyH.nil)
          focus
            go_simp
            have hn := keep_lt hHeld
            have hsz := hHeld.2.size
            have nf := blk_new W 44 (#[Value.int .i64 0, Value.int .i64 0, Value.int .i64 0, Value.int .i64 0, Value.int .i64 0, Value.int .i64 0, Value.int .i64 0, Value.int .i64 0, Value.int .i64 0, Value.int .i64 0, Value.int .i64 0, Value.int .i64 0, Value.int .i64 0, Value.int .i64 0, Value.int .i64 0, Value.int .i64 0, Value.int .i64 0, Value.int .i64 0, Value.int .i64 0, Value.int .i64 0, Value.int .i64 0, Value.int .i64 0, Value.int .i64 0, Value.int .i64 0, Value.int .i64 0, Value.int .i64 0, Value.int .i64 0, Value.int .i64 0, Value.int .i64 0, Value.int .i64 0, Value.int .i64 0, Value.int .i64 0])
            have hne := blk_lt fA
            replace fA := blk_alloc fA (.cells (#[Value.int .i64 0, Value.int .i64 0, Value.int .i64 0, Value.int .i64 0, Value.int .i64 0, Value.int .i64 0, Value.int .i64 0, Value.int .i64 0, Value.int .i64 0, Value.int .i64 0, Value.int .i64 0, Value.int .i64 0, Value.int .i64 0, Value.int .i64 0, Value.int .i64 0, Value.int .i64 0, Value.int .i64 0, Value.int .i64 0, Value.int .i64 0, Value.int .i64 0, Value.int .i64 0, Value.int .i64 0, Value.int .i64 0, Value.int .i64 0, Value.int .i64 0, Value.int .i64 0, Value.int .i64 0, Value.int .i64 0, Value.int .i64 0, Value.int .i64 0, Value.int .i64 0, Value.int .i64 0]) 44)
            replace hHeld := keep_alloc hHeld (.cells (#[Value.int .i64 0, Value.int .i64 0, Value.int .i64 0, Value.int .i64 0, Value.int .i64 0, Value.int .i64 0, Value.int .i64 0, Value.int .i64 0, Value.int .i64 0, Value.int .i64 0, Value.int .i64 0, Value.int .i64 0, Value.int .i64 0, Value.int .i64 0, Value.int .i64 0, Value.int .i64 0, Value.int .i64 0, Value.int .i64 0, Value.int .i64 0, Value.int .i64 0, Value.int .i64 0, Value.int .i64 0, Value.int .i64 0, Value.int .i64 0, Value.int .i64 0, Value.int .i64 0, Value.int .i64 0, Value.int .i64 0, Value.int .i64 0, Value.int .i64 0, Value.int .i64 0, Value.int .i64 0]) 44)
            refine hK.out _ _ hHeld (fun _ => ?_)
            clear hK K
            try simp only [Act.put, List.setIfInBounds_toArray, List.set_cons_zero, List.set_cons_succ]
            generalize W.heap.size = gb at *
            have fB := nf
            have hngb := hn
            have hsgb := hsz
            clear nf hn hsz
            refine keep_any (fun W => Keep w ([(w.heap.size, 43, ints a0), (w.heap.size + 1, 43, ints a1)]) W ∧ Blk W ga 44 (#[Value.int .i64 0, Value.int .i64 0, Value.int .i64 0, Value.int .i64 0, Value.int .i64 0, Value.int .i64 0, Value.int .i64 0, Value.int .i64 0, Value.int .i64 0, Value.int .i64 0, Value.int .i64 0, Value.int .i64 0, Value.int .i64 0, Value.int .i64 0, Value.int .i64 0, Value.int .i64 0, Value.int .i64 0, Value.int .i64 0, Value.int .i64 0, Value.int .i64 0, Value.int .i64 0, Value.int .i64 0, Value.int .i64 0, Value.int .i64 0, Value.int .i64 0, Value.int .i64 0, Value.int .i64 0, Value.int .i64 0, Value.int .i64 0, Value.int .i64 0, Value.int .i64 0, Value.int .i64 0]) ∧ Blk W gb 44 (#[Value.int .i64 0, Value.int .i64 0, Value.int .i64 0, Value.int .i64 0, Value.int .i64 0, Value.int .i64 0, Value.int .i64 0, Value.int .i64 0, Value.int .i64 0, Value.int .i64 0, Value.int .i64 0, Value.int .i64 0, Value.int .i64 0, Value.int .i64 0, Value.int .i64 0, Value.int .i64 0, Value.int .i64 0, Value.int .i64 0, Value.int .i64 0, Value.int .i64 0, Value.int .i64 0, Value.int .i64 0, Value.int .i64 0, Value.int .i64 0, Value.int .i64 0, Value.int .i64 0, Value.int .i64 0, Value.int .i64 0, Value.int .i64 0, Value.int .i64 0, Value.int .i64 0, Value.int .i64 0])) ⟨hHeld, fA, fB⟩ ?_
            clear hHeld fA fB
            rintro W ⟨hHeld, fA, fB⟩
            refine wpAnyH_ready (rs := [6]) (by kernel_rfl) (by simp) ?_
            refine AllReadyH.cons (o := ⟨_, _, _, _, _, _⟩) rfl (fun K hK => ?_) AllReadyH.nil
            rw [if_pos (by rfl)]
            refine wp_store_mid 44 _ _ rfl ga 0 (ints x0) rfl rfl (by rw [ints_size, hl0]; exact blk_there fA) (by rw [ints_size, hl0]; kernel_rfl) (ints_one _) ?_
            have k1 := keep_store (new := ints x0) hHeld fA hnga (by have := hHeld.2.size; omega) (by rw [ints_size, hl0]; rfl)
            have k2 := blk_grown fB (setCells_whole (new := ints x0) fA (by rw [ints_size, hl0]; rfl)).2 (by simp; omega)
            refine hK.out _ _ k1.1 (fun _ => ?_)
            clear hK K
            try simp only [Act.put, List.setIfInBounds_toArray, List.set_cons_zero, List.set_cons_succ]
            replace hHeld := k1.1
            replace fA := k1.2
            replace fB := k2
            clear k1 k2
            refine keep_any (fun W => Keep w ([(w.heap.size, 43, ints a0), (w.heap.size + 1, 43, ints a1)]) W ∧ Blk W ga 44 (ints x0) ∧ Blk W gb 44 (#[Value.int .i64 0, Value.int .i64 0, Value.int .i64 0, Value.int .i64 0, Value.int .i64 0, Value.int .i64 0, Value.int .i64 0, Value.int .i64 0, Value.int .i64 0, Value.int .i64 0, Value.int .i64 0, Value.int .i64 0, Value.int .i64 0, Value.int .i64 0, Value.int .i64 0, Value.int .i64 0, Value.int .i64 0, Value.int .i64 0, Value.int .i64 0, Value.int .i64 0, Value.int .i64 0, Value.int .i64 0, Value.int .i64 0, Value.int .i64 0, Value.int .i64 0, Value.int .i64 0, Value.int .i64 0, Value.int .i64 0, Value.int .i64 0, Value.int .i64 0, Value.int .i64 0, Value.int .i64 0])) ⟨hHeld, fA, fB⟩ ?_
            clear hHeld fA fB
            rintro W ⟨hHeld, fA, fB⟩
            refine wpAnyH_ready (rs := [7]) (by kernel_rfl) (by simp) ?_
            refine AllReadyH.cons (o := ⟨_, _, _, _, _, _⟩) rfl (fun K hK => ?_) AllReadyH.nil
            rw [if_pos (by rfl)]
            refine wp_store_mid 44 _ _ rfl gb 0 (ints x1) rfl rfl (by rw [ints_size, hl1]; exact blk_there fB) (by rw [ints_size, hl1]; kernel_rfl) (ints_one _) ?_
            have k1 := keep_store (new := ints x1) hHeld fB hngb (by have := hHeld.2.size; omega) (by rw [ints_size, hl1]; rfl)
            have k2 := blk_grown fA (setCells_whole (new := ints x1) fB (by rw [ints_size, hl1]; rfl)).2 (by simp; omega)
            refine hK.out _ _ k1.1 (fun _ => ?_)
            clear hK K
            try simp only [Act.put, List.setIfInBounds_toArray, List.set_cons_zero, List.set_cons_succ]
            replace hHeld := k1.1
            replace fB := k1.2
            replace fA := k2
            clear k1 k2
            refine keep_any (fun W => Keep w ([(w.heap.size, 43, ints a0), (w.heap.size + 1, 43, ints a1)]) W ∧ Blk W ga 44 (ints x0) ∧ Blk W gb 44 (ints x1)) ⟨hHeld, fA, fB⟩ ?_
            clear hHeld fA fB
            rintro W ⟨hHeld, fA, fB⟩
            refine wpAnyH_done (by kernel_rfl) ?_ _
            go_wp2_with fail
            go_meet
            exact ⟨ga, gb, rfl, rfl, keep_cons (keep_cons hHeld fB) fA⟩
        focus
          go_simp
          have hn := keep_lt hHeld
          have hsz := hHeld.2.size
          have nf := blk_new W 44 (#[Value.int .i64 0, Value.int .i64 0, Value.int .i64 0, Value.int .i64 0, Value.int .i64 0, Value.int .i64 0, Value.int .i64 0, Value.int .i64 0, Value.int .i64 0, Value.int .i64 0, Value.int .i64 0, Value.int .i64 0, Value.int .i64 0, Value.int .i64 0, Value.int .i64 0, Value.int .i64 0, Value.int .i64 0, Value.int .i64 0, Value.int .i64 0, Value.int .i64 0, Value.int .i64 0, Value.int .i64 0, Value.int .i64 0, Value.int .i64 0, Value.int .i64 0, Value.int .i64 0, Value.int .i64 0, Value.int .i64 0, Value.int .i64 0, Value.int .i64 0, Value.int .i64 0, Value.int .i64 0])
          have hne := blk_lt fA
          replace fA := blk_alloc fA (.cells (#[Value.int .i64 0, Value.int .i64 0, Value.int .i64 0, Value.int .i64 0, Value.int .i64 0, Value.int .i64 0, Value.int .i64 0, Value.int .i64 0, Value.int .i64 0, Value.int .i64 0, Value.int .i64 0, Value.int .i64 0, Value.int .i64 0, Value.int .i64 0, Value.int .i64 0, Value.int .i64 0, Value.int .i64 0, Value.int .i64 0, Value.int .i64 0, Value.int .i64 0, Value.int .i64 0, Value.int .i64 0, Value.int .i64 0, Value.int .i64 0, Value.int .i64 0, Value.int .i64 0, Value.int .i64 0, Value.int .i64 0, Value.int .i64 0, Value.int .i64 0, Value.int .i64 0, Value.int .i64 0]) 44)
          replace hHeld := keep_alloc hHeld (.cells (#[Value.int .i64 0, Value.int .i64 0, Value.int .i64 0, Value.int .i64 0, Value.int .i64 0, Value.int .i64 0, Value.int .i64 0, Value.int .i64 0, Value.int .i64 0, Value.int .i64 0, Value.int .i64 0, Value.int .i64 0, Value.int .i64 0, Value.int .i64 0, Value.int .i64 0, Value.int .i64 0, Value.int .i64 0, Value.int .i64 0, Value.int .i64 0, Value.int .i64 0, Value.int .i64 0, Value.int .i64 0, Value.int .i64 0, Value.int .i64 0, Value.int .i64 0, Value.int .i64 0, Value.int .i64 0, Value.int .i64 0, Value.int .i64 0, Value.int .i64 0, Value.int .i64 0, Value.int .i64 0]) 44)
          refine hK.out _ _ hHeld (fun _ => ?_)
          clear hK K
          try simp only [Act.put, List.setIfInBounds_toArray, List.set_cons_zero, List.set_cons_succ]
          generalize W.heap.size = gb at *
          have fB := nf
          have hngb := hn
          have hsgb := hsz
          clear nf hn hsz
          refine keep_any (fun W => Keep w ([(w.heap.size, 43, ints a0), (w.heap.size + 1, 43, ints a1)]) W ∧ Blk W ga 44 (#[Value.int .i64 0, Value.int .i64 0, Value.int .i64 0, Value.int .i64 0, Value.int .i64 0, Value.int .i64 0, Value.int .i64 0, Value.int .i64 0, Value.int .i64 0, Value.int .i64 0, Value.int .i64 0, Value.int .i64 0, Value.int .i64 0, Value.int .i64 0, Value.int .i64 0, Value.int .i64 0, Value.int .i64 0, Value.int .i64 0, Value.int .i64 0, Value.int .i64 0, Value.int .i64 0, Value.int .i64 0, Value.int .i64 0, Value.int .i64 0, Value.int .i64 0, Value.int .i64 0, Value.int .i64 0, Value.int .i64 0, Value.int .i64 0, Value.int .i64 0, Value.int .i64 0, Value.int .i64 0]) ∧ Blk W gb 44 (#[Value.int .i64 0, Value.int .i64 0, Value.int .i64 0, Value.int .i64 0, Value.int .i64 0, Value.int .i64 0, Value.int .i64 0, Value.int .i64 0, Value.int .i64 0, Value.int .i64 0, Value.int .i64 0, Value.int .i64 0, Value.int .i64 0, Value.int .i64 0, Value.int .i64 0, Value.int .i64 0, Value.int .i64 0, Value.int .i64 0, Value.int .i64 0, Value.int .i64 0, Value.int .i64 0, Value.int .i64 0, Value.int .i64 0, Value.int .i64 0, Value.int .i64 0, Value.int .i64 0, Value.int .i64 0, Value.int .i64 0, Value.int .i64 0, Value.int .i64 0, Value.int .i64 0, Value.int .i64 0])) ⟨hHeld, fA, fB⟩ ?_
          clear hHeld fA fB
          rintro W ⟨hHeld, fA, fB⟩
          refine wpAnyH_ready (rs := [3]) (by kernel_rfl) (by simp) ?_
          refine AllReadyH.cons (o := ⟨_, _, _, _, _, _⟩) rfl (fun K hK => ?_) (AllReadyH.nil)
          focus
            go_simp
            refine (h1 _).mono ?_
            rintro e W2 ⟨rfl, hC⟩
            go_simp
            replace hHeld := keep_below hHeld hC
            replace fA := blk_below fA hC (blk_lt fA)
            replace fB := blk_below fB hC (blk_lt fB)
            refine hK.out _ _ hHeld (fun _ => ?_)
            clear hK K hC
            try simp only [Act.put, List.setIfInBounds_toArray, List.set_cons_zero, List.set_cons_succ]
            refine keep_any (fun W => Keep w ([(w.heap.size, 43, ints a0), (w.heap.size + 1, 43, ints a1)]) W ∧ Blk W ga 44 (#[Value.int .i64 0, Value.int .i64 0, Value.int .i64 0, Value.int .i64 0, Value.int .i64 0, Value.int .i64 0, Value.int .i64 0, Value.int .i64 0, Value.int .i64 0, Value.int .i64 0, Value.int .i64 0, Value.int .i64 0, Value.int .i64 0, Value.int .i64 0, Value.int .i64 0, Value.int .i64 0, Value.int .i64 0, Value.int .i64 0, Value.int .i64 0, Value.int .i64 0, Value.int .i64 0, Value.int .i64 0, Value.int .i64 0, Value.int .i64 0, Value.int .i64 0, Value.int .i64 0, Value.int .i64 0, Value.int .i64 0, Value.int .i64 0, Value.int .i64 0, Value.int .i64 0, Value.int .i64 0]) ∧ Blk W gb 44 (#[Value.int .i64 0, Value.int .i64 0, Value.int .i64 0, Value.int .i64 0, Value.int .i64 0, Value.int .i64 0, Value.int .i64 0, Value.int .i64 0, Value.int .i64 0, Value.int .i64 0, Value.int .i64 0, Value.int .i64 0, Value.int .i64 0, Value.int .i64 0, Value.int .i64 0, Value.int .i64 0, Value.int .i64 0, Value.int .i64 0, Value.int .i64 0, Value.int .i64 0, Value.int .i64 0, Value.int .i64 0, Value.int .i64 0, Value.int .i64 0, Value.int .i64 0, Value.int .i64 0, Value.int .i64 0, Value.int .i64 0, Value.int .i64 0, Value.int .i64 0, Value.int .i64 0, Value.int .i64 0])) ⟨hHeld, fA, fB⟩ ?_
            clear hHeld fA fB
            rintro W ⟨hHeld, fA, fB⟩
            refine wpAnyH_ready (rs := [6]) (by kernel_rfl) (by simp) ?_
            refine AllReadyH.cons (o := ⟨_, _, _, _, _, _⟩) rfl (fun K hK => ?_) AllReadyH.nil
            rw [if_pos (by rfl)]
            refine wp_store_mid 44 _ _ rfl ga 0 (ints x0) rfl rfl (by rw [ints_size, hl0]; exact blk_there fA) (by rw [ints_size, hl0]; kernel_rfl) (ints_one _) ?_
            have k1 := keep_store (new := ints x0) hHeld fA hnga (by have := hHeld.2.size; omega) (by rw [ints_size, hl0]; rfl)
            have k2 := blk_grown fB (setCells_whole (new := ints x0) fA (by rw [ints_size, hl0]; rfl)).2 (by simp; omega)
            refine hK.out _ _ k1.1 (fun _ => ?_)
            clear hK K
            try simp only [Act.put, List.setIfInBounds_toArray, List.set_cons_zero, List.set_cons_succ]
            replace hHeld := k1.1
            replace fA := k1.2
            replace fB := k2
            clear k1 k2
            refine keep_any (fun W => Keep w ([(w.heap.size, 43, ints a0), (w.heap.size + 1, 43, ints a1)]) W ∧ Blk W ga 44 (ints x0) ∧ Blk W gb 44 (#[Value.int .i64 0, Value.int .i64 0, Value.int .i64 0, Value.int .i64 0, Value.int .i64 0, Value.int .i64 0, Value.int .i64 0, Value.int .i64 0, Value.int .i64 0, Value.int .i64 0, Value.int .i64 0, Value.int .i64 0, Value.int .i64 0, Value.int .i64 0, Value.int .i64 0, Value.int .i64 0, Value.int .i64 0, Value.int .i64 0, Value.int .i64 0, Value.int .i64 0, Value.int .i64 0, Value.int .i64 0, Value.int .i64 0, Value.int .i64 0, Value.int .i64 0, Value.int .i64 0, Value.int .i64 0, Value.int .i64 0, Value.int .i64 0, Value.int .i64 0, Value.int .i64 0, Value.int .i64 0])) ⟨hHeld, fA, fB⟩ ?_
            clear hHeld fA fB
            rintro W ⟨hHeld, fA, fB⟩
            refine wpAnyH_ready (rs := [7]) (by kernel_rfl) (by simp) ?_
            refine AllReadyH.cons (o := ⟨_, _, _, _, _, _⟩) rfl (fun K hK => ?_) AllReadyH.nil
            rw [if_pos (by rfl)]
            refine wp_store_mid 44 _ _ rfl gb 0 (ints x1) rfl rfl (by rw [ints_size, hl1]; exact blk_there fB) (by rw [ints_size, hl1]; kernel_rfl) (ints_one _) ?_
            have k1 := keep_store (new := ints x1) hHeld fB hngb (by have := hHeld.2.size; omega) (by rw [ints_size, hl1]; rfl)
            have k2 := blk_grown fA (setCells_whole (new := ints x1) fB (by rw [ints_size, hl1]; rfl)).2 (by simp; omega)
            refine hK.out _ _ k1.1 (fun _ => ?_)
            clear hK K
            try simp only [Act.put, List.setIfInBounds_toArray, List.set_cons_zero, List.set_cons_succ]
            replace hHeld := k1.1
            replace fB := k1.2
            replace fA := k2
            clear k1 k2
            refine keep_any (fun W => Keep w ([(w.heap.size, 43, ints a0), (w.heap.size + 1, 43, ints a1)]) W ∧ Blk W ga 44 (ints x0) ∧ Blk W gb 44 (ints x1)) ⟨hHeld, fA, fB⟩ ?_
            clear hHeld fA fB
            rintro W ⟨hHeld, fA, fB⟩
            refine wpAnyH_done (by kernel_rfl) ?_ _
            go_wp2_with fail
            go_meet
            exact ⟨ga, gb, rfl, rfl, keep_cons (keep_cons hHeld fB) fA⟩
      focus
        go_simp
        have hn := keep_lt hHeld
        have hsz := hHeld.2.size
        have nf := blk_new W 44 (#[Value.int .i64 0, Value.int .i64 0, Value.int .i64 0, Value.int .i64 0, Value.int .i64 0, Value.int .i64 0, Value.int .i64 0, Value.int .i64 0, Value.int .i64 0, Value.int .i64 0, Value.int .i64 0, Value.int .i64 0, Value.int .i64 0, Value.int .i64 0, Value.int .i64 0, Value.int .i64 0, Value.int .i64 0, Value.int .i64 0, Value.int .i64 0, Value.int .i64 0, Value.int .i64 0, Value.int .i64 0, Value.int .i64 0, Value.int .i64 0, Value.int .i64 0, Value.int .i64 0, Value.int .i64 0, Value.int .i64 0, Value.int .i64 0, Value.int .i64 0, Value.int .i64 0, Value.int .i64 0])
        replace hHeld := keep_alloc hHeld (.cells (#[Value.int .i64 0, Value.int .i64 0, Value.int .i64 0, Value.int .i64 0, Value.int .i64 0, Value.int .i64 0, Value.int .i64 0, Value.int .i64 0, Value.int .i64 0, Value.int .i64 0, Value.int .i64 0, Value.int .i64 0, Value.int .i64 0, Value.int .i64 0, Value.int .i64 0, Value.int .i64 0, Value.int .i64 0, Value.int .i64 0, Value.int .i64 0, Value.int .i64 0, Value.int .i64 0, Value.int .i64 0, Value.int .i64 0, Value.int .i64 0, Value.int .i64 0, Value.int .i64 0, Value.int .i64 0, Value.int .i64 0, Value.int .i64 0, Value.int .i64 0, Value.int .i64 0, Value.int .i64 0]) 44)
        refine hK.out _ _ hHeld (fun _ => ?_)
        clear hK K
        try simp only [Act.put, List.setIfInBounds_toArray, List.set_cons_zero, List.set_cons_succ]
        generalize W.heap.size = gb at *
        have fB := nf
        have hngb := hn
        have hsgb := hsz
        clear nf hn hsz
        refine keep_any (fun W => Keep w ([(w.heap.size, 43, ints a0), (w.heap.size + 1, 43, ints a1)]) W ∧ Blk W gb 44 (#[Value.int .i64 0, Value.int .i64 0, Value.int .i64 0, Value.int .i64 0, Value.int .i64 0, Value.int .i64 0, Value.int .i64 0, Value.int .i64 0, Value.int .i64 0, Value.int .i64 0, Value.int .i64 0, Value.int .i64 0, Value.int .i64 0, Value.int .i64 0, Value.int .i64 0, Value.int .i64 0, Value.int .i64 0, Value.int .i64 0, Value.int .i64 0, Value.int .i64 0, Value.int .i64 0, Value.int .i64 0, Value.int .i64 0, Value.int .i64 0, Value.int .i64 0, Value.int .i64 0, Value.int .i64 0, Value.int .i64 0, Value.int .i64 0, Value.int .i64 0, Value.int .i64 0, Value.int .i64 0])) ⟨hHeld, fB⟩ ?_
        clear hHeld fB
        rintro W ⟨hHeld, fB⟩
        refine wpAnyH_ready (rs := [3, 4]) (by kernel_rfl) (by simp) ?_
        refine AllReadyH.cons (o := ⟨_, _, _, _, _, _⟩) rfl (fun K hK => ?_) (AllReadyH.cons (o := ⟨_, _, _, _, _, _⟩) rfl (fun K hK => ?_) (AllReadyH.nil))
        focus
          go_simp
          refine (h1 _).mono ?_
          rintro e W2 ⟨rfl, hC⟩
          go_simp
          replace hHeld := keep_below hHeld hC
          replace fB := blk_below fB hC (blk_lt fB)
          refine hK.out _ _ hHeld (fun _ => ?_)
          clear hK K hC
          try simp only [Act.put, List.setIfInBounds_toArray, List.set_cons_zero, List.set_cons_succ]
          refine keep_any (fun W => Keep w ([(w.heap.size, 43, ints a0), (w.heap.size + 1, 43, ints a1)]) W ∧ Blk W gb 44 (#[Value.int .i64 0, Value.int .i64 0, Value.int .i64 0, Value.int .i64 0, Value.int .i64 0, Value.int .i64 0, Value.int .i64 0, Value.int .i64 0, Value.int .i64 0, Value.int .i64 0, Value.int .i64 0, Value.int .i64 0, Value.int .i64 0, Value.int .i64 0, Value.int .i64 0, Value.int .i64 0, Value.int .i64 0, Value.int .i64 0, Value.int .i64 0, Value.int .i64 0, Value.int .i64 0, Value.int .i64 0, Value.int .i64 0, Value.int .i64 0, Value.int .i64 0, Value.int .i64 0, Value.int .i64 0, Value.int .i64 0, Value.int .i64 0, Value.int .i64 0, Value.int .i64 0, Value.int .i64 0])) ⟨hHeld, fB⟩ ?_
          clear hHeld fB
          rintro W ⟨hHeld, fB⟩
          refine wpAnyH_ready (rs := [4]) (by kernel_rfl) (by simp) ?_
          refine AllReadyH.cons (o := ⟨_, _, _, _, _, _⟩) rfl (fun K hK => ?_) (AllReadyH.nil)
          focus
            go_simp
            have hn := keep_lt hHeld
            have hsz := hHeld.2.size
            have nf := blk_new W 44 (#[Value.int .i64 0, Value.int .i64 0, Value.int .i64 0, Value.int .i64 0, Value.int .i64 0, Value.int .i64 0, Value.int .i64 0, Value.int .i64 0, Value.int .i64 0, Value.int .i64 0, Value.int .i64 0, Value.int .i64 0, Value.int .i64 0, Value.int .i64 0, Value.int .i64 0, Value.int .i64 0, Value.int .i64 0, Value.int .i64 0, Value.int .i64 0, Value.int .i64 0, Value.int .i64 0, Value.int .i64 0, Value.int .i64 0, Value.int .i64 0, Value.int .i64 0, Value.int .i64 0, Value.int .i64 0, Value.int .i64 0, Value.int .i64 0, Value.int .i64 0, Value.int .i64 0, Value.int .i64 0])
            have hne := blk_lt fB
            replace fB := blk_alloc fB (.cells (#[Value.int .i64 0, Value.int .i64 0, Value.int .i64 0, Value.int .i64 0, Value.int .i64 0, Value.int .i64 0, Value.int .i64 0, Value.int .i64 0, Value.int .i64 0, Value.int .i64 0, Value.int .i64 0, Value.int .i64 0, Value.int .i64 0, Value.int .i64 0, Value.int .i64 0, Value.int .i64 0, Value.int .i64 0, Value.int .i64 0, Value.int .i64 0, Value.int .i64 0, Value.int .i64 0, Value.int .i64 0, Value.int .i64 0, Value.int .i64 0, Value.int .i64 0, Value.int .i64 0, Value.int .i64 0, Value.int .i64 0, Value.int .i64 0, Value.int .i64 0, Value.int .i64 0, Value.int .i64 0]) 44)
            replace hHeld := keep_alloc hHeld (.cells (#[Value.int .i64 0, Value.int .i64 0, Value.int .i64 0, Value.int .i64 0, Value.int .i64 0, Value.int .i64 0, Value.int .i64 0, Value.int .i64 0, Value.int .i64 0, Value.int .i64 0, Value.int .i64 0, Value.int .i64 0, Value.int .i64 0, Value.int .i64 0, Value.int .i64 0, Value.int .i64 0, Value.int .i64 0, Value.int .i64 0, Value.int .i64 0, Value.int .i64 0, Value.int .i64 0, Value.int .i64 0, Value.int .i64 0, Value.int .i64 0, Value.int .i64 0, Value.int .i64 0, Value.int .i64 0, Value.int .i64 0, Value.int .i64 0, Value.int .i64 0, Value.int .i64 0, Value.int .i64 0]) 44)
            refine hK.out _ _ hHeld (fun _ => ?_)
            clear hK K
            try simp only [Act.put, List.setIfInBounds_toArray, List.set_cons_zero, List.set_cons_succ]
            generalize W.heap.size = ga at *
            have fA := nf
            have hnga := hn
            have hsga := hsz
            clear nf hn hsz
            refine keep_any (fun W => Keep w ([(w.heap.size, 43, ints a0), (w.heap.size + 1, 43, ints a1)]) W ∧ Blk W ga 44 (#[Value.int .i64 0, Value.int .i64 0, Value.int .i64 0, Value.int .i64 0, Value.int .i64 0, Value.int .i64 0, Value.int .i64 0, Value.int .i64 0, Value.int .i64 0, Value.int .i64 0, Value.int .i64 0, Value.int .i64 0, Value.int .i64 0, Value.int .i64 0, Value.int .i64 0, Value.int .i64 0, Value.int .i64 0, Value.int .i64 0, Value.int .i64 0, Value.int .i64 0, Value.int .i64 0, Value.int .i64 0, Value.int .i64 0, Value.int .i64 0, Value.int .i64 0, Value.int .i64 0, Value.int .i64 0, Value.int .i64 0, Value.int .i64 0, Value.int .i64 0, Value.int .i64 0, Value.int .i64 0]) ∧ Blk W gb 44 (#[Value.int .i64 0, Value.int .i64 0, Value.int .i64 0, Value.int .i64 0, Value.int .i64 0, Value.int .i64 0, Value.int .i64 0, Value.int .i64 0, Value.int .i64 0, Value.int .i64 0, Value.int .i64 0, Value.int .i64 0, Value.int .i64 0, Value.int .i64 0, Value.int .i64 0, Value.int .i64 0, Value.int .i64 0, Value.int .i64 0, Value.int .i64 0, Value.int .i64 0, Value.int .i64 0, Value.int .i64 0, Value.int .i64 0, Value.int .i64 0, Value.int .i64 0, Value.int .i64 0, Value.int .i64 0, Value.int .i64 0, Value.int .i64 0, Value.int .i64 0, Value.int .i64 0, Value.int .i64 0])) ⟨hHeld, fA, fB⟩ ?_
            clear hHeld fA fB
            rintro W ⟨hHeld, fA, fB⟩
            refine wpAnyH_ready (rs := [6]) (by kernel_rfl) (by simp) ?_
            refine AllReadyH.cons (o := ⟨_, _, _, _, _, _⟩) rfl (fun K hK => ?_) AllReadyH.nil
            rw [if_pos (by rfl)]
            refine wp_store_mid 44 _ _ rfl ga 0 (ints x0) rfl rfl (by rw [ints_size, hl0]; exact blk_there fA) (by rw [ints_size, hl0]; kernel_rfl) (ints_one _) ?_
            have k1 := keep_store (new := ints x0) hHeld fA hnga (by have := hHeld.2.size; omega) (by rw [ints_size, hl0]; rfl)
            have k2 := blk_grown fB (setCells_whole (new := ints x0) fA (by rw [ints_size, hl0]; rfl)).2 (by simp; omega)
            refine hK.out _ _ k1.1 (fun _ => ?_)
            clear hK K
            try simp only [Act.put, List.setIfInBounds_toArray, List.set_cons_zero, List.set_cons_succ]
            replace hHeld := k1.1
            replace fA := k1.2
            replace fB := k2
            clear k1 k2
            refine keep_any (fun W => Keep w ([(w.heap.size, 43, ints a0), (w.heap.size + 1, 43, ints a1)]) W ∧ Blk W ga 44 (ints x0) ∧ Blk W gb 44 (#[Value.int .i64 0, Value.int .i64 0, Value.int .i64 0, Value.int .i64 0, Value.int .i64 0, Value.int .i64 0, Value.int .i64 0, Value.int .i64 0, Value.int .i64 0, Value.int .i64 0, Value.int .i64 0, Value.int .i64 0, Value.int .i64 0, Value.int .i64 0, Value.int .i64 0, Value.int .i64 0, Value.int .i64 0, Value.int .i64 0, Value.int .i64 0, Value.int .i64 0, Value.int .i64 0, Value.int .i64 0, Value.int .i64 0, Value.int .i64 0, Value.int .i64 0, Value.int .i64 0, Value.int .i64 0, Value.int .i64 0, Value.int .i64 0, Value.int .i64 0, Value.int .i64 0, Value.int .i64 0])) ⟨hHeld, fA, fB⟩ ?_
            clear hHeld fA fB
            rintro W ⟨hHeld, fA, fB⟩
            refine wpAnyH_ready (rs := [7]) (by kernel_rfl) (by simp) ?_
            refine AllReadyH.cons (o := ⟨_, _, _, _, _, _⟩) rfl (fun K hK => ?_) AllReadyH.nil
            rw [if_pos (by rfl)]
            refine wp_store_mid 44 _ _ rfl gb 0 (ints x1) rfl rfl (by rw [ints_size, hl1]; exact blk_there fB) (by rw [ints_size, hl1]; kernel_rfl) (ints_one _) ?_
            have k1 := keep_store (new := ints x1) hHeld fB hngb (by have := hHeld.2.size; omega) (by rw [ints_size, hl1]; rfl)
            have k2 := blk_grown fA (setCells_whole (new := ints x1) fB (by rw [ints_size, hl1]; rfl)).2 (by simp; omega)
            refine hK.out _ _ k1.1 (fun _ => ?_)
            clear hK K
            try simp only [Act.put, List.setIfInBounds_toArray, List.set_cons_zero, List.set_cons_succ]
            replace hHeld := k1.1
            replace fB := k1.2
            replace fA := k2
            clear k1 k2
            refine keep_any (fun W => Keep w ([(w.heap.size, 43, ints a0), (w.heap.size + 1, 43, ints a1)]) W ∧ Blk W ga 44 (ints x0) ∧ Blk W gb 44 (ints x1)) ⟨hHeld, fA, fB⟩ ?_
            clear hHeld fA fB
            rintro W ⟨hHeld, fA, fB⟩
            refine wpAnyH_done (by kernel_rfl) ?_ _
            go_wp2_with fail
            go_meet
            exact ⟨ga, gb, rfl, rfl, keep_cons (keep_cons hHeld fB) fA⟩
        focus
          go_simp
          have hn := keep_lt hHeld
          have hsz := hHeld.2.size
          have nf := blk_new W 44 (#[Value.int .i64 0, Value.int .i64 0, Value.int .i64 0, Value.int .i64 0, Value.int .i64 0, Value.int .i64 0, Value.int .i64 0, Value.int .i64 0, Value.int .i64 0, Value.int .i64 0, Value.int .i64 0, Value.int .i64 0, Value.int .i64 0, Value.int .i64 0, Value.int .i64 0, Value.int .i64 0, Value.int .i64 0, Value.int .i64 0, Value.int .i64 0, Value.int .i64 0, Value.int .i64 0, Value.int .i64 0, Value.int .i64 0, Value.int .i64 0, Value.int .i64 0, Value.int .i64 0, Value.int .i64 0, Value.int .i64 0, Value.int .i64 0, Value.int .i64 0, Value.int .i64 0, Value.int .i64 0])
          have hne := blk_lt fB
          replace fB := blk_alloc fB (.cells (#[Value.int .i64 0, Value.int .i64 0, Value.int .i64 0, Value.int .i64 0, Value.int .i64 0, Value.int .i64 0, Value.int .i64 0, Value.int .i64 0, Value.int .i64 0, Value.int .i64 0, Value.int .i64 0, Value.int .i64 0, Value.int .i64 0, Value.int .i64 0, Value.int .i64 0, Value.int .i64 0, Value.int .i64 0, Value.int .i64 0, Value.int .i64 0, Value.int .i64 0, Value.int .i64 0, Value.int .i64 0, Value.int .i64 0, Value.int .i64 0, Value.int .i64 0, Value.int .i64 0, Value.int .i64 0, Value.int .i64 0, Value.int .i64 0, Value.int .i64 0, Value.int .i64 0, Value.int .i64 0]) 44)
          replace hHeld := keep_alloc hHeld (.cells (#[Value.int .i64 0, Value.int .i64 0, Value.int .i64 0, Value.int .i64 0, Value.int .i64 0, Value.int .i64 0, Value.int .i64 0, Value.int .i64 0, Value.int .i64 0, Value.int .i64 0, Value.int .i64 0, Value.int .i64 0, Value.int .i64 0, Value.int .i64 0, Value.int .i64 0, Value.int .i64 0, Value.int .i64 0, Value.int .i64 0, Value.int .i64 0, Value.int .i64 0, Value.int .i64 0, Value.int .i64 0, Value.int .i64 0, Value.int .i64 0, Value.int .i64 0, Value.int .i64 0, Value.int .i64 0, Value.int .i64 0, Value.int .i64 0, Value.int .i64 0, Value.int .i64 0, Value.int .i64 0]) 44)
          refine hK.out _ _ hHeld (fun _ => ?_)
          clear hK K
          try simp only [Act.put, List.setIfInBounds_toArray, List.set_cons_zero, List.set_cons_succ]
          generalize W.heap.size = ga at *
          have fA := nf
          have hnga := hn
          have hsga := hsz
          clear nf hn hsz
          refine keep_any (fun W => Keep w ([(w.heap.size, 43, ints a0), (w.heap.size + 1, 43, ints a1)]) W ∧ Blk W ga 44 (#[Value.int .i64 0, Value.int .i64 0, Value.int .i64 0, Value.int .i64 0, Value.int .i64 0, Value.int .i64 0, Value.int .i64 0, Value.int .i64 0, Value.int .i64 0, Value.int .i64 0, Value.int .i64 0, Value.int .i64 0, Value.int .i64 0, Value.int .i64 0, Value.int .i64 0, Value.int .i64 0, Value.int .i64 0, Value.int .i64 0, Value.int .i64 0, Value.int .i64 0, Value.int .i64 0, Value.int .i64 0, Value.int .i64 0, Value.int .i64 0, Value.int .i64 0, Value.int .i64 0, Value.int .i64 0, Value.int .i64 0, Value.int .i64 0, Value.int .i64 0, Value.int .i64 0, Value.int .i64 0]) ∧ Blk W gb 44 (#[Value.int .i64 0, Value.int .i64 0, Value.int .i64 0, Value.int .i64 0, Value.int .i64 0, Value.int .i64 0, Value.int .i64 0, Value.int .i64 0, Value.int .i64 0, Value.int .i64 0, Value.int .i64 0, Value.int .i64 0, Value.int .i64 0, Value.int .i64 0, Value.int .i64 0, Value.int .i64 0, Value.int .i64 0, Value.int .i64 0, Value.int .i64 0, Value.int .i64 0, Value.int .i64 0, Value.int .i64 0, Value.int .i64 0, Value.int .i64 0, Value.int .i64 0, Value.int .i64 0, Value.int .i64 0, Value.int .i64 0, Value.int .i64 0, Value.int .i64 0, Value.int .i64 0, Value.int .i64 0])) ⟨hHeld, fA, fB⟩ ?_
          clear hHeld fA fB
          rintro W ⟨hHeld, fA, fB⟩
          refine wpAnyH_ready (rs := [3]) (by kernel_rfl) (by simp) ?_
          refine AllReadyH.cons (o := ⟨_, _, _, _, _, _⟩) rfl (fun K hK => ?_) (AllReadyH.nil)
          focus
            go_simp
            refine (h1 _).mono ?_
            rintro e W2 ⟨rfl, hC⟩
            go_simp
            replace hHeld := keep_below hHeld hC
            replace fA := blk_below fA hC (blk_lt fA)
            replace fB := blk_below fB hC (blk_lt fB)
            refine hK.out _ _ hHeld (fun _ => ?_)
            clear hK K hC
            try simp only [Act.put, List.setIfInBounds_toArray, List.set_cons_zero, List.set_cons_succ]
            refine keep_any (fun W => Keep w ([(w.heap.size, 43, ints a0), (w.heap.size + 1, 43, ints a1)]) W ∧ Blk W ga 44 (#[Value.int .i64 0, Value.int .i64 0, Value.int .i64 0, Value.int .i64 0, Value.int .i64 0, Value.int .i64 0, Value.int .i64 0, Value.int .i64 0, Value.int .i64 0, Value.int .i64 0, Value.int .i64 0, Value.int .i64 0, Value.int .i64 0, Value.int .i64 0, Value.int .i64 0, Value.int .i64 0, Value.int .i64 0, Value.int .i64 0, Value.int .i64 0, Value.int .i64 0, Value.int .i64 0, Value.int .i64 0, Value.int .i64 0, Value.int .i64 0, Value.int .i64 0, Value.int .i64 0, Value.int .i64 0, Value.int .i64 0, Value.int .i64 0, Value.int .i64 0, Value.int .i64 0, Value.int .i64 0]) ∧ Blk W gb 44 (#[Value.int .i64 0, Value.int .i64 0, Value.int .i64 0, Value.int .i64 0, Value.int .i64 0, Value.int .i64 0, Value.int .i64 0, Value.int .i64 0, Value.int .i64 0, Value.int .i64 0, Value.int .i64 0, Value.int .i64 0, Value.int .i64 0, Value.int .i64 0, Value.int .i64 0, Value.int .i64 0, Value.int .i64 0, Value.int .i64 0, Value.int .i64 0, Value.int .i64 0, Value.int .i64 0, Value.int .i64 0, Value.int .i64 0, Value.int .i64 0, Value.int .i64 0, Value.int .i64 0, Value.int .i64 0, Value.int .i64 0, Value.int .i64 0, Value.int .i64 0, Value.int .i64 0, Value.int .i64 0])) ⟨hHeld, fA, fB⟩ ?_
            clear hHeld fA fB
            rintro W ⟨hHeld, fA, fB⟩
            refine wpAnyH_ready (rs := [6]) (by kernel_rfl) (by simp) ?_
            refine AllReadyH.cons (o := ⟨_, _, _, _, _, _⟩) rfl (fun K hK => ?_) AllReadyH.nil
            rw [if_pos (by rfl)]
            refine wp_store_mid 44 _ _ rfl ga 0 (ints x0) rfl rfl (by rw [ints_size, hl0]; exact blk_there fA) (by rw [ints_size, hl0]; kernel_rfl) (ints_one _) ?_
            have k1 := keep_store (new := ints x0) hHeld fA hnga (by have := hHeld.2.size; omega) (by rw [ints_size, hl0]; rfl)
            have k2 := blk_grown fB (setCells_whole (new := ints x0) fA (by rw [ints_size, hl0]; rfl)).2 (by simp; omega)
            refine hK.out _ _ k1.1 (fun _ => ?_)
            clear hK K
            try simp only [Act.put, List.setIfInBounds_toArray, List.set_cons_zero, List.set_cons_succ]
            replace hHeld := k1.1
            replace fA := k1.2
            replace fB := k2
            clear k1 k2
            refine keep_any (fun W => Keep w ([(w.heap.size, 43, ints a0), (w.heap.size + 1, 43, ints a1)]) W ∧ Blk W ga 44 (ints x0) ∧ Blk W gb 44 (#[Value.int .i64 0, Value.int .i64 0, Value.int .i64 0, Value.int .i64 0, Value.int .i64 0, Value.int .i64 0, Value.int .i64 0, Value.int .i64 0, Value.int .i64 0, Value.int .i64 0, Value.int .i64 0, Value.int .i64 0, Value.int .i64 0, Value.int .i64 0, Value.int .i64 0, Value.int .i64 0, Value.int .i64 0, Value.int .i64 0, Value.int .i64 0, Value.int .i64 0, Value.int .i64 0, Value.int .i64 0, Value.int .i64 0, Value.int .i64 0, Value.int .i64 0, Value.int .i64 0, Value.int .i64 0, Value.int .i64 0, Value.int .i64 0, Value.int .i64 0, Value.int .i64 0, Value.int .i64 0])) ⟨hHeld, fA, fB⟩ ?_
            clear hHeld fA fB
            rintro W ⟨hHeld, fA, fB⟩
            refine wpAnyH_ready (rs := [7]) (by kernel_rfl) (by simp) ?_
            refine AllReadyH.cons (o := ⟨_, _, _, _, _, _⟩) rfl (fun K hK => ?_) AllReadyH.nil
            rw [if_pos (by rfl)]
            refine wp_store_mid 44 _ _ rfl gb 0 (ints x1) rfl rfl (by rw [ints_size, hl1]; exact blk_there fB) (by rw [ints_size, hl1]; kernel_rfl) (ints_one _) ?_
            have k1 := keep_store (new := ints x1) hHeld fB hngb (by have := hHeld.2.size; omega) (by rw [ints_size, hl1]; rfl)
            have k2 := blk_grown fA (setCells_whole (new := ints x1) fB (by rw [ints_size, hl1]; rfl)).2 (by simp; omega)
            refine hK.out _ _ k1.1 (fun _ => ?_)
            clear hK K
            try simp only [Act.put, List.setIfInBounds_toArray, List.set_cons_zero, List.set_cons_succ]
            replace hHeld := k1.1
            replace fB := k1.2
            replace fA := k2
            clear k1 k2
            refine keep_any (fun W => Keep w ([(w.heap.size, 43, ints a0), (w.heap.size + 1, 43, ints a1)]) W ∧ Blk W ga 44 (ints x0) ∧ Blk W gb 44 (ints x1)) ⟨hHeld, fA, fB⟩ ?_
            clear hHeld fA fB
            rintro W ⟨hHeld, fA, fB⟩
            refine wpAnyH_done (by kernel_rfl) ?_ _
            go_wp2_with fail
            go_meet
            exact ⟨ga, gb, rfl, rfl, keep_cons (keep_cons hHeld fB) fA⟩
    focus
      go_simp
      have hn := keep_lt hHeld
      have hsz := hHeld.2.size
      have nf := blk_new W 44 (#[Value.int .i64 0, Value.int .i64 0, Value.int .i64 0, Value.int .i64 0, Value.int .i64 0, Value.int .i64 0, Value.int .i64 0, Value.int .i64 0, Value.int .i64 0, Value.int .i64 0, Value.int .i64 0, Value.int .i64 0, Value.int .i64 0, Value.int .i64 0, Value.int .i64 0, Value.int .i64 0, Value.int .i64 0, Value.int .i64 0, Value.int .i64 0, Value.int .i64 0, Value.int .i64 0, Value.int .i64 0, Value.int .i64 0, Value.int .i64 0, Value.int .i64 0, Value.int .i64 0, Value.int .i64 0, Value.int .i64 0, Value.int .i64 0, Value.int .i64 0, Value.int .i64 0, Value.int .i64 0])
      replace hHeld := keep_alloc hHeld (.cells (#[Value.int .i64 0, Value.int .i64 0, Value.int .i64 0, Value.int .i64 0, Value.int .i64 0, Value.int .i64 0, Value.int .i64 0, Value.int .i64 0, Value.int .i64 0, Value.int .i64 0, Value.int .i64 0, Value.int .i64 0, Value.int .i64 0, Value.int .i64 0, Value.int .i64 0, Value.int .i64 0, Value.int .i64 0, Value.int .i64 0, Value.int .i64 0, Value.int .i64 0, Value.int .i64 0, Value.int .i64 0, Value.int .i64 0, Value.int .i64 0, Value.int .i64 0, Value.int .i64 0, Value.int .i64 0, Value.int .i64 0, Value.int .i64 0, Value.int .i64 0, Value.int .i64 0, Value.int .i64 0]) 44)
      refine hK.out _ _ hHeld (fun _ => ?_)
      clear hK K
      try simp only [Act.put, List.setIfInBounds_toArray, List.set_cons_zero, List.set_cons_succ]
      generalize W.heap.size = ga at *
      have fA := nf
      have hnga := hn
      have hsga := hsz
      clear nf hn hsz
      refine keep_any (fun W => Keep w ([(w.heap.size, 43, ints a0), (w.heap.size + 1, 43, ints a1)]) W ∧ Blk W ga 44 (#[Value.int .i64 0, Value.int .i64 0, Value.int .i64 0, Value.int .i64 0, Value.int .i64 0, Value.int .i64 0, Value.int .i64 0, Value.int .i64 0, Value.int .i64 0, Value.int .i64 0, Value.int .i64 0, Value.int .i64 0, Value.int .i64 0, Value.int .i64 0, Value.int .i64 0, Value.int .i64 0, Value.int .i64 0, Value.int .i64 0, Value.int .i64 0, Value.int .i64 0, Value.int .i64 0, Value.int .i64 0, Value.int .i64 0, Value.int .i64 0, Value.int .i64 0, Value.int .i64 0, Value.int .i64 0, Value.int .i64 0, Value.int .i64 0, Value.int .i64 0, Value.int .i64 0, Value.int .i64 0])) ⟨hHeld, fA⟩ ?_
      clear hHeld fA
      rintro W ⟨hHeld, fA⟩
      refine wpAnyH_ready (rs := [1, 5]) (by kernel_rfl) (by simp) ?_
      refine AllReadyH.cons (o := ⟨_, _, _, _, _, _⟩) rfl (fun K hK => ?_) (AllReadyH.cons (o := ⟨_, _, _, _, _, _⟩) rfl (fun K hK => ?_) (AllReadyH.nil))
      focus
        go_simp
        refine (h0 _).mono ?_
        rintro e W2 ⟨rfl, hC⟩
        go_simp
        replace hHeld := keep_below hHeld hC
        replace fA := blk_below fA hC (blk_lt fA)
        refine hK.out _ _ hHeld (fun _ => ?_)
        clear hK K hC
        try simp only [Act.put, List.setIfInBounds_toArray, List.set_cons_zero, List.set_cons_succ]
        refine keep_any (fun W => Keep w ([(w.heap.size, 43, ints a0), (w.heap.size + 1, 43, ints a1)]) W ∧ Blk W ga 44 (#[Value.int .i64 0, Value.int .i64 0, Value.int .i64 0, Value.int .i64 0, Value.int .i64 0, Value.int .i64 0, Value.int .i64 0, Value.int .i64 0, Value.int .i64 0, Value.int .i64 0, Value.int .i64 0, Value.int .i64 0, Value.int .i64 0, Value.int .i64 0, Value.int .i64 0, Value.int .i64 0, Value.int .i64 0, Value.int .i64 0, Value.int .i64 0, Value.int .i64 0, Value.int .i64 0, Value.int .i64 0, Value.int .i64 0, Value.int .i64 0, Value.int .i64 0, Value.int .i64 0, Value.int .i64 0, Value.int .i64 0, Value.int .i64 0, Value.int .i64 0, Value.int .i64 0, Value.int .i64 0])) ⟨hHeld, fA⟩ ?_
        clear hHeld fA
        rintro W ⟨hHeld, fA⟩
        refine wpAnyH_ready (rs := [3, 5]) (by kernel_rfl) (by simp) ?_
        refine AllReadyH.cons (o := ⟨_, _, _, _, _, _⟩) rfl (fun K hK => ?_) (AllReadyH.cons (o := ⟨_, _, _, _, _, _⟩) rfl (fun K hK => ?_) (AllReadyH.nil))
        focus
          go_simp
          refine (h1 _).mono ?_
          rintro e W2 ⟨rfl, hC⟩
          go_simp
          replace hHeld := keep_below hHeld hC
          replace fA := blk_below fA hC (blk_lt fA)
          refine hK.out _ _ hHeld (fun _ => ?_)
          clear hK K hC
          try simp only [Act.put, List.setIfInBounds_toArray, List.set_cons_zero, List.set_cons_succ]
          refine keep_any (fun W => Keep w ([(w.heap.size, 43, ints a0), (w.heap.size + 1, 43, ints a1)]) W ∧ Blk W ga 44 (#[Value.int .i64 0, Value.int .i64 0, Value.int .i64 0, Value.int .i64 0, Value.int .i64 0, Value.int .i64 0, Value.int .i64 0, Value.int .i64 0, Value.int .i64 0, Value.int .i64 0, Value.int .i64 0, Value.int .i64 0, Value.int .i64 0, Value.int .i64 0, Value.int .i64 0, Value.int .i64 0, Value.int .i64 0, Value.int .i64 0, Value.int .i64 0, Value.int .i64 0, Value.int .i64 0, Value.int .i64 0, Value.int .i64 0, Value.int .i64 0, Value.int .i64 0, Value.int .i64 0, Value.int .i64 0, Value.int .i64 0, Value.int .i64 0, Value.int .i64 0, Value.int .i64 0, Value.int .i64 0])) ⟨hHeld, fA⟩ ?_
          clear hHeld fA
          rintro W ⟨hHeld, fA⟩
          refine wpAnyH_ready (rs := [5]) (by kernel_rfl) (by simp) ?_
          refine AllReadyH.cons (o := ⟨_, _, _, _, _, _⟩) rfl (fun K hK => ?_) (AllReadyH.nil)
          focus
            go_simp
            have hn := keep_lt hHeld
            have hsz := hHeld.2.size
            have nf := blk_new W 44 (#[Value.int .i64 0, Value.int .i64 0, Value.int .i64 0, Value.int .i64 0, Value.int .i64 0, Value.int .i64 0, Value.int .i64 0, Value.int .i64 0, Value.int .i64 0, Value.int .i64 0, Value.int .i64 0, Value.int .i64 0, Value.int .i64 0, Value.int .i64 0, Value.int .i64 0, Value.int .i64 0, Value.int .i64 0, Value.int .i64 0, Value.int .i64 0, Value.int .i64 0, Value.int .i64 0, Value.int .i64 0, Value.int .i64 0, Value.int .i64 0, Value.int .i64 0, Value.int .i64 0, Value.int .i64 0, Value.int .i64 0, Value.int .i64 0, Value.int .i64 0, Value.int .i64 0, Value.int .i64 0])
            have hne := blk_lt fA
            replace fA := blk_alloc fA (.cells (#[Value.int .i64 0, Value.int .i64 0, Value.int .i64 0, Value.int .i64 0, Value.int .i64 0, Value.int .i64 0, Value.int .i64 0, Value.int .i64 0, Value.int .i64 0, Value.int .i64 0, Value.int .i64 0, Value.int .i64 0, Value.int .i64 0, Value.int .i64 0, Value.int .i64 0, Value.int .i64 0, Value.int .i64 0, Value.int .i64 0, Value.int .i64 0, Value.int .i64 0, Value.int .i64 0, Value.int .i64 0, Value.int .i64 0, Value.int .i64 0, Value.int .i64 0, Value.int .i64 0, Value.int .i64 0, Value.int .i64 0, Value.int .i64 0, Value.int .i64 0, Value.int .i64 0, Value.int .i64 0]) 44)
            replace hHeld := keep_alloc hHeld (.cells (#[Value.int .i64 0, Value.int .i64 0, Value.int .i64 0, Value.int .i64 0, Value.int .i64 0, Value.int .i64 0, Value.int .i64 0, Value.int .i64 0, Value.int .i64 0, Value.int .i64 0, Value.int .i64 0, Value.int .i64 0, Value.int .i64 0, Value.int .i64 0, Value.int .i64 0, Value.int .i64 0, Value.int .i64 0, Value.int .i64 0, Value.int .i64 0, Value.int .i64 0, Value.int .i64 0, Value.int .i64 0, Value.int .i64 0, Value.int .i64 0, Value.int .i64 0, Value.int .i64 0, Value.int .i64 0, Value.int .i64 0, Value.int .i64 0, Value.int .i64 0, Value.int .i64 0, Value.int .i64 0]) 44)
            refine hK.out _ _ hHeld (fun _ => ?_)
            clear hK K
            try simp only [Act.put, List.setIfInBounds_toArray, List.set_cons_zero, List.set_cons_succ]
            generalize W.heap.size = gb at *
            have fB := nf
            have hngb := hn
            have hsgb := hsz
            clear nf hn hsz
            refine keep_any (fun W => Keep w ([(w.heap.size, 43, ints a0), (w.heap.size + 1, 43, ints a1)]) W ∧ Blk W ga 44 (#[Value.int .i64 0, Value.int .i64 0, Value.int .i64 0, Value.int .i64 0, Value.int .i64 0, Value.int .i64 0, Value.int .i64 0, Value.int .i64 0, Value.int .i64 0, Value.int .i64 0, Value.int .i64 0, Value.int .i64 0, Value.int .i64 0, Value.int .i64 0, Value.int .i64 0, Value.int .i64 0, Value.int .i64 0, Value.int .i64 0, Value.int .i64 0, Value.int .i64 0, Value.int .i64 0, Value.int .i64 0, Value.int .i64 0, Value.int .i64 0, Value.int .i64 0, Value.int .i64 0, Value.int .i64 0, Value.int .i64 0, Value.int .i64 0, Value.int .i64 0, Value.int .i64 0, Value.int .i64 0]) ∧ Blk W gb 44 (#[Value.int .i64 0, Value.int .i64 0, Value.int .i64 0, Value.int .i64 0, Value.int .i64 0, Value.int .i64 0, Value.int .i64 0, Value.int .i64 0, Value.int .i64 0, Value.int .i64 0, Value.int .i64 0, Value.int .i64 0, Value.int .i64 0, Value.int .i64 0, Value.int .i64 0, Value.int .i64 0, Value.int .i64 0, Value.int .i64 0, Value.int .i64 0, Value.int .i64 0, Value.int .i64 0, Value.int .i64 0, Value.int .i64 0, Value.int .i64 0, Value.int .i64 0, Value.int .i64 0, Value.int .i64 0, Value.int .i64 0, Value.int .i64 0, Value.int .i64 0, Value.int .i64 0, Value.int .i64 0])) ⟨hHeld, fA, fB⟩ ?_
            clear hHeld fA fB
            rintro W ⟨hHeld, fA, fB⟩
            refine wpAnyH_ready (rs := [6]) (by kernel_rfl) (by simp) ?_
            refine AllReadyH.cons (o := ⟨_, _, _, _, _, _⟩) rfl (fun K hK => ?_) AllReadyH.nil
            rw [if_pos (by rfl)]
            refine wp_store_mid 44 _ _ rfl ga 0 (ints x0) rfl rfl (by rw [ints_size, hl0]; exact blk_there fA) (by rw [ints_size, hl0]; kernel_rfl) (ints_one _) ?_
            have k1 := keep_store (new := ints x0) hHeld fA hnga (by have := hHeld.2.size; omega) (by rw [ints_size, hl0]; rfl)
            have k2 := blk_grown fB (setCells_whole (new := ints x0) fA (by rw [ints_size, hl0]; rfl)).2 (by simp; omega)
            refine hK.out _ _ k1.1 (fun _ => ?_)
            clear hK K
            try simp only [Act.put, List.setIfInBounds_toArray, List.set_cons_zero, List.set_cons_succ]
            replace hHeld := k1.1
            replace fA := k1.2
            replace fB := k2
            clear k1 k2
            refine keep_any (fun W => Keep w ([(w.heap.size, 43, ints a0), (w.heap.size + 1, 43, ints a1)]) W ∧ Blk W ga 44 (ints x0) ∧ Blk W gb 44 (#[Value.int .i64 0, Value.int .i64 0, Value.int .i64 0, Value.int .i64 0, Value.int .i64 0, Value.int .i64 0, Value.int .i64 0, Value.int .i64 0, Value.int .i64 0, Value.int .i64 0, Value.int .i64 0, Value.int .i64 0, Value.int .i64 0, Value.int .i64 0, Value.int .i64 0, Value.int .i64 0, Value.int .i64 0, Value.int .i64 0, Value.int .i64 0, Value.int .i64 0, Value.int .i64 0, Value.int .i64 0, Value.int .i64 0, Value.int .i64 0, Value.int .i64 0, Value.int .i64 0, Value.int .i64 0, Value.int .i64 0, Value.int .i64 0, Value.int .i64 0, Value.int .i64 0, Value.int .i64 0])) ⟨hHeld, fA, fB⟩ ?_
            clear hHeld fA fB
            rintro W ⟨hHeld, fA, fB⟩
            refine wpAnyH_ready (rs := [7]) (by kernel_rfl) (by simp) ?_
            refine AllReadyH.cons (o := ⟨_, _, _, _, _, _⟩) rfl (fun K hK => ?_) AllReadyH.nil
            rw [if_pos (by rfl)]
            refine wp_store_mid 44 _ _ rfl gb 0 (ints x1) rfl rfl (by rw [ints_size, hl1]; exact blk_there fB) (by rw [ints_size, hl1]; kernel_rfl) (ints_one _) ?_
            have k1 := keep_store (new := ints x1) hHeld fB hngb (by have := hHeld.2.size; omega) (by rw [ints_size, hl1]; rfl)
            have k2 := blk_grown fA (setCells_whole (new := ints x1) fB (by rw [ints_size, hl1]; rfl)).2 (by simp; omega)
            refine hK.out _ _ k1.1 (fun _ => ?_)
            clear hK K
            try simp only [Act.put, List.setIfInBounds_toArray, List.set_cons_zero, List.set_cons_succ]
            replace hHeld := k1.1
            replace fB := k1.2
            replace fA := k2
            clear k1 k2
            refine keep_any (fun W => Keep w ([(w.heap.size, 43, ints a0), (w.heap.size + 1, 43, ints a1)]) W ∧ Blk W ga 44 (ints x0) ∧ Blk W gb 44 (ints x1)) ⟨hHeld, fA, fB⟩ ?_
            clear hHeld fA fB
            rintro W ⟨hHeld, fA, fB⟩
            refine wpAnyH_done (by kernel_rfl) ?_ _
            go_wp2_with fail
            go_meet
            exact ⟨ga, gb, rfl, rfl, keep_cons (keep_cons hHeld fB) fA⟩
        focus
          go_simp
          have hn := keep_lt hHeld
          have hsz := hHeld.2.size
          have nf := blk_new W 44 (#[Value.int .i64 0, Value.int .i64 0, Value.int .i64 0, Value.int .i64 0, Value.int .i64 0, Value.int .i64 0, Value.int .i64 0, Value.int .i64 0, Value.int .i64 0, Value.int .i64 0, Value.int .i64 0, Value.int .i64 0, Value.int .i64 0, Value.int .i64 0, Value.int .i64 0, Value.int .i64 0, Value.int .i64 0, Value.int .i64 0, Value.int .i64 0, Value.int .i64 0, Value.int .i64 0, Value.int .i64 0, Value.int .i64 0, Value.int .i64 0, Value.int .i64 0, Value.int .i64 0, Value.int .i64 0, Value.int .i64 0, Value.int .i64 0, Value.int .i64 0, Value.int .i64 0, Value.int .i64 0])
          have hne := blk_lt fA
          replace fA := blk_alloc fA (.cells (#[Value.int .i64 0, Value.int .i64 0, Value.int .i64 0, Value.int .i64 0, Value.int .i64 0, Value.int .i64 0, Value.int .i64 0, Value.int .i64 0, Value.int .i64 0, Value.int .i64 0, Value.int .i64 0, Value.int .i64 0, Value.int .i64 0, Value.int .i64 0, Value.int .i64 0, Value.int .i64 0, Value.int .i64 0, Value.int .i64 0, Value.int .i64 0, Value.int .i64 0, Value.int .i64 0, Value.int .i64 0, Value.int .i64 0, Value.int .i64 0, Value.int .i64 0, Value.int .i64 0, Value.int .i64 0, Value.int .i64 0, Value.int .i64 0, Value.int .i64 0, Value.int .i64 0, Value.int .i64 0]) 44)
          replace hHeld := keep_alloc hHeld (.cells (#[Value.int .i64 0, Value.int .i64 0, Value.int .i64 0, Value.int .i64 0, Value.int .i64 0, Value.int .i64 0, Value.int .i64 0, Value.int .i64 0, Value.int .i64 0, Value.int .i64 0, Value.int .i64 0, Value.int .i64 0, Value.int .i64 0, Value.int .i64 0, Value.int .i64 0, Value.int .i64 0, Value.int .i64 0, Value.int .i64 0, Value.int .i64 0, Value.int .i64 0, Value.int .i64 0, Value.int .i64 0, Value.int .i64 0, Value.int .i64 0, Value.int .i64 0, Value.int .i64 0, Value.int .i64 0, Value.int .i64 0, Value.int .i64 0, Value.int .i64 0, Value.int .i64 0, Value.int .i64 0]) 44)
          refine hK.out _ _ hHeld (fun _ => ?_)
          clear hK K
          try simp only [Act.put, List.setIfInBounds_toArray, List.set_cons_zero, List.set_cons_succ]
          generalize W.heap.size = gb at *
          have fB := nf
          have hngb := hn
          have hsgb := hsz
          clear nf hn hsz
          refine keep_any (fun W => Keep w ([(w.heap.size, 43, ints a0), (w.heap.size + 1, 43, ints a1)]) W ∧ Blk W ga 44 (#[Value.int .i64 0, Value.int .i64 0, Value.int .i64 0, Value.int .i64 0, Value.int .i64 0, Value.int .i64 0, Value.int .i64 0, Value.int .i64 0, Value.int .i64 0, Value.int .i64 0, Value.int .i64 0, Value.int .i64 0, Value.int .i64 0, Value.int .i64 0, Value.int .i64 0, Value.int .i64 0, Value.int .i64 0, Value.int .i64 0, Value.int .i64 0, Value.int .i64 0, Value.int .i64 0, Value.int .i64 0, Value.int .i64 0, Value.int .i64 0, Value.int .i64 0, Value.int .i64 0, Value.int .i64 0, Value.int .i64 0, Value.int .i64 0, Value.int .i64 0, Value.int .i64 0, Value.int .i64 0]) ∧ Blk W gb 44 (#[Value.int .i64 0, Value.int .i64 0, Value.int .i64 0, Value.int .i64 0, Value.int .i64 0, Value.int .i64 0, Value.int .i64 0, Value.int .i64 0, Value.int .i64 0, Value.int .i64 0, Value.int .i64 0, Value.int .i64 0, Value.int .i64 0, Value.int .i64 0, Value.int .i64 0, Value.int .i64 0, Value.int .i64 0, Value.int .i64 0, Value.int .i64 0, Value.int .i64 0, Value.int .i64 0, Value.int .i64 0, Value.int .i64 0, Value.int .i64 0, Value.int .i64 0, Value.int .i64 0, Value.int .i64 0, Value.int .i64 0, Value.int .i64 0, Value.int .i64 0, Value.int .i64 0, Value.int .i64 0])) ⟨hHeld, fA, fB⟩ ?_
          clear hHeld fA fB
          rintro W ⟨hHeld, fA, fB⟩
          refine wpAnyH_ready (rs := [3]) (by kernel_rfl) (by simp) ?_
          refine AllReadyH.cons (o := ⟨_, _, _, _, _, _⟩) rfl (fun K hK => ?_) (AllReadyH.nil)
          focus
            go_simp
            refine (h1 _).mono ?_
            rintro e W2 ⟨rfl, hC⟩
            go_simp
            replace hHeld := keep_below hHeld hC
            replace fA := blk_below fA hC (blk_lt fA)
            replace fB := blk_below fB hC (blk_lt fB)
            refine hK.out _ _ hHeld (fun _ => ?_)
            clear hK K hC
            try simp only [Act.put, List.setIfInBounds_toArray, List.set_cons_zero, List.set_cons_succ]
            refine keep_any (fun W => Keep w ([(w.heap.size, 43, ints a0), (w.heap.size + 1, 43, ints a1)]) W ∧ Blk W ga 44 (#[Value.int .i64 0, Value.int .i64 0, Value.int .i64 0, Value.int .i64 0, Value.int .i64 0, Value.int .i64 0, Value.int .i64 0, Value.int .i64 0, Value.int .i64 0, Value.int .i64 0, Value.int .i64 0, Value.int .i64 0, Value.int .i64 0, Value.int .i64 0, Value.int .i64 0, Value.int .i64 0, Value.int .i64 0, Value.int .i64 0, Value.int .i64 0, Value.int .i64 0, Value.int .i64 0, Value.int .i64 0, Value.int .i64 0, Value.int .i64 0, Value.int .i64 0, Value.int .i64 0, Value.int .i64 0, Value.int .i64 0, Value.int .i64 0, Value.int .i64 0, Value.int .i64 0, Value.int .i64 0]) ∧ Blk W gb 44 (#[Value.int .i64 0, Value.int .i64 0, Value.int .i64 0, Value.int .i64 0, Value.int .i64 0, Value.int .i64 0, Value.int .i64 0, Value.int .i64 0, Value.int .i64 0, Value.int .i64 0, Value.int .i64 0, Value.int .i64 0, Value.int .i64 0, Value.int .i64 0, Value.int .i64 0, Value.int .i64 0, Value.int .i64 0, Value.int .i64 0, Value.int .i64 0, Value.int .i64 0, Value.int .i64 0, Value.int .i64 0, Value.int .i64 0, Value.int .i64 0, Value.int .i64 0, Value.int .i64 0, Value.int .i64 0, Value.int .i64 0, Value.int .i64 0, Value.int .i64 0, Value.int .i64 0, Value.int .i64 0])) ⟨hHeld, fA, fB⟩ ?_
            clear hHeld fA fB
            rintro W ⟨hHeld, fA, fB⟩
            refine wpAnyH_ready (rs := [6]) (by kernel_rfl) (by simp) ?_
            refine AllReadyH.cons (o := ⟨_, _, _, _, _, _⟩) rfl (fun K hK => ?_) AllReadyH.nil
            rw [if_pos (by rfl)]
            refine wp_store_mid 44 _ _ rfl ga 0 (ints x0) rfl rfl (by rw [ints_size, hl0]; exact blk_there fA) (by rw [ints_size, hl0]; kernel_rfl) (ints_one _) ?_
            have k1 := keep_store (new := ints x0) hHeld fA hnga (by have := hHeld.2.size; omega) (by rw [ints_size, hl0]; rfl)
            have k2 := blk_grown fB (setCells_whole (new := ints x0) fA (by rw [ints_size, hl0]; rfl)).2 (by simp; omega)
            refine hK.out _ _ k1.1 (fun _ => ?_)
            clear hK K
            try simp only [Act.put, List.setIfInBounds_toArray, List.set_cons_zero, List.set_cons_succ]
            replace hHeld := k1.1
            replace fA := k1.2
            replace fB := k2
            clear k1 k2
            refine keep_any (fun W => Keep w ([(w.heap.size, 43, ints a0), (w.heap.size + 1, 43, ints a1)]) W ∧ Blk W ga 44 (ints x0) ∧ Blk W gb 44 (#[Value.int .i64 0, Value.int .i64 0, Value.int .i64 0, Value.int .i64 0, Value.int .i64 0, Value.int .i64 0, Value.int .i64 0, Value.int .i64 0, Value.int .i64 0, Value.int .i64 0, Value.int .i64 0, Value.int .i64 0, Value.int .i64 0, Value.int .i64 0, Value.int .i64 0, Value.int .i64 0, Value.int .i64 0, Value.int .i64 0, Value.int .i64 0, Value.int .i64 0, Value.int .i64 0, Value.int .i64 0, Value.int .i64 0, Value.int .i64 0, Value.int .i64 0, Value.int .i64 0, Value.int .i64 0, Value.int .i64 0, Value.int .i64 0, Value.int .i64 0, Value.int .i64 0, Value.int .i64 0])) ⟨hHeld, fA, fB⟩ ?_
            clear hHeld fA fB
            rintro W ⟨hHeld, fA, fB⟩
            refine wpAnyH_ready (rs := [7]) (by kernel_rfl) (by simp) ?_
            refine AllReadyH.cons (o := ⟨_, _, _, _, _, _⟩) rfl (fun K hK => ?_) AllReadyH.nil
            rw [if_pos (by rfl)]
            refine wp_store_mid 44 _ _ rfl gb 0 (ints x1) rfl rfl (by rw [ints_size, hl1]; exact blk_there fB) (by rw [ints_size, hl1]; kernel_rfl) (ints_one _) ?_
            have k1 := keep_store (new := ints x1) hHeld fB hngb (by have := hHeld.2.size; omega) (by rw [ints_size, hl1]; rfl)
            have k2 := blk_grown fA (setCells_whole (new := ints x1) fB (by rw [ints_size, hl1]; rfl)).2 (by simp; omega)
            refine hK.out _ _ k1.1 (fun _ => ?_)
            clear hK K
            try simp only [Act.put, List.setIfInBounds_toArray, List.set_cons_zero, List.set_cons_succ]
            replace hHeld := k1.1
            replace fB := k1.2
            replace fA := k2
            clear k1 k2
            refine keep_any (fun W => Keep w ([(w.heap.size, 43, ints a0), (w.heap.size + 1, 43, ints a1)]) W ∧ Blk W ga 44 (ints x0) ∧ Blk W gb 44 (ints x1)) ⟨hHeld, fA, fB⟩ ?_
            clear hHeld fA fB
            rintro W ⟨hHeld, fA, fB⟩
            refine wpAnyH_done (by kernel_rfl) ?_ _
            go_wp2_with fail
            go_meet
            exact ⟨ga, gb, rfl, rfl, keep_cons (keep_cons hHeld fB) fA⟩
      focus
        go_simp
        have hn := keep_lt hHeld
        have hsz := hHeld.2.size
        have nf := blk_new W 44 (#[Value.int .i64 0, Value.int .i64 0, Value.int .i64 0, Value.int .i64 0, Value.int .i64 0, Value.int .i64 0, Value.int .i64 0, Value.int .i64 0, Value.int .i64 0, Value.int .i64 0, Value.int .i64 0, Value.int .i64 0, Value.int .i64 0, Value.int .i64 0, Value.int .i64 0, Value.int .i64 0, Value.int .i64 0, Value.int .i64 0, Value.int .i64 0, Value.int .i64 0, Value.int .i64 0, Value.int .i64 0, Value.int .i64 0, Value.int .i64 0, Value.int .i64 0, Value.int .i64 0, Value.int .i64 0, Value.int .i64 0, Value.int .i64 0, Value.int .i64 0, Value.int .i64 0, Value.int .i64 0])
        have hne := blk_lt fA
        replace fA := blk_alloc fA (.cells (#[Value.int .i64 0, Value.int .i64 0, Value.int .i64 0, Value.int .i64 0, Value.int .i64 0, Value.int .i64 0, Value.int .i64 0, Value.int .i64 0, Value.int .i64 0, Value.int .i64 0, Value.int .i64 0, Value.int .i64 0, Value.int .i64 0, Value.int .i64 0, Value.int .i64 0, Value.int .i64 0, Value.int .i64 0, Value.int .i64 0, Value.int .i64 0, Value.int .i64 0, Value.int .i64 0, Value.int .i64 0, Value.int .i64 0, Value.int .i64 0, Value.int .i64 0, Value.int .i64 0, Value.int .i64 0, Value.int .i64 0, Value.int .i64 0, Value.int .i64 0, Value.int .i64 0, Value.int .i64 0]) 44)
        replace hHeld := keep_alloc hHeld (.cells (#[Value.int .i64 0, Value.int .i64 0, Value.int .i64 0, Value.int .i64 0, Value.int .i64 0, Value.int .i64 0, Value.int .i64 0, Value.int .i64 0, Value.int .i64 0, Value.int .i64 0, Value.int .i64 0, Value.int .i64 0, Value.int .i64 0, Value.int .i64 0, Value.int .i64 0, Value.int .i64 0, Value.int .i64 0, Value.int .i64 0, Value.int .i64 0, Value.int .i64 0, Value.int .i64 0, Value.int .i64 0, Value.int .i64 0, Value.int .i64 0, Value.int .i64 0, Value.int .i64 0, Value.int .i64 0, Value.int .i64 0, Value.int .i64 0, Value.int .i64 0, Value.int .i64 0, Value.int .i64 0]) 44)
        refine hK.out _ _ hHeld (fun _ => ?_)
        clear hK K
        try simp only [Act.put, List.setIfInBounds_toArray, List.set_cons_zero, List.set_cons_succ]
        generalize W.heap.size = gb at *
        have fB := nf
        have hngb := hn
        have hsgb := hsz
        clear nf hn hsz
        refine keep_any (fun W => Keep w ([(w.heap.size, 43, ints a0), (w.heap.size + 1, 43, ints a1)]) W ∧ Blk W ga 44 (#[Value.int .i64 0, Value.int .i64 0, Value.int .i64 0, Value.int .i64 0, Value.int .i64 0, Value.int .i64 0, Value.int .i64 0, Value.int .i64 0, Value.int .i64 0, Value.int .i64 0, Value.int .i64 0, Value.int .i64 0, Value.int .i64 0, Value.int .i64 0, Value.int .i64 0, Value.int .i64 0, Value.int .i64 0, Value.int .i64 0, Value.int .i64 0, Value.int .i64 0, Value.int .i64 0, Value.int .i64 0, Value.int .i64 0, Value.int .i64 0, Value.int .i64 0, Value.int .i64 0, Value.int .i64 0, Value.int .i64 0, Value.int .i64 0, Value.int .i64 0, Value.int .i64 0, Value.int .i64 0]) ∧ Blk W gb 44 (#[Value.int .i64 0, Value.int .i64 0, Value.int .i64 0, Value.int .i64 0, Value.int .i64 0, Value.int .i64 0, Value.int .i64 0, Value.int .i64 0, Value.int .i64 0, Value.int .i64 0, Value.int .i64 0, Value.int .i64 0, Value.int .i64 0, Value.int .i64 0, Value.int .i64 0, Value.int .i64 0, Value.int .i64 0, Value.int .i64 0, Value.int .i64 0, Value.int .i64 0, Value.int .i64 0, Value.int .i64 0, Value.int .i64 0, Value.int .i64 0, Value.int .i64 0, Value.int .i64 0, Value.int .i64 0, Value.int .i64 0, Value.int .i64 0, Value.int .i64 0, Value.int .i64 0, Value.int .i64 0])) ⟨hHeld, fA, fB⟩ ?_
        clear hHeld fA fB
        rintro W ⟨hHeld, fA, fB⟩
        refine wpAnyH_ready (rs := [1]) (by kernel_rfl) (by simp) ?_
        refine AllReadyH.cons (o := ⟨_, _, _, _, _, _⟩) rfl (fun K hK => ?_) (AllReadyH.nil)
        focus
          go_simp
          refine (h0 _).mono ?_
          rintro e W2 ⟨rfl, hC⟩
          go_simp
          replace hHeld := keep_below hHeld hC
          replace fA := blk_below fA hC (blk_lt fA)
          replace fB := blk_below fB hC (blk_lt fB)
          refine hK.out _ _ hHeld (fun _ => ?_)
          clear hK K hC
          try simp only [Act.put, List.setIfInBounds_toArray, List.set_cons_zero, List.set_cons_succ]
          refine keep_any (fun W => Keep w ([(w.heap.size, 43, ints a0), (w.heap.size + 1, 43, ints a1)]) W ∧ Blk W ga 44 (#[Value.int .i64 0, Value.int .i64 0, Value.int .i64 0, Value.int .i64 0, Value.int .i64 0, Value.int .i64 0, Value.int .i64 0, Value.int .i64 0, Value.int .i64 0, Value.int .i64 0, Value.int .i64 0, Value.int .i64 0, Value.int .i64 0, Value.int .i64 0, Value.int .i64 0, Value.int .i64 0, Value.int .i64 0, Value.int .i64 0, Value.int .i64 0, Value.int .i64 0, Value.int .i64 0, Value.int .i64 0, Value.int .i64 0, Value.int .i64 0, Value.int .i64 0, Value.int .i64 0, Value.int .i64 0, Value.int .i64 0, Value.int .i64 0, Value.int .i64 0, Value.int .i64 0, Value.int .i64 0]) ∧ Blk W gb 44 (#[Value.int .i64 0, Value.int .i64 0, Value.int .i64 0, Value.int .i64 0, Value.int .i64 0, Value.int .i64 0, Value.int .i64 0, Value.int .i64 0, Value.int .i64 0, Value.int .i64 0, Value.int .i64 0, Value.int .i64 0, Value.int .i64 0, Value.int .i64 0, Value.int .i64 0, Value.int .i64 0, Value.int .i64 0, Value.int .i64 0, Value.int .i64 0, Value.int .i64 0, Value.int .i64 0, Value.int .i64 0, Value.int .i64 0, Value.int .i64 0, Value.int .i64 0, Value.int .i64 0, Value.int .i64 0, Value.int .i64 0, Value.int .i64 0, Value.int .i64 0, Value.int .i64 0, Value.int .i64 0])) ⟨hHeld, fA, fB⟩ ?_
          clear hHeld fA fB
          rintro W ⟨hHeld, fA, fB⟩
          refine wpAnyH_ready (rs := [3]) (by kernel_rfl) (by simp) ?_
          refine AllReadyH.cons (o := ⟨_, _, _, _, _, _⟩) rfl (fun K hK => ?_) (AllReadyH.nil)
          focus
            go_simp
            refine (h1 _).mono ?_
            rintro e W2 ⟨rfl, hC⟩
            go_simp
            replace hHeld := keep_below hHeld hC
            replace fA := blk_below fA hC (blk_lt fA)
            replace fB := blk_below fB hC (blk_lt fB)
            refine hK.out _ _ hHeld (fun _ => ?_)
            clear hK K hC
            try simp only [Act.put, List.setIfInBounds_toArray, List.set_cons_zero, List.set_cons_succ]
            refine keep_any (fun W => Keep w ([(w.heap.size, 43, ints a0), (w.heap.size + 1, 43, ints a1)]) W ∧ Blk W ga 44 (#[Value.int .i64 0, Value.int .i64 0, Value.int .i64 0, Value.int .i64 0, Value.int .i64 0, Value.int .i64 0, Value.int .i64 0, Value.int .i64 0, Value.int .i64 0, Value.int .i64 0, Value.int .i64 0, Value.int .i64 0, Value.int .i64 0, Value.int .i64 0, Value.int .i64 0, Value.int .i64 0, Value.int .i64 0, Value.int .i64 0, Value.int .i64 0, Value.int .i64 0, Value.int .i64 0, Value.int .i64 0, Value.int .i64 0, Value.int .i64 0, Value.int .i64 0, Value.int .i64 0, Value.int .i64 0, Value.int .i64 0, Value.int .i64 0, Value.int .i64 0, Value.int .i64 0, Value.int .i64 0]) ∧ Blk W gb 44 (#[Value.int .i64 0, Value.int .i64 0, Value.int .i64 0, Value.int .i64 0, Value.int .i64 0, Value.int .i64 0, Value.int .i64 0, Value.int .i64 0, Value.int .i64 0, Value.int .i64 0, Value.int .i64 0, Value.int .i64 0, Value.int .i64 0, Value.int .i64 0, Value.int .i64 0, Value.int .i64 0, Value.int .i64 0, Value.int .i64 0, Value.int .i64 0, Value.int .i64 0, Value.int .i64 0, Value.int .i64 0, Value.int .i64 0, Value.int .i64 0, Value.int .i64 0, Value.int .i64 0, Value.int .i64 0, Value.int .i64 0, Value.int .i64 0, Value.int .i64 0, Value.int .i64 0, Value.int .i64 0])) ⟨hHeld, fA, fB⟩ ?_
            clear hHeld fA fB
            rintro W ⟨hHeld, fA, fB⟩
            refine wpAnyH_ready (rs := [6]) (by kernel_rfl) (by simp) ?_
            refine AllReadyH.cons (o := ⟨_, _, _, _, _, _⟩) rfl (fun K hK => ?_) AllReadyH.nil
            rw [if_pos (by rfl)]
            refine wp_store_mid 44 _ _ rfl ga 0 (ints x0) rfl rfl (by rw [ints_size, hl0]; exact blk_there fA) (by rw [ints_size, hl0]; kernel_rfl) (ints_one _) ?_
            have k1 := keep_store (new := ints x0) hHeld fA hnga (by have := hHeld.2.size; omega) (by rw [ints_size, hl0]; rfl)
            have k2 := blk_grown fB (setCells_whole (new := ints x0) fA (by rw [ints_size, hl0]; rfl)).2 (by simp; omega)
            refine hK.out _ _ k1.1 (fun _ => ?_)
            clear hK K
            try simp only [Act.put, List.setIfInBounds_toArray, List.set_cons_zero, List.set_cons_succ]
            replace hHeld := k1.1
            replace fA := k1.2
            replace fB := k2
            clear k1 k2
            refine keep_any (fun W => Keep w ([(w.heap.size, 43, ints a0), (w.heap.size + 1, 43, ints a1)]) W ∧ Blk W ga 44 (ints x0) ∧ Blk W gb 44 (#[Value.int .i64 0, Value.int .i64 0, Value.int .i64 0, Value.int .i64 0, Value.int .i64 0, Value.int .i64 0, Value.int .i64 0, Value.int .i64 0, Value.int .i64 0, Value.int .i64 0, Value.int .i64 0, Value.int .i64 0, Value.int .i64 0, Value.int .i64 0, Value.int .i64 0, Value.int .i64 0, Value.int .i64 0, Value.int .i64 0, Value.int .i64 0, Value.int .i64 0, Value.int .i64 0, Value.int .i64 0, Value.int .i64 0, Value.int .i64 0, Value.int .i64 0, Value.int .i64 0, Value.int .i64 0, Value.int .i64 0, Value.int .i64 0, Value.int .i64 0, Value.int .i64 0, Value.int .i64 0])) ⟨hHeld, fA, fB⟩ ?_
            clear hHeld fA fB
            rintro W ⟨hHeld, fA, fB⟩
            refine wpAnyH_ready (rs := [7]) (by kernel_rfl) (by simp) ?_
            refine AllReadyH.cons (o := ⟨_, _, _, _, _, _⟩) rfl (fun K hK => ?_) AllReadyH.nil
            rw [if_pos (by rfl)]
            refine wp_store_mid 44 _ _ rfl gb 0 (ints x1) rfl rfl (by rw [ints_size, hl1]; exact blk_there fB) (by rw [ints_size, hl1]; kernel_rfl) (ints_one _) ?_
            have k1 := keep_store (new := ints x1) hHeld fB hngb (by have := hHeld.2.size; omega) (by rw [ints_size, hl1]; rfl)
            have k2 := blk_grown fA (setCells_whole (new := ints x1) fB (by rw [ints_size, hl1]; rfl)).2 (by simp; omega)
            refine hK.out _ _ k1.1 (fun _ => ?_)
            clear hK K
            try simp only [Act.put, List.setIfInBounds_toArray, List.set_cons_zero, List.set_cons_succ]
            replace hHeld := k1.1
            replace fB := k1.2
            replace fA := k2
            clear k1 k2
            refine keep_any (fun W => Keep w ([(w.heap.size, 43, ints a0), (w.heap.size + 1, 43, ints a1)]) W ∧ Blk W ga 44 (ints x0) ∧ Blk W gb 44 (ints x1)) ⟨hHeld, fA, fB⟩ ?_
            clear hHeld fA fB
            rintro W ⟨hHeld, fA, fB⟩
            refine wpAnyH_done (by kernel_rfl) ?_ _
            go_wp2_with fail
            go_meet
            exact ⟨ga, gb, rfl, rfl, keep_cons (keep_cons hHeld fB) fA⟩
    focus
      go_simp
      have hn := keep_lt hHeld
      have hsz := hHeld.2.size
      have nf := blk_new W 44 (#[Value.int .i64 0, Value.int .i64 0, Value.int .i64 0, Value.int .i64 0, Value.int .i64 0, Value.int .i64 0, Value.int .i64 0, Value.int .i64 0, Value.int .i64 0, Value.int .i64 0, Value.int .i64 0, Value.int .i64 0, Value.int .i64 0, Value.int .i64 0, Value.int .i64 0, Value.int .i64 0, Value.int .i64 0, Value.int .i64 0, Value.int .i64 0, Value.int .i64 0, Value.int .i64 0, Value.int .i64 0, Value.int .i64 0, Value.int .i64 0, Value.int .i64 0, Value.int .i64 0, Value.int .i64 0, Value.int .i64 0, Value.int .i64 0, Value.int .i64 0, Value.int .i64 0, Value.int .i64 0])
      replace hHeld := keep_alloc hHeld (.cells (#[Value.int .i64 0, Value.int .i64 0, Value.int .i64 0, Value.int .i64 0, Value.int .i64 0, Value.int .i64 0, Value.int .i64 0, Value.int .i64 0, Value.int .i64 0, Value.int .i64 0, Value.int .i64 0, Value.int .i64 0, Value.int .i64 0, Value.int .i64 0, Value.int .i64 0, Value.int .i64 0, Value.int .i64 0, Value.int .i64 0, Value.int .i64 0, Value.int .i64 0, Value.int .i64 0, Value.int .i64 0, Value.int .i64 0, Value.int .i64 0, Value.int .i64 0, Value.int .i64 0, Value.int .i64 0, Value.int .i64 0, Value.int .i64 0, Value.int .i64 0, Value.int .i64 0, Value.int .i64 0]) 44)
      refine hK.out _ _ hHeld (fun _ => ?_)
      clear hK K
      try simp only [Act.put, List.setIfInBounds_toArray, List.set_cons_zero, List.set_cons_succ]
      generalize W.heap.size = gb at *
      have fB := nf
      have hngb := hn
      have hsgb := hsz
      clear nf hn hsz
      refine keep_any (fun W => Keep w ([(w.heap.size, 43, ints a0), (w.heap.size + 1, 43, ints a1)]) W ∧ Blk W gb 44 (#[Value.int .i64 0, Value.int .i64 0, Value.int .i64 0, Value.int .i64 0, Value.int .i64 0, Value.int .i64 0, Value.int .i64 0, Value.int .i64 0, Value.int .i64 0, Value.int .i64 0, Value.int .i64 0, Value.int .i64 0, Value.int .i64 0, Value.int .i64 0, Value.int .i64 0, Value.int .i64 0, Value.int .i64 0, Value.int .i64 0, Value.int .i64 0, Value.int .i64 0, Value.int .i64 0, Value.int .i64 0, Value.int .i64 0, Value.int .i64 0, Value.int .i64 0, Value.int .i64 0, Value.int .i64 0, Value.int .i64 0, Value.int .i64 0, Value.int .i64 0, Value.int .i64 0, Value.int .i64 0])) ⟨hHeld, fB⟩ ?_
      clear hHeld fB
      rintro W ⟨hHeld, fB⟩
      refine wpAnyH_ready (rs := [1, 4]) (by kernel_rfl) (by simp) ?_
      refine AllReadyH.cons (o := ⟨_, _, _, _, _, _⟩) rfl (fun K hK => ?_) (AllReadyH.cons (o := ⟨_, _, _, _, _, _⟩) rfl (fun K hK => ?_) (AllReadyH.nil))
      focus
        go_simp
        refine (h0 _).mono ?_
        rintro e W2 ⟨rfl, hC⟩
        go_simp
        replace hHeld := keep_below hHeld hC
        replace fB := blk_below fB hC (blk_lt fB)
        refine hK.out _ _ hHeld (fun _ => ?_)
        clear hK K hC
        try simp only [Act.put, List.setIfInBounds_toArray, List.set_cons_zero, List.set_cons_succ]
        refine keep_any (fun W => Keep w ([(w.heap.size, 43, ints a0), (w.heap.size + 1, 43, ints a1)]) W ∧ Blk W gb 44 (#[Value.int .i64 0, Value.int .i64 0, Value.int .i64 0, Value.int .i64 0, Value.int .i64 0, Value.int .i64 0, Value.int .i64 0, Value.int .i64 0, Value.int .i64 0, Value.int .i64 0, Value.int .i64 0, Value.int .i64 0, Value.int .i64 0, Value.int .i64 0, Value.int .i64 0, Value.int .i64 0, Value.int .i64 0, Value.int .i64 0, Value.int .i64 0, Value.int .i64 0, Value.int .i64 0, Value.int .i64 0, Value.int .i64 0, Value.int .i64 0, Value.int .i64 0, Value.int .i64 0, Value.int .i64 0, Value.int .i64 0, Value.int .i64 0, Value.int .i64 0, Value.int .i64 0, Value.int .i64 0])) ⟨hHeld, fB⟩ ?_
        clear hHeld fB
        rintro W ⟨hHeld, fB⟩
        refine wpAnyH_ready (rs := [3, 4]) (by kernel_rfl) (by simp) ?_
        refine AllReadyH.cons (o := ⟨_, _, _, _, _, _⟩) rfl (fun K hK => ?_) (AllReadyH.cons (o := ⟨_, _, _, _, _, _⟩) rfl (fun K hK => ?_) (AllReadyH.nil))
        focus
          go_simp
          refine (h1 _).mono ?_
          rintro e W2 ⟨rfl, hC⟩
          go_simp
          replace hHeld := keep_below hHeld hC
          replace fB := blk_below fB hC (blk_lt fB)
          refine hK.out _ _ hHeld (fun _ => ?_)
          clear hK K hC
          try simp only [Act.put, List.setIfInBounds_toArray, List.set_cons_zero, List.set_cons_succ]
          refine keep_any (fun W => Keep w ([(w.heap.size, 43, ints a0), (w.heap.size + 1, 43, ints a1)]) W ∧ Blk W gb 44 (#[Value.int .i64 0, Value.int .i64 0, Value.int .i64 0, Value.int .i64 0, Value.int .i64 0, Value.int .i64 0, Value.int .i64 0, Value.int .i64 0, Value.int .i64 0, Value.int .i64 0, Value.int .i64 0, Value.int .i64 0, Value.int .i64 0, Value.int .i64 0, Value.int .i64 0, Value.int .i64 0, Value.int .i64 0, Value.int .i64 0, Value.int .i64 0, Value.int .i64 0, Value.int .i64 0, Value.int .i64 0, Value.int .i64 0, Value.int .i64 0, Value.int .i64 0, Value.int .i64 0, Value.int .i64 0, Value.int .i64 0, Value.int .i64 0, Value.int .i64 0, Value.int .i64 0, Value.int .i64 0])) ⟨hHeld, fB⟩ ?_
          clear hHeld fB
          rintro W ⟨hHeld, fB⟩
          refine wpAnyH_ready (rs := [4]) (by kernel_rfl) (by simp) ?_
          refine AllReadyH.cons (o := ⟨_, _, _, _, _, _⟩) rfl (fun K hK => ?_) (AllReadyH.nil)
          focus
            go_simp
            have hn := keep_lt hHeld
            have hsz := hHeld.2.size
            have nf := blk_new W 44 (#[Value.int .i64 0, Value.int .i64 0, Value.int .i64 0, Value.int .i64 0, Value.int .i64 0, Value.int .i64 0, Value.int .i64 0, Value.int .i64 0, Value.int .i64 0, Value.int .i64 0, Value.int .i64 0, Value.int .i64 0, Value.int .i64 0, Value.int .i64 0, Value.int .i64 0, Value.int .i64 0, Value.int .i64 0, Value.int .i64 0, Value.int .i64 0, Value.int .i64 0, Value.int .i64 0, Value.int .i64 0, Value.int .i64 0, Value.int .i64 0, Value.int .i64 0, Value.int .i64 0, Value.int .i64 0, Value.int .i64 0, Value.int .i64 0, Value.int .i64 0, Value.int .i64 0, Value.int .i64 0])
            have hne := blk_lt fB
            replace fB := blk_alloc fB (.cells (#[Value.int .i64 0, Value.int .i64 0, Value.int .i64 0, Value.int .i64 0, Value.int .i64 0, Value.int .i64 0, Value.int .i64 0, Value.int .i64 0, Value.int .i64 0, Value.int .i64 0, Value.int .i64 0, Value.int .i64 0, Value.int .i64 0, Value.int .i64 0, Value.int .i64 0, Value.int .i64 0, Value.int .i64 0, Value.int .i64 0, Value.int .i64 0, Value.int .i64 0, Value.int .i64 0, Value.int .i64 0, Value.int .i64 0, Value.int .i64 0, Value.int .i64 0, Value.int .i64 0, Value.int .i64 0, Value.int .i64 0, Value.int .i64 0, Value.int .i64 0, Value.int .i64 0, Value.int .i64 0]) 44)
            replace hHeld := keep_alloc hHeld (.cells (#[Value.int .i64 0, Value.int .i64 0, Value.int .i64 0, Value.int .i64 0, Value.int .i64 0, Value.int .i64 0, Value.int .i64 0, Value.int .i64 0, Value.int .i64 0, Value.int .i64 0, Value.int .i64 0, Value.int .i64 0, Value.int .i64 0, Value.int .i64 0, Value.int .i64 0, Value.int .i64 0, Value.int .i64 0, Value.int .i64 0, Value.int .i64 0, Value.int .i64 0, Value.int .i64 0, Value.int .i64 0, Value.int .i64 0, Value.int .i64 0, Value.int .i64 0, Value.int .i64 0, Value.int .i64 0, Value.int .i64 0, Value.int .i64 0, Value.int .i64 0, Value.int .i64 0, Value.int .i64 0]) 44)
            refine hK.out _ _ hHeld (fun _ => ?_)
            clear hK K
            try simp only [Act.put, List.setIfInBounds_toArray, List.set_cons_zero, List.set_cons_succ]
            generalize W.heap.size = ga at *
            have fA := nf
            have hnga := hn
            have hsga := hsz
            clear nf hn hsz
            refine keep_any (fun W => Keep w ([(w.heap.size, 43, ints a0), (w.heap.size + 1, 43, ints a1)]) W ∧ Blk W ga 44 (#[Value.int .i64 0, Value.int .i64 0, Value.int .i64 0, Value.int .i64 0, Value.int .i64 0, Value.int .i64 0, Value.int .i64 0, Value.int .i64 0, Value.int .i64 0, Value.int .i64 0, Value.int .i64 0, Value.int .i64 0, Value.int .i64 0, Value.int .i64 0, Value.int .i64 0, Value.int .i64 0, Value.int .i64 0, Value.int .i64 0, Value.int .i64 0, Value.int .i64 0, Value.int .i64 0, Value.int .i64 0, Value.int .i64 0, Value.int .i64 0, Value.int .i64 0, Value.int .i64 0, Value.int .i64 0, Value.int .i64 0, Value.int .i64 0, Value.int .i64 0, Value.int .i64 0, Value.int .i64 0]) ∧ Blk W gb 44 (#[Value.int .i64 0, Value.int .i64 0, Value.int .i64 0, Value.int .i64 0, Value.int .i64 0, Value.int .i64 0, Value.int .i64 0, Value.int .i64 0, Value.int .i64 0, Value.int .i64 0, Value.int .i64 0, Value.int .i64 0, Value.int .i64 0, Value.int .i64 0, Value.int .i64 0, Value.int .i64 0, Value.int .i64 0, Value.int .i64 0, Value.int .i64 0, Value.int .i64 0, Value.int .i64 0, Value.int .i64 0, Value.int .i64 0, Value.int .i64 0, Value.int .i64 0, Value.int .i64 0, Value.int .i64 0, Value.int .i64 0, Value.int .i64 0, Value.int .i64 0, Value.int .i64 0, Value.int .i64 0])) ⟨hHeld, fA, fB⟩ ?_
            clear hHeld fA fB
            rintro W ⟨hHeld, fA, fB⟩
            refine wpAnyH_ready (rs := [6]) (by kernel_rfl) (by simp) ?_
            refine AllReadyH.cons (o := ⟨_, _, _, _, _, _⟩) rfl (fun K hK => ?_) AllReadyH.nil
            rw [if_pos (by rfl)]
            refine wp_store_mid 44 _ _ rfl ga 0 (ints x0) rfl rfl (by rw [ints_size, hl0]; exact blk_there fA) (by rw [ints_size, hl0]; kernel_rfl) (ints_one _) ?_
            have k1 := keep_store (new := ints x0) hHeld fA hnga (by have := hHeld.2.size; omega) (by rw [ints_size, hl0]; rfl)
            have k2 := blk_grown fB (setCells_whole (new := ints x0) fA (by rw [ints_size, hl0]; rfl)).2 (by simp; omega)
            refine hK.out _ _ k1.1 (fun _ => ?_)
            clear hK K
            try simp only [Act.put, List.setIfInBounds_toArray, List.set_cons_zero, List.set_cons_succ]
            replace hHeld := k1.1
            replace fA := k1.2
            replace fB := k2
            clear k1 k2
            refine keep_any (fun W => Keep w ([(w.heap.size, 43, ints a0), (w.heap.size + 1, 43, ints a1)]) W ∧ Blk W ga 44 (ints x0) ∧ Blk W gb 44 (#[Value.int .i64 0, Value.int .i64 0, Value.int .i64 0, Value.int .i64 0, Value.int .i64 0, Value.int .i64 0, Value.int .i64 0, Value.int .i64 0, Value.int .i64 0, Value.int .i64 0, Value.int .i64 0, Value.int .i64 0, Value.int .i64 0, Value.int .i64 0, Value.int .i64 0, Value.int .i64 0, Value.int .i64 0, Value.int .i64 0, Value.int .i64 0, Value.int .i64 0, Value.int .i64 0, Value.int .i64 0, Value.int .i64 0, Value.int .i64 0, Value.int .i64 0, Value.int .i64 0, Value.int .i64 0, Value.int .i64 0, Value.int .i64 0, Value.int .i64 0, Value.int .i64 0, Value.int .i64 0])) ⟨hHeld, fA, fB⟩ ?_
            clear hHeld fA fB
            rintro W ⟨hHeld, fA, fB⟩
            refine wpAnyH_ready (rs := [7]) (by kernel_rfl) (by simp) ?_
            refine AllReadyH.cons (o := ⟨_, _, _, _, _, _⟩) rfl (fun K hK => ?_) AllReadyH.nil
            rw [if_pos (by rfl)]
            refine wp_store_mid 44 _ _ rfl gb 0 (ints x1) rfl rfl (by rw [ints_size, hl1]; exact blk_there fB) (by rw [ints_size, hl1]; kernel_rfl) (ints_one _) ?_
            have k1 := keep_store (new := ints x1) hHeld fB hngb (by have := hHeld.2.size; omega) (by rw [ints_size, hl1]; rfl)
            have k2 := blk_grown fA (setCells_whole (new := ints x1) fB (by rw [ints_size, hl1]; rfl)).2 (by simp; omega)
            refine hK.out _ _ k1.1 (fun _ => ?_)
            clear hK K
            try simp only [Act.put, List.setIfInBounds_toArray, List.set_cons_zero, List.set_cons_succ]
            replace hHeld := k1.1
            replace fB := k1.2
            replace fA := k2
            clear k1 k2
            refine keep_any (fun W => Keep w ([(w.heap.size, 43, ints a0), (w.heap.size + 1, 43, ints a1)]) W ∧ Blk W ga 44 (ints x0) ∧ Blk W gb 44 (ints x1)) ⟨hHeld, fA, fB⟩ ?_
            clear hHeld fA fB
            rintro W ⟨hHeld, fA, fB⟩
            refine wpAnyH_done (by kernel_rfl) ?_ _
            go_wp2_with fail
            go_meet
            exact ⟨ga, gb, rfl, rfl, keep_cons (keep_cons hHeld fB) fA⟩
        focus
          go_simp
          have hn := keep_lt hHeld
          have hsz := hHeld.2.size
          have nf := blk_new W 44 (#[Value.int .i64 0, Value.int .i64 0, Value.int .i64 0, Value.int .i64 0, Value.int .i64 0, Value.int .i64 0, Value.int .i64 0, Value.int .i64 0, Value.int .i64 0, Value.int .i64 0, Value.int .i64 0, Value.int .i64 0, Value.int .i64 0, Value.int .i64 0, Value.int .i64 0, Value.int .i64 0, Value.int .i64 0, Value.int .i64 0, Value.int .i64 0, Value.int .i64 0, Value.int .i64 0, Value.int .i64 0, Value.int .i64 0, Value.int .i64 0, Value.int .i64 0, Value.int .i64 0, Value.int .i64 0, Value.int .i64 0, Value.int .i64 0, Value.int .i64 0, Value.int .i64 0, Value.int .i64 0])
          have hne := blk_lt fB
          replace fB := blk_alloc fB (.cells (#[Value.int .i64 0, Value.int .i64 0, Value.int .i64 0, Value.int .i64 0, Value.int .i64 0, Value.int .i64 0, Value.int .i64 0, Value.int .i64 0, Value.int .i64 0, Value.int .i64 0, Value.int .i64 0, Value.int .i64 0, Value.int .i64 0, Value.int .i64 0, Value.int .i64 0, Value.int .i64 0, Value.int .i64 0, Value.int .i64 0, Value.int .i64 0, Value.int .i64 0, Value.int .i64 0, Value.int .i64 0, Value.int .i64 0, Value.int .i64 0, Value.int .i64 0, Value.int .i64 0, Value.int .i64 0, Value.int .i64 0, Value.int .i64 0, Value.int .i64 0, Value.int .i64 0, Value.int .i64 0]) 44)
          replace hHeld := keep_alloc hHeld (.cells (#[Value.int .i64 0, Value.int .i64 0, Value.int .i64 0, Value.int .i64 0, Value.int .i64 0, Value.int .i64 0, Value.int .i64 0, Value.int .i64 0, Value.int .i64 0, Value.int .i64 0, Value.int .i64 0, Value.int .i64 0, Value.int .i64 0, Value.int .i64 0, Value.int .i64 0, Value.int .i64 0, Value.int .i64 0, Value.int .i64 0, Value.int .i64 0, Value.int .i64 0, Value.int .i64 0, Value.int .i64 0, Value.int .i64 0, Value.int .i64 0, Value.int .i64 0, Value.int .i64 0, Value.int .i64 0, Value.int .i64 0, Value.int .i64 0, Value.int .i64 0, Value.int .i64 0, Value.int .i64 0]) 44)
          refine hK.out _ _ hHeld (fun _ => ?_)
          clear hK K
          try simp only [Act.put, List.setIfInBounds_toArray, List.set_cons_zero, List.set_cons_succ]
          generalize W.heap.size = ga at *
          have fA := nf
          have hnga := hn
          have hsga := hsz
          clear nf hn hsz
          refine keep_any (fun W => Keep w ([(w.heap.size, 43, ints a0), (w.heap.size + 1, 43, ints a1)]) W ∧ Blk W ga 44 (#[Value.int .i64 0, Value.int .i64 0, Value.int .i64 0, Value.int .i64 0, Value.int .i64 0, Value.int .i64 0, Value.int .i64 0, Value.int .i64 0, Value.int .i64 0, Value.int .i64 0, Value.int .i64 0, Value.int .i64 0, Value.int .i64 0, Value.int .i64 0, Value.int .i64 0, Value.int .i64 0, Value.int .i64 0, Value.int .i64 0, Value.int .i64 0, Value.int .i64 0, Value.int .i64 0, Value.int .i64 0, Value.int .i64 0, Value.int .i64 0, Value.int .i64 0, Value.int .i64 0, Value.int .i64 0, Value.int .i64 0, Value.int .i64 0, Value.int .i64 0, Value.int .i64 0, Value.int .i64 0]) ∧ Blk W gb 44 (#[Value.int .i64 0, Value.int .i64 0, Value.int .i64 0, Value.int .i64 0, Value.int .i64 0, Value.int .i64 0, Value.int .i64 0, Value.int .i64 0, Value.int .i64 0, Value.int .i64 0, Value.int .i64 0, Value.int .i64 0, Value.int .i64 0, Value.int .i64 0, Value.int .i64 0, Value.int .i64 0, Value.int .i64 0, Value.int .i64 0, Value.int .i64 0, Value.int .i64 0, Value.int .i64 0, Value.int .i64 0, Value.int .i64 0, Value.int .i64 0, Value.int .i64 0, Value.int .i64 0, Value.int .i64 0, Value.int .i64 0, Value.int .i64 0, Value.int .i64 0, Value.int .i64 0, Value.int .i64 0])) ⟨hHeld, fA, fB⟩ ?_
          clear hHeld fA fB
          rintro W ⟨hHeld, fA, fB⟩
          refine wpAnyH_ready (rs := [3]) (by kernel_rfl) (by simp) ?_
          refine AllReadyH.cons (o := ⟨_, _, _, _, _, _⟩) rfl (fun K hK => ?_) (AllReadyH.nil)
          focus
            go_simp
            refine (h1 _).mono ?_
            rintro e W2 ⟨rfl, hC⟩
            go_simp
            replace hHeld := keep_below hHeld hC
            replace fA := blk_below fA hC (blk_lt fA)
            replace fB := blk_below fB hC (blk_lt fB)
            refine hK.out _ _ hHeld (fun _ => ?_)
            clear hK K hC
            try simp only [Act.put, List.setIfInBounds_toArray, List.set_cons_zero, List.set_cons_succ]
            refine keep_any (fun W => Keep w ([(w.heap.size, 43, ints a0), (w.heap.size + 1, 43, ints a1)]) W ∧ Blk W ga 44 (#[Value.int .i64 0, Value.int .i64 0, Value.int .i64 0, Value.int .i64 0, Value.int .i64 0, Value.int .i64 0, Value.int .i64 0, Value.int .i64 0, Value.int .i64 0, Value.int .i64 0, Value.int .i64 0, Value.int .i64 0, Value.int .i64 0, Value.int .i64 0, Value.int .i64 0, Value.int .i64 0, Value.int .i64 0, Value.int .i64 0, Value.int .i64 0, Value.int .i64 0, Value.int .i64 0, Value.int .i64 0, Value.int .i64 0, Value.int .i64 0, Value.int .i64 0, Value.int .i64 0, Value.int .i64 0, Value.int .i64 0, Value.int .i64 0, Value.int .i64 0, Value.int .i64 0, Value.int .i64 0]) ∧ Blk W gb 44 (#[Value.int .i64 0, Value.int .i64 0, Value.int .i64 0, Value.int .i64 0, Value.int .i64 0, Value.int .i64 0, Value.int .i64 0, Value.int .i64 0, Value.int .i64 0, Value.int .i64 0, Value.int .i64 0, Value.int .i64 0, Value.int .i64 0, Value.int .i64 0, Value.int .i64 0, Value.int .i64 0, Value.int .i64 0, Value.int .i64 0, Value.int .i64 0, Value.int .i64 0, Value.int .i64 0, Value.int .i64 0, Value.int .i64 0, Value.int .i64 0, Value.int .i64 0, Value.int .i64 0, Value.int .i64 0, Value.int .i64 0, Value.int .i64 0, Value.int .i64 0, Value.int .i64 0, Value.int .i64 0])) ⟨hHeld, fA, fB⟩ ?_
            clear hHeld fA fB
            rintro W ⟨hHeld, fA, fB⟩
            refine wpAnyH_ready (rs := [6]) (by kernel_rfl) (by simp) ?_
            refine AllReadyH.cons (o := ⟨_, _, _, _, _, _⟩) rfl (fun K hK => ?_) AllReadyH.nil
            rw [if_pos (by rfl)]
            refine wp_store_mid 44 _ _ rfl ga 0 (ints x0) rfl rfl (by rw [ints_size, hl0]; exact blk_there fA) (by rw [ints_size, hl0]; kernel_rfl) (ints_one _) ?_
            have k1 := keep_store (new := ints x0) hHeld fA hnga (by have := hHeld.2.size; omega) (by rw [ints_size, hl0]; rfl)
            have k2 := blk_grown fB (setCells_whole (new := ints x0) fA (by rw [ints_size, hl0]; rfl)).2 (by simp; omega)
            refine hK.out _ _ k1.1 (fun _ => ?_)
            clear hK K
            try simp only [Act.put, List.setIfInBounds_toArray, List.set_cons_zero, List.set_cons_succ]
            replace hHeld := k1.1
            replace fA := k1.2
            replace fB := k2
            clear k1 k2
            refine keep_any (fun W => Keep w ([(w.heap.size, 43, ints a0), (w.heap.size + 1, 43, ints a1)]) W ∧ Blk W ga 44 (ints x0) ∧ Blk W gb 44 (#[Value.int .i64 0, Value.int .i64 0, Value.int .i64 0, Value.int .i64 0, Value.int .i64 0, Value.int .i64 0, Value.int .i64 0, Value.int .i64 0, Value.int .i64 0, Value.int .i64 0, Value.int .i64 0, Value.int .i64 0, Value.int .i64 0, Value.int .i64 0, Value.int .i64 0, Value.int .i64 0, Value.int .i64 0, Value.int .i64 0, Value.int .i64 0, Value.int .i64 0, Value.int .i64 0, Value.int .i64 0, Value.int .i64 0, Value.int .i64 0, Value.int .i64 0, Value.int .i64 0, Value.int .i64 0, Value.int .i64 0, Value.int .i64 0, Value.int .i64 0, Value.int .i64 0, Value.int .i64 0])) ⟨hHeld, fA, fB⟩ ?_
            clear hHeld fA fB
            rintro W ⟨hHeld, fA, fB⟩
            refine wpAnyH_ready (rs := [7]) (by kernel_rfl) (by simp) ?_
            refine AllReadyH.cons (o := ⟨_, _, _, _, _, _⟩) rfl (fun K hK => ?_) AllReadyH.nil
            rw [if_pos (by rfl)]
            refine wp_store_mid 44 _ _ rfl gb 0 (ints x1) rfl rfl (by rw [ints_size, hl1]; exact blk_there fB) (by rw [ints_size, hl1]; kernel_rfl) (ints_one _) ?_
            have k1 := keep_store (new := ints x1) hHeld fB hngb (by have := hHeld.2.size; omega) (by rw [ints_size, hl1]; rfl)
            have k2 := blk_grown fA (setCells_whole (new := ints x1) fB (by rw [ints_size, hl1]; rfl)).2 (by simp; omega)
            refine hK.out _ _ k1.1 (fun _ => ?_)
            clear hK K
            try simp only [Act.put, List.setIfInBounds_toArray, List.set_cons_zero, List.set_cons_succ]
            replace hHeld := k1.1
            replace fB := k1.2
            replace fA := k2
            clear k1 k2
            refine keep_any (fun W => Keep w ([(w.heap.size, 43, ints a0), (w.heap.size + 1, 43, ints a1)]) W ∧ Blk W ga 44 (ints x0) ∧ Blk W gb 44 (ints x1)) ⟨hHeld, fA, fB⟩ ?_
            clear hHeld fA fB
            rintro W ⟨hHeld, fA, fB⟩
            refine wpAnyH_done (by kernel_rfl) ?_ _
            go_wp2_with fail
            go_meet
            exact ⟨ga, gb, rfl, rfl, keep_cons (keep_cons hHeld fB) fA⟩
      focus
        go_simp
        have hn := keep_lt hHeld
        have hsz := hHeld.2.size
        have nf := blk_new W 44 (#[Value.int .i64 0, Value.int .i64 0, Value.int .i64 0, Value.int .i64 0, Value.int .i64 0, Value.int .i64 0, Value.int .i64 0, Value.int .i64 0, Value.int .i64 0, Value.int .i64 0, Value.int .i64 0, Value.int .i64 0, Value.int .i64 0, Value.int .i64 0, Value.int .i64 0, Value.int .i64 0, Value.int .i64 0, Value.int .i64 0, Value.int .i64 0, Value.int .i64 0, Value.int .i64 0, Value.int .i64 0, Value.int .i64 0, Value.int .i64 0, Value.int .i64 0, Value.int .i64 0, Value.int .i64 0, Value.int .i64 0, Value.int .i64 0, Value.int .i64 0, Value.int .i64 0, Value.int .i64 0])
        have hne := blk_lt fB
        replace fB := blk_alloc fB (.cells (#[Value.int .i64 0, Value.int .i64 0, Value.int .i64 0, Value.int .i64 0, Value.int .i64 0, Value.int .i64 0, Value.int .i64 0, Value.int .i64 0, Value.int .i64 0, Value.int .i64 0, Value.int .i64 0, Value.int .i64 0, Value.int .i64 0, Value.int .i64 0, Value.int .i64 0, Value.int .i64 0, Value.int .i64 0, Value.int .i64 0, Value.int .i64 0, Value.int .i64 0, Value.int .i64 0, Value.int .i64 0, Value.int .i64 0, Value.int .i64 0, Value.int .i64 0, Value.int .i64 0, Value.int .i64 0, Value.int .i64 0, Value.int .i64 0, Value.int .i64 0, Value.int .i64 0, Value.int .i64 0]) 44)
        replace hHeld := keep_alloc hHeld (.cells (#[Value.int .i64 0, Value.int .i64 0, Value.int .i64 0, Value.int .i64 0, Value.int .i64 0, Value.int .i64 0, Value.int .i64 0, Value.int .i64 0, Value.int .i64 0, Value.int .i64 0, Value.int .i64 0, Value.int .i64 0, Value.int .i64 0, Value.int .i64 0, Value.int .i64 0, Value.int .i64 0, Value.int .i64 0, Value.int .i64 0, Value.int .i64 0, Value.int .i64 0, Value.int .i64 0, Value.int .i64 0, Value.int .i64 0, Value.int .i64 0, Value.int .i64 0, Value.int .i64 0, Value.int .i64 0, Value.int .i64 0, Value.int .i64 0, Value.int .i64 0, Value.int .i64 0, Value.int .i64 0]) 44)
        refine hK.out _ _ hHeld (fun _ => ?_)
        clear hK K
        try simp only [Act.put, List.setIfInBounds_toArray, List.set_cons_zero, List.set_cons_succ]
        generalize W.heap.size = ga at *
        have fA := nf
        have hnga := hn
        have hsga := hsz
        clear nf hn hsz
        refine keep_any (fun W => Keep w ([(w.heap.size, 43, ints a0), (w.heap.size + 1, 43, ints a1)]) W ∧ Blk W ga 44 (#[Value.int .i64 0, Value.int .i64 0, Value.int .i64 0, Value.int .i64 0, Value.int .i64 0, Value.int .i64 0, Value.int .i64 0, Value.int .i64 0, Value.int .i64 0, Value.int .i64 0, Value.int .i64 0, Value.int .i64 0, Value.int .i64 0, Value.int .i64 0, Value.int .i64 0, Value.int .i64 0, Value.int .i64 0, Value.int .i64 0, Value.int .i64 0, Value.int .i64 0, Value.int .i64 0, Value.int .i64 0, Value.int .i64 0, Value.int .i64 0, Value.int .i64 0, Value.int .i64 0, Value.int .i64 0, Value.int .i64 0, Value.int .i64 0, Value.int .i64 0, Value.int .i64 0, Value.int .i64 0]) ∧ Blk W gb 44 (#[Value.int .i64 0, Value.int .i64 0, Value.int .i64 0, Value.int .i64 0, Value.int .i64 0, Value.int .i64 0, Value.int .i64 0, Value.int .i64 0, Value.int .i64 0, Value.int .i64 0, Value.int .i64 0, Value.int .i64 0, Value.int .i64 0, Value.int .i64 0, Value.int .i64 0, Value.int .i64 0, Value.int .i64 0, Value.int .i64 0, Value.int .i64 0, Value.int .i64 0, Value.int .i64 0, Value.int .i64 0, Value.int .i64 0, Value.int .i64 0, Value.int .i64 0, Value.int .i64 0, Value.int .i64 0, Value.int .i64 0, Value.int .i64 0, Value.int .i64 0, Value.int .i64 0, Value.int .i64 0])) ⟨hHeld, fA, fB⟩ ?_
        clear hHeld fA fB
        rintro W ⟨hHeld, fA, fB⟩
        refine wpAnyH_ready (rs := [1]) (by kernel_rfl) (by simp) ?_
        refine AllReadyH.cons (o := ⟨_, _, _, _, _, _⟩) rfl (fun K hK => ?_) (AllReadyH.nil)
        focus
          go_simp
          refine (h0 _).mono ?_
          rintro e W2 ⟨rfl, hC⟩
          go_simp
          replace hHeld := keep_below hHeld hC
          replace fA := blk_below fA hC (blk_lt fA)
          replace fB := blk_below fB hC (blk_lt fB)
          refine hK.out _ _ hHeld (fun _ => ?_)
          clear hK K hC
          try simp only [Act.put, List.setIfInBounds_toArray, List.set_cons_zero, List.set_cons_succ]
          refine keep_any (fun W => Keep w ([(w.heap.size, 43, ints a0), (w.heap.size + 1, 43, ints a1)]) W ∧ Blk W ga 44 (#[Value.int .i64 0, Value.int .i64 0, Value.int .i64 0, Value.int .i64 0, Value.int .i64 0, Value.int .i64 0, Value.int .i64 0, Value.int .i64 0, Value.int .i64 0, Value.int .i64 0, Value.int .i64 0, Value.int .i64 0, Value.int .i64 0, Value.int .i64 0, Value.int .i64 0, Value.int .i64 0, Value.int .i64 0, Value.int .i64 0, Value.int .i64 0, Value.int .i64 0, Value.int .i64 0, Value.int .i64 0, Value.int .i64 0, Value.int .i64 0, Value.int .i64 0, Value.int .i64 0, Value.int .i64 0, Value.int .i64 0, Value.int .i64 0, Value.int .i64 0, Value.int .i64 0, Value.int .i64 0]) ∧ Blk W gb 44 (#[Value.int .i64 0, Value.int .i64 0, Value.int .i64 0, Value.int .i64 0, Value.int .i64 0, Value.int .i64 0, Value.int .i64 0, Value.int .i64 0, Value.int .i64 0, Value.int .i64 0, Value.int .i64 0, Value.int .i64 0, Value.int .i64 0, Value.int .i64 0, Value.int .i64 0, Value.int .i64 0, Value.int .i64 0, Value.int .i64 0, Value.int .i64 0, Value.int .i64 0, Value.int .i64 0, Value.int .i64 0, Value.int .i64 0, Value.int .i64 0, Value.int .i64 0, Value.int .i64 0, Value.int .i64 0, Value.int .i64 0, Value.int .i64 0, Value.int .i64 0, Value.int .i64 0, Value.int .i64 0])) ⟨hHeld, fA, fB⟩ ?_
          clear hHeld fA fB
          rintro W ⟨hHeld, fA, fB⟩
          refine wpAnyH_ready (rs := [3]) (by kernel_rfl) (by simp) ?_
          refine AllReadyH.cons (o := ⟨_, _, _, _, _, _⟩) rfl (fun K hK => ?_) (AllReadyH.nil)
          focus
            go_simp
            refine (h1 _).mono ?_
            rintro e W2 ⟨rfl, hC⟩
            go_simp
            replace hHeld := keep_below hHeld hC
            replace fA := blk_below fA hC (blk_lt fA)
            replace fB := blk_below fB hC (blk_lt fB)
            refine hK.out _ _ hHeld (fun _ => ?_)
            clear hK K hC
            try simp only [Act.put, List.setIfInBounds_toArray, List.set_cons_zero, List.set_cons_succ]
            refine keep_any (fun W => Keep w ([(w.heap.size, 43, ints a0), (w.heap.size + 1, 43, ints a1)]) W ∧ Blk W ga 44 (#[Value.int .i64 0, Value.int .i64 0, Value.int .i64 0, Value.int .i64 0, Value.int .i64 0, Value.int .i64 0, Value.int .i64 0, Value.int .i64 0, Value.int .i64 0, Value.int .i64 0, Value.int .i64 0, Value.int .i64 0, Value.int .i64 0, Value.int .i64 0, Value.int .i64 0, Value.int .i64 0, Value.int .i64 0, Value.int .i64 0, Value.int .i64 0, Value.int .i64 0, Value.int .i64 0, Value.int .i64 0, Value.int .i64 0, Value.int .i64 0, Value.int .i64 0, Value.int .i64 0, Value.int .i64 0, Value.int .i64 0, Value.int .i64 0, Value.int .i64 0, Value.int .i64 0, Value.int .i64 0]) ∧ Blk W gb 44 (#[Value.int .i64 0, Value.int .i64 0, Value.int .i64 0, Value.int .i64 0, Value.int .i64 0, Value.int .i64 0, Value.int .i64 0, Value.int .i64 0, Value.int .i64 0, Value.int .i64 0, Value.int .i64 0, Value.int .i64 0, Value.int .i64 0, Value.int .i64 0, Value.int .i64 0, Value.int .i64 0, Value.int .i64 0, Value.int .i64 0, Value.int .i64 0, Value.int .i64 0, Value.int .i64 0, Value.int .i64 0, Value.int .i64 0, Value.int .i64 0, Value.int .i64 0, Value.int .i64 0, Value.int .i64 0, Value.int .i64 0, Value.int .i64 0, Value.int .i64 0, Value.int .i64 0, Value.int .i64 0])) ⟨hHeld, fA, fB⟩ ?_
            clear hHeld fA fB
            rintro W ⟨hHeld, fA, fB⟩
            refine wpAnyH_ready (rs := [6]) (by kernel_rfl) (by simp) ?_
            refine AllReadyH.cons (o := ⟨_, _, _, _, _, _⟩) rfl (fun K hK => ?_) AllReadyH.nil
            rw [if_pos (by rfl)]
            refine wp_store_mid 44 _ _ rfl ga 0 (ints x0) rfl rfl (by rw [ints_size, hl0]; exact blk_there fA) (by rw [ints_size, hl0]; kernel_rfl) (ints_one _) ?_
            have k1 := keep_store (new := ints x0) hHeld fA hnga (by have := hHeld.2.size; omega) (by rw [ints_size, hl0]; rfl)
            have k2 := blk_grown fB (setCells_whole (new := ints x0) fA (by rw [ints_size, hl0]; rfl)).2 (by simp; omega)
            refine hK.out _ _ k1.1 (fun _ => ?_)
            clear hK K
            try simp only [Act.put, List.setIfInBounds_toArray, List.set_cons_zero, List.set_cons_succ]
            replace hHeld := k1.1
            replace fA := k1.2
            replace fB := k2
            clear k1 k2
            refine keep_any (fun W => Keep w ([(w.heap.size, 43, ints a0), (w.heap.size + 1, 43, ints a1)]) W ∧ Blk W ga 44 (ints x0) ∧ Blk W gb 44 (#[Value.int .i64 0, Value.int .i64 0, Value.int .i64 0, Value.int .i64 0, Value.int .i64 0, Value.int .i64 0, Value.int .i64 0, Value.int .i64 0, Value.int .i64 0, Value.int .i64 0, Value.int .i64 0, Value.int .i64 0, Value.int .i64 0, Value.int .i64 0, Value.int .i64 0, Value.int .i64 0, Value.int .i64 0, Value.int .i64 0, Value.int .i64 0, Value.int .i64 0, Value.int .i64 0, Value.int .i64 0, Value.int .i64 0, Value.int .i64 0, Value.int .i64 0, Value.int .i64 0, Value.int .i64 0, Value.int .i64 0, Value.int .i64 0, Value.int .i64 0, Value.int .i64 0, Value.int .i64 0])) ⟨hHeld, fA, fB⟩ ?_
            clear hHeld fA fB
            rintro W ⟨hHeld, fA, fB⟩
            refine wpAnyH_ready (rs := [7]) (by kernel_rfl) (by simp) ?_
            refine AllReadyH.cons (o := ⟨_, _, _, _, _, _⟩) rfl (fun K hK => ?_) AllReadyH.nil
            rw [if_pos (by rfl)]
            refine wp_store_mid 44 _ _ rfl gb 0 (ints x1) rfl rfl (by rw [ints_size, hl1]; exact blk_there fB) (by rw [ints_size, hl1]; kernel_rfl) (ints_one _) ?_
            have k1 := keep_store (new := ints x1) hHeld fB hngb (by have := hHeld.2.size; omega) (by rw [ints_size, hl1]; rfl)
            have k2 := blk_grown fA (setCells_whole (new := ints x1) fB (by rw [ints_size, hl1]; rfl)).2 (by simp; omega)
            refine hK.out _ _ k1.1 (fun _ => ?_)
            clear hK K
            try simp only [Act.put, List.setIfInBounds_toArray, List.set_cons_zero, List.set_cons_succ]
            replace hHeld := k1.1
            replace fB := k1.2
            replace fA := k2
            clear k1 k2
            refine keep_any (fun W => Keep w ([(w.heap.size, 43, ints a0), (w.heap.size + 1, 43, ints a1)]) W ∧ Blk W ga 44 (ints x0) ∧ Blk W gb 44 (ints x1)) ⟨hHeld, fA, fB⟩ ?_
            clear hHeld fA fB
            rintro W ⟨hHeld, fA, fB⟩
            refine wpAnyH_done (by kernel_rfl) ?_ _
            go_wp2_with fail
            go_meet
            exact ⟨ga, gb, rfl, rfl, keep_cons (keep_cons hHeld fB) fA⟩
  case rest =>
    obtain ⟨ga, gb, rfl, rfl, hkk⟩ := hcut
    clear h0 h1 hk hu hi0 hi1
    have c1 := C1.out
    have c2 := C2.out
    have e0 := E0.out
    have e1 := E1.out
    have hi0 : (Try.prog.info? 44).map (·.size) = some (x0.map (Value.int .i64)).length := by rw [List.length_map, hl0]; kernel_rfl
    have hi1 : (Try.prog.info? 44).map (·.size) = some (x1.map (Value.int .i64)).length := by rw [List.length_map, hl1]; kernel_rfl
    have hu := Try.underlying44
    have hk := keep_sub (l' := [(ga, 44, ints x0), (gb, 44, ints x1)]) hkk.out (by simp)
    have h0 := keep_at hk (show (ga, 44, ints x0) ∈ _ by simp)
    have h1 := keep_at hk (show (gb, 44, ints x1) ∈ _ by simp)
    have hE := hk.2
    clear hkk hk
    simp only [ints] at c1 c2 e0 e1
    go_wp2_with fail
    refine wp_region_held_drew (S := (fun W => Blk W ga 44 (ints x0) ∧ Blk W gb 44 (ints x1) ∧ Below w.heap.size w W)) (by kernel_rfl) ⟨blk_drew h0, blk_drew h1, hE.drew⟩ (fun hHeld => ?_)
    refine wpAnyH_ready (rs := [0]) (by kernel_rfl) (by simp) ?_
    refine AllReadyH.cons (o := ⟨_, _, _, _, _, _⟩) rfl (fun K hK => ?_) AllReadyH.nil
    go_simp
    refine (awake10_calls _).mono ?_
    rintro e w' ⟨rfl, hC⟩
    go_simp
    refine hK.out _ _ ⟨blk_below hHeld.1 hC (blk_lt hHeld.1), blk_below hHeld.2.1 hC (blk_lt hHeld.2.1), bnext hHeld.2.2 hC⟩ (fun hHeld => ?_)
    clear hK K
    try simp only [Act.put, List.setIfInBounds_toArray, List.set_cons_zero, List.set_cons_succ]
    refine wpAnyH_take (i := 1) (oi := ⟨_, _, _, _, _, _⟩) (v := ?_) rfl (by kernel_rfl) (by kernel_rfl) (by kernel_rfl) (fun _ _ _ h => h) (Or.inl ⟨by rfl, ?_⟩) (by assumption) ?_
    rotate_left
    · intro W hSw
      try dsimp only at hSw
      go_simp
      try with_reducible rfl
    try simp only [Act.put, List.setIfInBounds_toArray, List.set_cons_zero, List.set_cons_succ]
    refine wpAnyH_take (i := 2) (oi := ⟨_, _, _, _, _, _⟩) (v := _) rfl (by kernel_rfl) (by kernel_rfl) (by kernel_rfl) (fun _ _ _ h => h) (yieldsIf_load_mid (by rfl) _ _ rfl _ _ rfl _ _ (fun _ h => range_whole h.1) hu rfl hi0) (by assumption) ?_
    try simp only [Act.put, List.setIfInBounds_toArray, List.set_cons_zero, List.set_cons_succ]
    refine wpAnyH_take (i := 4) (oi := ⟨_, _, _, _, _, _⟩) (v := _) rfl (by kernel_rfl) (by kernel_rfl) (by kernel_rfl) (fun _ _ _ h => h) (yieldsIf_load_mid (by rfl) _ _ rfl _ _ rfl _ _ (fun _ h => range_whole h.2.1) hu rfl hi1) (by assumption) ?_
    try simp only [Act.put, List.setIfInBounds_toArray, List.set_cons_zero, List.set_cons_succ]
    refine wpAnyH_take (i := 7) (oi := ⟨_, _, _, _, _, _⟩) (v := _) rfl (by kernel_rfl) (by kernel_rfl) (by kernel_rfl) (fun _ _ _ h => h) (yieldsIf_load_mid (by rfl) _ _ rfl _ _ rfl _ _ (fun _ h => range_whole h.1) hu rfl hi0) (by assumption) ?_
    try simp only [Act.put, List.setIfInBounds_toArray, List.set_cons_zero, List.set_cons_succ]
    refine wpAnyH_take (i := 8) (oi := ⟨_, _, _, _, _, _⟩) (v := _) rfl (by kernel_rfl) (by kernel_rfl) (by kernel_rfl) (fun _ _ _ h => h) (yieldsIf_load_mid (by rfl) _ _ rfl _ _ rfl _ _ (fun _ h => range_whole h.2.1) hu rfl hi1) (by assumption) ?_
    try simp only [Act.put, List.setIfInBounds_toArray, List.set_cons_zero, List.set_cons_succ]
    refine wpAnyH_take (i := 9) (oi := ⟨_, _, _, _, _, _⟩) (v := ?_) rfl (by kernel_rfl) (by kernel_rfl) (by kernel_rfl) (fun _ _ _ h => h) (Or.inl ⟨by rfl, ?_⟩) (by assumption) ?_
    rotate_left
    · intro W hSw
      try dsimp only at hSw
      go_simp
      try with_reducible rfl
    try simp only [Act.put, List.setIfInBounds_toArray, List.set_cons_zero, List.set_cons_succ]
    refine wpAnyH_ready (rs := [3]) (by kernel_rfl) (by simp) ?_
    refine AllReadyH.cons (o := ⟨_, _, _, _, _, _⟩) rfl (fun K hK => ?_) AllReadyH.nil
    go_simp
    refine (c1 _).mono ?_
    rintro e w' ⟨rfl, hC⟩
    go_simp
    refine hK.out _ _ ⟨blk_below hHeld.1 hC (blk_lt hHeld.1), blk_below hHeld.2.1 hC (blk_lt hHeld.2.1), bnext hHeld.2.2 hC⟩ (fun hHeld => ?_)
    clear hK K
    try simp only [Act.put, List.setIfInBounds_toArray, List.set_cons_zero, List.set_cons_succ]
    refine wpAnyH_ready (rs := [5]) (by kernel_rfl) (by simp) ?_
    refine AllReadyH.cons (o := ⟨_, _, _, _, _, _⟩) rfl (fun K hK => ?_) AllReadyH.nil
    go_simp
    refine (c2 _).mono ?_
    rintro e w' ⟨rfl, hC⟩
    go_simp
    refine hK.out _ _ ⟨blk_below hHeld.1 hC (blk_lt hHeld.1), blk_below hHeld.2.1 hC (blk_lt hHeld.2.1), bnext hHeld.2.2 hC⟩ (fun hHeld => ?_)
    clear hK K
    try simp only [Act.put, List.setIfInBounds_toArray, List.set_cons_zero, List.set_cons_succ]
    refine wpAnyH_take (i := 6) (oi := ⟨_, _, _, _, _, _⟩) (v := ?_) rfl (by kernel_rfl) (by kernel_rfl) (by kernel_rfl) (fun _ _ _ h => h) (Or.inl ⟨by rfl, ?_⟩) (by assumption) ?_
    rotate_left
    · intro W hSw
      try dsimp only at hSw
      go_simp
      try with_reducible rfl
    try simp only [Act.put, List.setIfInBounds_toArray, List.set_cons_zero, List.set_cons_succ]
    refine wpAnyH_take (i := 10) (oi := ⟨_, _, _, _, _, _⟩) (v := ?_) rfl (by kernel_rfl) (by kernel_rfl) (by kernel_rfl) (fun _ _ _ h => h) (Or.inl ⟨by rfl, ?_⟩) (by assumption) ?_
    rotate_left
    · intro W hSw
      try dsimp only at hSw
      go_simp
      try with_reducible rfl
    try simp only [Act.put, List.setIfInBounds_toArray, List.set_cons_zero, List.set_cons_succ]
    refine wpAnyH_take (i := 11) (oi := ⟨_, _, _, _, _, _⟩) (v := ?_) rfl (by kernel_rfl) (by kernel_rfl) (by kernel_rfl) (fun _ _ _ h => h) (Or.inl ⟨by rfl, ?_⟩) (by assumption) ?_
    rotate_left
    · intro W hSw
      try dsimp only at hSw
      go_simp
      try with_reducible rfl
    try simp only [Act.put, List.setIfInBounds_toArray, List.set_cons_zero, List.set_cons_succ]
    refine wpAnyH_take (i := 12) (oi := ⟨_, _, _, _, _, _⟩) (v := ?_) rfl (by kernel_rfl) (by kernel_rfl) (by kernel_rfl) (fun _ _ _ h => h) (Or.inl ⟨by rfl, ?_⟩) (by assumption) ?_
    rotate_left
    · intro W hSw
      try dsimp only at hSw
      go_simp
      try with_reducible rfl
    try simp only [Act.put, List.setIfInBounds_toArray, List.set_cons_zero, List.set_cons_succ]
    refine wpAnyH_done (by kernel_rfl) ?_ _
    have hE2 := hHeld.2.2
    clear hHeld
    go_wp2_with fail
    go_ret
    exact ⟨rfl, hE2⟩
end Go.Proofs.Ytlfiaaoegeodnaa
