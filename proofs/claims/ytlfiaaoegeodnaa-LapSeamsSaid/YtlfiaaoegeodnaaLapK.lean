/- The walk of layer 11's statement LapSeams. -/
import Derived.Test.YtlfiaaoegeodnaaLapI
import Derived.Test.YtlfiaaoegeodnaaDctLB
import Derived.Test.YtlfiaaoegeodnaaKeep
import Derived.Deep.Cut
import Derived.Deep.QuietTactic
import Derived.BigQuiet
namespace Go.Proofs.Ytlfiaaoegeodnaa
open Go.RowKit
attribute [local go_sem ↓] Go.wp_at_zero Go.wp_at_succ

set_option maxRecDepth 100000 in
set_option maxHeartbeats 8000000 in
theorem lapSeams_walk (a0 a1 : List Int) (l0 : a0.length = 32) (w0 : ∀ z ∈ a0, (Lit.int .i64 z).wf = true) (l1 : a1.length = 32) (w1 : ∀ z ∈ a1, (Lit.int .i64 z).wf = true) (w : World) :
    Calls Try.prog 23 #[.agg (a0.map (Value.int .i64)).toArray, .agg (a1.map (Value.int .i64)).toArray] w (LawTrue w) := by
  have h0 := fun W => lawheld_calls a0 W l0 (wf_i64 w0)
  have h1 := fun W => lawheld_calls a1 W l1 (wf_i64 w1)
  have hla := modL_len a0
  have hlb := modL_len a1
  have hia := modL_in a0
  have hib := modL_in a1
  have hu1 := unseam_seam hla hlb
  have hu2 := seam_unseam hla hlb
  have hlc := (seam1_len (modL a0) (modL a1)).trans hla
  have hld := (seam2_len (modL a0) (modL a1)).trans hlb
  have hlp := (unseam1_len (modL a0) (modL a1)).trans hla
  have hlq := (unseam2_len (modL a0) (modL a1)).trans hlb
  have c4 := fun W => seam_calls (modL a0) (modL a1) W hla hlb (allIn_mono hia (by omega)) (allIn_mono hib (by omega))
  have c5 := fun W => unseam_calls (seam1 (modL a0) (modL a1)) (seam2 (modL a0) (modL a1)) W hlc hld (allIn_mono (seam1_in (by omega) _ _ hia hib) (by omega)) (allIn_mono (seam2_in (by omega) _ _ hia hib) (by omega))
  have c6 := fun W => unseam_calls (modL a0) (modL a1) W hla hlb (allIn_mono hia (by omega)) (allIn_mono hib (by omega))
  have c7 := fun W => seam_calls (unseam1 (modL a0) (modL a1)) (unseam2 (modL a0) (modL a1)) W hlp hlq (allIn_mono (unseam1_in (by omega) _ _ hia hib) (by omega)) (allIn_mono (unseam2_in (by omega) _ _ hia hib) (by omega))
  have hlo := fun i (hi : i < 16) => (HalfA1.2 (modL a0) (modL a0) (modL a1) (modL a1) hla hla hlb hlb (fun _ _ _ => rfl) (fun _ _ => rfl)).2 i hi
  have hhi := fun i (h : 16 ≤ i) (hi : i < 32) => (HalfB1.2 (modL a0) (modL a0) (modL a1) (modL a1) hla hla hlb hlb (fun _ _ _ => rfl) (fun _ _ => rfl)).2 i h hi
  change ∀ W, Calls _ _ #[.agg (ints (modL a0)), .agg (ints (modL a1))] W (fun e w' => e = .returned (.tuple #[.agg (ints (seam1 (modL a0) (modL a1))), .agg (ints (seam2 (modL a0) (modL a1)))]) ∧ Below W.heap.size W w') at c4
  change ∀ W, Calls _ _ #[.agg (ints (seam1 (modL a0) (modL a1))), .agg (ints (seam2 (modL a0) (modL a1)))] W (fun e w' => e = .returned (.tuple #[.agg (ints (unseam1 (seam1 (modL a0) (modL a1)) (seam2 (modL a0) (modL a1)))), .agg (ints (unseam2 (seam1 (modL a0) (modL a1)) (seam2 (modL a0) (modL a1))))]) ∧ Below W.heap.size W w') at c5
  change ∀ W, Calls _ _ #[.agg (ints (modL a0)), .agg (ints (modL a1))] W (fun e w' => e = .returned (.tuple #[.agg (ints (unseam1 (modL a0) (modL a1))), .agg (ints (unseam2 (modL a0) (modL a1)))]) ∧ Below W.heap.size W w') at c6
  change ∀ W, Calls _ _ #[.agg (ints (unseam1 (modL a0) (modL a1))), .agg (ints (unseam2 (modL a0) (modL a1)))] W (fun e w' => e = .returned (.tuple #[.agg (ints (seam1 (unseam1 (modL a0) (modL a1)) (unseam2 (modL a0) (modL a1)))), .agg (ints (seam2 (unseam1 (modL a0) (modL a1)) (unseam2 (modL a0) (modL a1))))]) ∧ Below W.heap.size W w') at c7
  rw [hu1.1, hu1.2] at c5
  rw [hu2.1, hu2.2] at c7
  have ea := fun W => same_frames hla W
  have eb := fun W => same_frames hlb W
  clear hu1 hu2 hia hib
  generalize seam1 (modL a0) (modL a1) = c at *
  generalize seam2 (modL a0) (modL a1) = d at *
  generalize unseam1 (modL a0) (modL a1) = p at *
  generalize unseam2 (modL a0) (modL a1) = q at *
  generalize modL a0 = a at *
  generalize modL a1 = b at *
  have HLO := Lib.hid hlo
  have HHI := Lib.hid hhi
  have EA := Lib.hid ea
  have EB := Lib.hid eb
  clear hlo hhi ea eb
  have hk0 : Keep w [(w.heap.size, 43, ints a0), (w.heap.size + 1, 43, ints a1)] ((w.alloc (.cells (ints a0) 43)).alloc (.cells (ints a1) 43)) := by
    have := keep_new (t := 43) (cs := ints a1) (keep_one (w := w) (t := 43) (cs := ints a0))
    rw [show (w.alloc (.cells (ints a0) 43)).heap.size = w.heap.size + 1 by simp] at this
    exact keep_sub this (by simp)
  have hu := Try.underlying43
  have hi0 : (Try.prog.info? 43).map (·.size) = some (a0.map (Value.int .i64)).length := by rw [List.length_map, l0]; kernel_rfl
  have hi1 : (Try.prog.info? 43).map (·.size) = some (a1.map (Value.int .i64)).length := by rw [List.length_map, l1]; kernel_rfl
  clear w0 w1
  rw [show (a0.map (Value.int .i64)).toArray = ints a0 from rfl, show (a1.map (Value.int .i64)).toArray = ints a1 from rfl]
  go_enter Try.func23, Try.ntmps23
  go_upto_region 3 with (first | (go_at_call 54; refine (awake11_calls _).mono ?_; rintro e wA ⟨rfl, hB⟩; have hk := keep_below hk0 hB))
  go_cut [5, 6] from 18 (fun sA sB W => ∃ gA gB, sA = .pointer (some ⟨gA, 0, none⟩) ∧ sB = .pointer (some ⟨gB, 0, none⟩) ∧ Aside (Keep w ((gA, 44, ints a) :: (gB, 44, ints b) :: [(w.heap.size, 43, ints a0), (w.heap.size + 1, 43, ints a1)]) W))
  case first =>
    clear hk0 hB
    simp only [ints] at h0 h1
    refine wp_region_held_drew (S := Keep w ([(w.heap.size, 43, ints a0), (w.heap.size + 1, 43, ints a1)])) (by kernel_rfl) (keep_drew hk) (fun hHeld => ?_)
    refine wpAnyH_take (i := 0) (oi := ⟨_, _, _, _, _, _⟩) (v := _) rfl (by kernel_rfl) (by kernel_rfl) (by kernel_rfl) (fun _ _ _ h => h) (yieldsIf_load_mid (by rfl) _ _ rfl _ _ rfl _ _ (fun _ h => range_whole (keep_at h (show (w.heap.size, 43, ints a0) ∈ _ by simp))) hu rfl hi0) (by assumption) ?_
    try simp only [Act.put, List.setIfInBounds_toArray, List.set_cons_zero, List.set_cons_succ]
    refine wpAnyH_take (i := 2) (oi := ⟨_, _, _, _, _, _⟩) (v := _) rfl (by kernel_rfl) (by kernel_rfl) (by kernel_rfl) (fun _ _ _ h => h) (yieldsIf_load_mid (by rfl) _ _ rfl _ _ rfl _ _ (fun _ h => range_whole (keep_at h (show (w.heap.size + 1, 43, ints a1) ∈ _ by simp))) hu rfl hi1) (by assumption) ?_
    try simp only [Act.put, List.setIfInBounds_toArray, List.set_cons_zero, List.set_cons_succ]
    refine keep_any (fun W => Keep w ([(w.heap.size, 43, ints a0), (w.heap.size + 1, 43, ints a1)]) W) hHeld ?_
    clear hHeld hk
    intro W hHeld
    refine wpAnyH_ready (rs := [1, 4, 5]) (by kernel_rfl) (by simp) ?_
    refine AllReadyH.cons (o := ⟨_, _, _, _, _, _⟩) rfl (fun K hK => ?_) (AllReadyH.cons (o := ⟨_, _, _, _, _, _⟩) rfl (fun K hK => ?_) (AllReadyH.cons (o := ⟨_, _, _, _, _, _⟩) rfl (fun K hK => ?_) (AllReadyH.nil)))
    focus
      go_simp
      refine (h0 _).mono ?_
      rintro e W2 ⟨rfl, hC⟩
      go_simp
      replace hHeld := keep_below hHeld hC
      refine hK.out _ _ hHeld (fun _ => ?_)
      clear hK K hC
      try simp only [Act.put, List.setIfInBounds_toArray, List.set_cons_zero, List.set_cons_succ]
      refine keep_any (fun W => Keep w ([(w.heap.size, 43, ints a0), (w.heap.size + 1, 43, ints a1)]) W) hHeld ?_
      clear hHeld
      intro W hHeld
      refine wpAnyH_ready (rs := [3, 4, 5]) (by kernel_rfl) (by simp) ?_
      refine AllReadyH.cons (o := ⟨_, _, _, _, _, _⟩) rfl (fun K hK => ?_) (AllReadyH.cons (o := ⟨_, _, _, _, _, _⟩) rfl (fun K hK => ?_) (AllReadyH.cons (o := ⟨_, _, _, _, _, _⟩) rfl (fun K hK => ?_) (AllReadyH.nil)))
      focus
        go_simp
        refine (h1 _).mono ?_
        rintro e W2 ⟨rfl, hC⟩
        go_simp
        replace hHeld := keep_below hHeld hC
        refine hK.out _ _ hHeld (fun _ => ?_)
        clear hK K hC
        try simp only [Act.put, List.setIfInBounds_toArray, List.set_cons_zero, List.set_cons_succ]
        refine keep_any (fun W => Keep w ([(w.heap.size, 43, ints a0), (w.heap.size + 1, 43, ints a1)]) W) hHeld ?_
        clear hHeld
        intro W hHeld
        refine wpAnyH_ready (rs := [4, 5]) (by kernel_rfl) (by simp) ?_
        refine AllReadyH.cons (o := ⟨_, _, _, _, _, _⟩) rfl (fun K hK => ?_) (AllReadyH.cons (o := ⟨_, _, _, _, _, _⟩) rfl (fun K hK => ?_) (AllReadyH.nil))
        focus
          go_simp
          have hn := keep_lt hHeld
          have hsz := hHeld.2.size
          have nf := blk_new W 44 (#[Value.int .i64 0, Value.int .i64 0, Value.int .i64 0, Value.int .i64 0, Value.int .i64 0, Value.int .i64 0, Value.int .i64 0, Value.int .i64 0, Value.int .i64 0, Value.int .i64 0, Value.int .i64 0, Value.int .i64 0, Value.int .i64 0, Value.int .i64 0, Value.int .i64 0, Value.int .i64 0, Value.int .i64 0, Value.int .i64 0, Value.int .i64 0, Value.int .i64 0, Value.int .i64 0, Value.int .i64 0, Value.int .i64 0, Value.int .i64 0, Value.int .i64 0, Value.int .i64 0, Value.int .i64 0, Value.int .i64 0, Value.int .i64 0, Value.int .i64 0, Value.int .i64 0, Value.int .i64 0])
          replace hHeld := keep_alloc hHeld (.cells (#[Value.int .i64 0, Value.int .i64 0, Value.int .i64 0, Value.int .i64 0, Value.int .i64 0, Value.int .i64 0, Value.int .i64 0, Value.int .i64 0, Value.int .i64 0, Value.int .i64 0, Value.int .i64 0, Value.int .i64 0, Value.int .i64 0, Value.int .i64 0, Value.int .i64 0, Value.int .i64 0, Value.int .i64 0, Value.int .i64 0, Value.int .i64 0, Value.int .i64 0, Value.int .i64 0, Value.int .i64 0, Value.int .i64 0, Value.int .i64 0, Value.int .i64 0, Value.int .i64 0, Value.int .i64 0, Value.int .i64 0, Value.int .i64 0, Value.int .i64 0, Value.int .i64 0, Value.int .i64 0]) 44)
          refine hK.out _ _ hHeld (fun _ => ?_)
          clear hK K
          try simp only [Act.put, List.setIfInBounds_toArray, List.set_cons_zero, List.set_cons_succ]
          generalize W.heap.size = ga at *
          have fA := nf
          have hnga := hn
          have hsga := hsz
          clear nf hn hsz
          refine keep_any (fun W => Keep w ([(w.heap.size, 43, ints a0), (w.heap.size + 1, 43, ints a1)]) W ∧ Blk W ga 44 (#[Value.int .i64 0, Value.int .i64 0, Value.int .i64 0, Value.int .i64 0, Value.int .i64 0, Value.int .i64 0, Value.int .i64 0, Value.int .i64 0, Value.int .i64 0, Value.int .i64 0, Value.int .i64 0, Value.int .i64 0, Value.int .i64 0, Value.int .i64 0, Value.int .i64 0, Value.int .i64 0, Value.int .i64 0, Value.int .i64 0, Value.int .i64 0, Value.int .i64 0, Value.int .i64 0, Value.int .i64 0, Value.int .i64 0, Value.int .i64 0, Value.int .i64 0, Value.int .i64 0, Value.int .i64 0, Value.int .i64 0, Value.int .i64 0, Value.int .i64 0, Value.int .i64 0, Value.int .i64 0])) ⟨hHeld, fA⟩ ?_
          clear hHeld fA
          rintro W ⟨hHeld, fA⟩
          refine wpAnyH_ready (rs := [5]) (by kernel_rfl) (by simp) ?_
          refine AllReadyH.cons (o := ⟨_, _, _, _, _, _⟩) rfl (fun K hK => ?_) (AllReadyH.nil)
          focus
            go_simp
            have hn := keep_lt hHeld
            have hsz := hHeld.2.size
            have nf := blk_new W 44 (#[Value.int .i64 0, Value.int .i64 0, Value.int .i64 0, Value.int .i64 0, Value.int .i64 0, Value.int .i64 0, Value.int .i64 0, Value.int .i64 0, Value.int .i64 0, Value.int .i64 0, Value.int .i64 0, Value.int .i64 0, Value.int .i64 0, Value.int .i64 0, Value.int .i64 0, Value.int .i64 0, Value.int .i64 0, Value.int .i64 0, Value.int .i64 0, Value.int .i64 0, Value.int .i64 0, Value.int .i64 0, Value.int .i64 0, Value.int .i64 0, Value.int .i64 0, Value.int .i64 0, Value.int .i64 0, Value.int .i64 0, Value.int .i64 0, Value.int .i64 0, Value.int .i64 0, Value.int .i64 0])
            have hne := blk_lt fA
            replace fA := blk_alloc fA (.cells (#[Value.int .i64 0, Value.int .i64 0, Value.int .i64 0, Value.int .i64 0, Value.int .i64 0, Value.int .i64 0, Value.int .i64 0, Value.int .i64 0, Value.int .i64 0, Value.int .i64 0, Value.int .i64 0, Value.int .i64 0, Value.int .i64 0, Value.int .i64 0, Value.int .i64 0, Value.int .i64 0, Value.int .i64 0, Value.int .i64 0, Value.int .i64 0, Value.int .i64 0, Value.int .i64 0, Value.int .i64 0, Value.int .i64 0, Value.int .i64 0, Value.int .i64 0, Value.int .i64 0, Value.int .i64 0, Value.int .i64 0, Value.int .i64 0, Value.int .i64 0, Value.int .i64 0, Value.int .i64 0]) 44)
            replace hHeld := keep_alloc hHeld (.cells (#[Value.int .i64 0, Value.int .i64 0, Value.int .i64 0, Value.int .i64 0, Value.int .i64 0, Value.int .i64 0, Value.int .i64 0, Value.int .i64 0, Value.int .i64 0, Value.int .i64 0, Value.int .i64 0, Value.int .i64 0, Value.int .i64 0, Value.int .i64 0, Value.int .i64 0, Value.int .i64 0, Value.int .i64 0, Value.int .i64 0, Value.int .i64 0, Value.int .i64 0, Value.int .i64 0, Value.int .i64 0, Value.int .i64 0, Value.int .i64 0, Value.int .i64 0, Value.int .i64 0, Value.int .i64 0, Value.int .i64 0, Value.int .i64 0, Value.int .i64 0, Value.int .i64 0, Value.int .i64 0]) 44)
            refine hK.out _ _ hHeld (fun _ => ?_)
            clear hK K
            try simp only [Act.put, List.setIfInBounds_toArray, List.set_cons_zero, List.set_cons_succ]
            generalize W.heap.size = gb at *
            have fB := nf
            have hngb := hn
            have hsgb := hsz
            clear nf hn hsz
            refine keep_any (fun W => Keep w ([(w.heap.size, 43, ints a0), (w.heap.size + 1, 43, ints a1)]) W ∧ Blk W ga 44 (#[Value.int .i64 0, Value.int .i64 0, Value.int .i64 0, Value.int .i64 0, Value.int .i64 0, Value.int .i64 0, Value.int .i64 0, Value.int .i64 0, Value.int .i64 0, Value.int .i64 0, Value.int .i64 0, Value.int .i64 0, Value.int .i64 0, Value.int .i64 0, Value.int .i64 0, Value.int .i64 0, Value.int .i64 0, Value.int .i64 0, Value.int .i64 0, Value.int .i64 0, Value.int .i64 0, Value.int .i64 0, Value.int .i64 0, Value.int .i64 0, Value.int .i64 0, Value.int .i64 0, Value.int .i64 0, Value.int .i64 0, Value.int .i64 0, Value.int .i64 0, Value.int .i64 0, Value.int .i64 0]) ∧ Blk W gb 44 (#[Value.int .i64 0, Value.int .i64 0, Value.int .i64 0, Value.int .i64 0, Value.int .i64 0, Value.int .i64 0, Value.int .i64 0, Value.int .i64 0, Value.int .i64 0, Value.int .i64 0, Value.int .i64 0, Value.int .i64 0, Value.int .i64 0, Value.int .i64 0, Value.int .i64 0, Value.int .i64 0, Value.int .i64 0, Value.int .i64 0, Value.int .i64 0, Value.int .i64 0, Value.int .i64 0, Value.int .i64 0, Value.int .i64 0, Value.int .i64 0, Value.int .i64 0, Value.int .i64 0, Value.int .i64 0, Value.int .i64 0, Value.int .i64 0, Value.int .i64 0, Value.int .i64 0, Value.int .i64 0])) ⟨hHeld, fA, fB⟩ ?_
            clear hHeld fA fB
            rintro W ⟨hHeld, fA, fB⟩
            refine wpAnyH_ready (rs := [6]) (by kernel_rfl) (by simp) ?_
            refine AllReadyH.cons (o := ⟨_, _, _, _, _, _⟩) rfl (fun K hK => ?_) AllReadyH.nil
            rw [if_pos (by rfl)]
            refine wp_store_mid 44 _ _ rfl ga 0 (ints a) rfl rfl (by rw [ints_size, hla]; exact blk_there fA) (by rw [ints_size, hla]; kernel_rfl) (ints_one _) ?_
            have k1 := keep_store (new := ints a) hHeld fA hnga (by have := hHeld.2.size; omega) (by rw [ints_size, hla]; rfl)
            have k2 := blk_grown fB (setCells_whole (new := ints a) fA (by rw [ints_size, hla]; rfl)).2 (by simp; omega)
            refine hK.out _ _ k1.1 (fun _ => ?_)
            clear hK K
            try simp only [Act.put, List.setIfInBounds_toArray, List.set_cons_zero, List.set_cons_succ]
            replace hHeld := k1.1
            replace fA := k1.2
            replace fB := k2
            clear k1 k2
            refine keep_any (fun W => Keep w ([(w.heap.size, 43, ints a0), (w.heap.size + 1, 43, ints a1)]) W ∧ Blk W ga 44 (ints a) ∧ Blk W gb 44 (#[Value.int .i64 0, Value.int .i64 0, Value.int .i64 0, Value.int .i64 0, Value.int .i64 0, Value.int .i64 0, Value.int .i64 0, Value.int .i64 0, Value.int .i64 0, Value.int .i64 0, Value.int .i64 0, Value.int .i64 0, Value.int .i64 0, Value.int .i64 0, Value.int .i64 0, Value.int .i64 0, Value.int .i64 0, Value.int .i64 0, Value.int .i64 0, Value.int .i64 0, Value.int .i64 0, Value.int .i64 0, Value.int .i64 0, Value.int .i64 0, Value.int .i64 0, Value.int .i64 0, Value.int .i64 0, Value.int .i64 0, Value.int .i64 0, Value.int .i64 0, Value.int .i64 0, Value.int .i64 0])) ⟨hHeld, fA, fB⟩ ?_
            clear hHeld fA fB
            rintro W ⟨hHeld, fA, fB⟩
            refine wpAnyH_ready (rs := [7]) (by kernel_rfl) (by simp) ?_
            refine AllReadyH.cons (o := ⟨_, _, _, _, _, _⟩) rfl (fun K hK => ?_) AllReadyH.nil
            rw [if_pos (by rfl)]
            refine wp_store_mid 44 _ _ rfl gb 0 (ints b) rfl rfl (by rw [ints_size, hlb]; exact blk_there fB) (by rw [ints_size, hlb]; kernel_rfl) (ints_one _) ?_
            have k1 := keep_store (new := ints b) hHeld fB hngb (by have := hHeld.2.size; omega) (by rw [ints_size, hlb]; rfl)
            have k2 := blk_grown fA (setCells_whole (new := ints b) fB (by rw [ints_size, hlb]; rfl)).2 (by simp; omega)
            refine hK.out _ _ k1.1 (fun _ => ?_)
            clear hK K
            try simp only [Act.put, List.setIfInBounds_toArray, List.set_cons_zero, List.set_cons_succ]
            replace hHeld := k1.1
            replace fB := k1.2
            replace fA := k2
            clear k1 k2
            refine keep_any (fun W => Keep w ([(w.heap.size, 43, ints a0), (w.heap.size + 1, 43, ints a1)]) W ∧ Blk W ga 44 (ints a) ∧ Blk W gb 44 (ints b)) ⟨hHeld, fA, fB⟩ ?_
            clear hHeld fA fB
            rintro W ⟨hHeld, fA, fB⟩
            refine wpAnyH_done (by kernel_rfl) ?_ _
            go_wp2_with fail
            go_meet
            exact ⟨ga, gb, rfl, rfl, keep_cons (keep_cons hHeld fB) fA⟩
        focus
          go_simp
          have hn := keep_lt hHeld
          have hsz := hHeld.2.size
          have nf := blk_new W 44 (#[Value.int .i64 0, Value.int .i64 0, Value.int .i64 0, Value.int .i64 0, Value.int .i64 0, Value.int .i64 0, Value.int .i64 0, Value.int .i64 0, Value.int .i64 0, Value.int .i64 0, Value.int .i64 0, Value.int .i64 0, Value.int .i64 0, Value.int .i64 0, Value.int .i64 0, Value.int .i64 0, Value.int .i64 0, Value.int .i64 0, Value.int .i64 0, Value.int .i64 0, Value.int .i64 0, Value.int .i64 0, Value.int .i64 0, Value.int .i64 0, Value.int .i64 0, Value.int .i64 0, Value.int .i64 0, Value.int .i64 0, Value.int .i64 0, Value.int .i64 0, Value.int .i64 0, Value.int .i64 0])
          replace hHeld := keep_alloc hHeld (.cells (#[Value.int .i64 0, Value.int .i64 0, Value.int .i64 0, Value.int .i64 0, Value.int .i64 0, Value.int .i64 0, Value.int .i64 0, Value.int .i64 0, Value.int .i64 0, Value.int .i64 0, Value.int .i64 0, Value.int .i64 0, Value.int .i64 0, Value.int .i64 0, Value.int .i64 0, Value.int .i64 0, Value.int .i64 0, Value.int .i64 0, Value.int .i64 0, Value.int .i64 0, Value.int .i64 0, Value.int .i64 0, Value.int .i64 0, Value.int .i64 0, Value.int .i64 0, Value.int .i64 0, Value.int .i64 0, Value.int .i64 0, Value.int .i64 0, Value.int .i64 0, Value.int .i64 0, Value.int .i64 0]) 44)
          refine hK.out _ _ hHeld (fun _ => ?_)
          clear hK K
          try simp only [Act.put, List.setIfInBounds_toArray, List.set_cons_zero, List.set_cons_succ]
          generalize W.heap.size = gb at *
          have fB := nf
          have hngb := hn
          have hsgb := hsz
          clear nf hn hsz
          refine keep_any (fun W => Keep w ([(w.heap.size, 43, ints a0), (w.heap.size + 1, 43, ints a1)]) W ∧ Blk W gb 44 (#[Value.int .i64 0, Value.int .i64 0, Value.int .i64 0, Value.int .i64 0, Value.int .i64 0, Value.int .i64 0, Value.int .i64 0, Value.int .i64 0, Value.int .i64 0, Value.int .i64 0, Value.int .i64 0, Value.int .i64 0, Value.int .i64 0, Value.int .i64 0, Value.int .i64 0, Value.int .i64 0, Value.int .i64 0, Value.int .i64 0, Value.int .i64 0, Value.int .i64 0, Value.int .i64 0, Value.int .i64 0, Value.int .i64 0, Value.int .i64 0, Value.int .i64 0, Value.int .i64 0, Value.int .i64 0, Value.int .i64 0, Value.int .i64 0, Value.int .i64 0, Value.int .i64 0, Value.int .i64 0])) ⟨hHeld, fB⟩ ?_
          clear hHeld fB
          rintro W ⟨hHeld, fB⟩
          refine wpAnyH_ready (rs := [4]) (by kernel_rfl) (by simp) ?_
          refine AllReadyH.cons (o := ⟨_, _, _, _, _, _⟩) rfl (fun K hK => ?_) (AllReadyH.nil)
          focus
            go_simp
            have hn := keep_lt hHeld
            have hsz := hHeld.2.size
            have nf := blk_new W 44 (#[Value.int .i64 0, Value.int .i64 0, Value.int .i64 0, Value.int .i64 0, Value.int .i64 0, Value.int .i64 0, Value.int .i64 0, Value.int .i64 0, Value.int .i64 0, Value.int .i64 0, Value.int .i64 0, Value.int .i64 0, Value.int .i64 0, Value.int .i64 0, Value.int .i64 0, Value.int .i64 0, Value.int .i64 0, Value.int .i64 0, Value.int .i64 0, Value.int .i64 0, Value.int .i64 0, Value.int .i64 0, Value.int .i64 0, Value.int .i64 0, Value.int .i64 0, Value.int .i64 0, Value.int .i64 0, Value.int .i64 0, Value.int .i64 0, Value.int .i64 0, Value.int .i64 0, Value.int .i64 0])
            have hne := blk_lt fB
            replace fB := blk_alloc fB (.cells (#[Value.int .i64 0, Value.int .i64 0, Value.int .i64 0, Value.int .i64 0, Value.int .i64 0, Value.int .i64 0, Value.int .i64 0, Value.int .i64 0, Value.int .i64 0, Value.int .i64 0, Value.int .i64 0, Value.int .i64 0, Value.int .i64 0, Value.int .i64 0, Value.int .i64 0, Value.int .i64 0, Value.int .i64 0, Value.int .i64 0, Value.int .i64 0, Value.int .i64 0, Value.int .i64 0, Value.int .i64 0, Value.int .i64 0, Value.int .i64 0, Value.int .i64 0, Value.int .i64 0, Value.int .i64 0, Value.int .i64 0, Value.int .i64 0, Value.int .i64 0, Value.int .i64 0, Value.int .i64 0]) 44)
            replace hHeld := keep_alloc hHeld (.cells (#[Value.int .i64 0, Value.int .i64 0, Value.int .i64 0, Value.int .i64 0, Value.int .i64 0, Value.int .i64 0, Value.int .i64 0, Value.int .i64 0, Value.int .i64 0, Value.int .i64 0, Value.int .i64 0, Value.int .i64 0, Value.int .i64 0, Value.int .i64 0, Value.int .i64 0, Value.int .i64 0, Value.int .i64 0, Value.int .i64 0, Value.int .i64 0, Value.int .i64 0, Value.int .i64 0, Value.int .i64 0, Value.int .i64 0, Value.int .i64 0, Value.int .i64 0, Value.int .i64 0, Value.int .i64 0, Value.int .i64 0, Value.int .i64 0, Value.int .i64 0, Value.int .i64 0, Value.int .i64 0]) 44)
            refine hK.out _ _ hHeld (fun _ => ?_)
            clear hK K
            try simp only [Act.put, List.setIfInBounds_toArray, List.set_cons_zero, List.set_cons_succ]
            generalize W.heap.size = ga at *
            have fA := nf
            have hnga := hn
            have hsga := hsz
            clear nf hn hsz
            refine keep_any (fun W => Keep w ([(w.heap.size, 43, ints a0), (w.heap.size + 1, 43, ints a1)]) W ∧ Blk W ga 44 (#[Value.int .i64 0, Value.int .i64 0, Value.int .i64 0, Value.int .i64 0, Value.int .i64 0, Value.int .i64 0, Value.int .i64 0, Value.int .i64 0, Value.int .i64 0, Value.int .i64 0, Value.int .i64 0, Value.int .i64 0, Value.int .i64 0, Value.int .i64 0, Value.int .i64 0, Value.int .i64 0, Value.int .i64 0, Value.int .i64 0, Value.int .i64 0, Value.int .i64 0, Value.int .i64 0, Value.int .i64 0, Value.int .i64 0, Value.int .i64 0, Value.int .i64 0, Value.int .i64 0, Value.int .i64 0, Value.int .i64 0, Value.int .i64 0, Value.int .i64 0, Value.int .i64 0, Value.int .i64 0]) ∧ Blk W gb 44 (#[Value.int .i64 0, Value.int .i64 0, Value.int .i64 0, Value.int .i64 0, Value.int .i64 0, Value.int .i64 0, Value.int .i64 0, Value.int .i64 0, Value.int .i64 0, Value.int .i64 0, Value.int .i64 0, Value.int .i64 0, Value.int .i64 0, Value.int .i64 0, Value.int .i64 0, Value.int .i64 0, Value.int .i64 0, Value.int .i64 0, Value.int .i64 0, Value.int .i64 0, Value.int .i64 0, Value.int .i64 0, Value.int .i64 0, Value.int .i64 0, Value.int .i64 0, Value.int .i64 0, Value.int .i64 0, Value.int .i64 0, Value.int .i64 0, Value.int .i64 0, Value.int .i64 0, Value.int .i64 0])) ⟨hHeld, fA, fB⟩ ?_
            clear hHeld fA fB
            rintro W ⟨hHeld, fA, fB⟩
            refine wpAnyH_ready (rs := [6]) (by kernel_rfl) (by simp) ?_
            refine AllReadyH.cons (o := ⟨_, _, _, _, _, _⟩) rfl (fun K hK => ?_) AllReadyH.nil
            rw [if_pos (by rfl)]
            refine wp_store_mid 44 _ _ rfl ga 0 (ints a) rfl rfl (by rw [ints_size, hla]; exact blk_there fA) (by rw [ints_size, hla]; kernel_rfl) (ints_one _) ?_
            have k1 := keep_store (new := ints a) hHeld fA hnga (by have := hHeld.2.size; omega) (by rw [ints_size, hla]; rfl)
            have k2 := blk_grown fB (setCells_whole (new := ints a) fA (by rw [ints_size, hla]; rfl)).2 (by simp; omega)
            refine hK.out _ _ k1.1 (fun _ => ?_)
            clear hK K
            try simp only [Act.put, List.setIfInBounds_toArray, List.set_cons_zero, List.set_cons_succ]
            replace hHeld := k1.1
            replace fA := k1.2
            replace fB := k2
            clear k1 k2
            refine keep_any (fun W => Keep w ([(w.heap.size, 43, ints a0), (w.heap.size + 1, 43, ints a1)]) W ∧ Blk W ga 44 (ints a) ∧ Blk W gb 44 (#[Value.int .i64 0, Value.int .i64 0, Value.int .i64 0, Value.int .i64 0, Value.int .i64 0, Value.int .i64 0, Value.int .i64 0, Value.int .i64 0, Value.int .i64 0, Value.int .i64 0, Value.int .i64 0, Value.int .i64 0, Value.int .i64 0, Value.int .i64 0, Value.int .i64 0, Value.int .i64 0, Value.int .i64 0, Value.int .i64 0, Value.int .i64 0, Value.int .i64 0, Value.int .i64 0, Value.int .i64 0, Value.int .i64 0, Value.int .i64 0, Value.int .i64 0, Value.int .i64 0, Value.int .i64 0, Value.int .i64 0, Value.int .i64 0, Value.int .i64 0, Value.int .i64 0, Value.int .i64 0])) ⟨hHeld, fA, fB⟩ ?_
            clear hHeld fA fB
            rintro W ⟨hHeld, fA, fB⟩
            refine wpAnyH_ready (rs := [7]) (by kernel_rfl) (by simp) ?_
            refine AllReadyH.cons (o := ⟨_, _, _, _, _, _⟩) rfl (fun K hK => ?_) AllReadyH.nil
            rw [if_pos (by rfl)]
            refine wp_store_mid 44 _ _ rfl gb 0 (ints b) rfl rfl (by rw [ints_size, hlb]; exact blk_there fB) (by rw [ints_size, hlb]; kernel_rfl) (ints_one _) ?_
            have k1 := keep_store (new := ints b) hHeld fB hngb (by have := hHeld.2.size; omega) (by rw [ints_size, hlb]; rfl)
            have k2 := blk_grown fA (setCells_whole (new := ints b) fB (by rw [ints_size, hlb]; rfl)).2 (by simp; omega)
            refine hK.out _ _ k1.1 (fun _ => ?_)
            clear hK K
            try simp only [Act.put, List.setIfInBounds_toArray, List.set_cons_zero, List.set_cons_succ]
            replace hHeld := k1.1
            replace fB := k1.2
            replace fA := k2
            clear k1 k2
            refine keep_any (fun W => Keep w ([(w.heap.size, 43, ints a0), (w.heap.size + 1, 43, ints a1)]) W ∧ Blk W ga 44 (ints a) ∧ Blk W gb 44 (ints b)) ⟨hHeld, fA, fB⟩ ?_
            clear hHeld fA fB
            rintro W ⟨hHeld, fA, fB⟩
            refine wpAnyH_done (by kernel_rfl) ?_ _
            go_wp2_with fail
            go_meet
            exact ⟨ga, gb, rfl, rfl, keep_cons (keep_cons hHeld fB) fA⟩
      focus
        go_simp
        have hn := keep_lt hHeld
        have hsz := hHeld.2.size
        have nf := blk_new W 44 (#[Value.int .i64 0, Value.int .i64 0, Value.int .i64 0, Value.int .i64 0, Value.int .i64 0, Value.int .i64 0, Value.int .i64 0, Value.int .i64 0, Value.int .i64 0, Value.int .i64 0, Value.int .i64 0, Value.int .i64 0, Value.int .i64 0, Value.int .i64 0, Value.int .i64 0, Value.int .i64 0, Value.int .i64 0, Value.int .i64 0, Value.int .i64 0, Value.int .i64 0, Value.int .i64 0, Value.int .i64 0, Value.int .i64 0, Value.int .i64 0, Value.int .i64 0, Value.int .i64 0, Value.int .i64 0, Value.int .i64 0, Value.int .i64 0, Value.int .i64 0, Value.int .i64 0, Value.int .i64 0])
        replace hHeld := keep_alloc hHeld (.cells (#[Value.int .i64 0, Value.int .i64 0, Value.int .i64 0, Value.int .i64 0, Value.int .i64 0, Value.int .i64 0, Value.int .i64 0, Value.int .i64 0, Value.int .i64 0, Value.int .i64 0, Value.int .i64 0, Value.int .i64 0, Value.int .i64 0, Value.int .i64 0, Value.int .i64 0, Value.int .i64 0, Value.int .i64 0, Value.int .i64 0, Value.int .i64 0, Value.int .i64 0, Value.int .i64 0, Value.int .i64 0, Value.int .i64 0, Value.int .i64 0, Value.int .i64 0, Value.int .i64 0, Value.int .i64 0, Value.int .i64 0, Value.int .i64 0, Value.int .i64 0, Value.int .i64 0, Value.int .i64 0]) 44)
        refine hK.out _ _ hHeld (fun _ => ?_)
        clear hK K
        try simp only [Act.put, List.setIfInBounds_toArray, List.set_cons_zero, List.set_cons_succ]
        generalize W.heap.size = ga at *
        have fA := nf
        have hnga := hn
        have hsga := hsz
        clear nf hn hsz
        refine keep_any (fun W => Keep w ([(w.heap.size, 43, ints a0), (w.heap.size + 1, 43, ints a1)]) W ∧ Blk W ga 44 (#[Value.int .i64 0, Value.int .i64 0, Value.int .i64 0, Value.int .i64 0, Value.int .i64 0, Value.int .i64 0, Value.int .i64 0, Value.int .i64 0, Value.int .i64 0, Value.int .i64 0, Value.int .i64 0, Value.int .i64 0, Value.int .i64 0, Value.int .i64 0, Value.int .i64 0, Value.int .i64 0, Value.int .i64 0, Value.int .i64 0, Value.int .i64 0, Value.int .i64 0, Value.int .i64 0, Value.int .i64 0, Value.int .i64 0, Value.int .i64 0, Value.int .i64 0, Value.int .i64 0, Value.int .i64 0, Value.int .i64 0, Value.int .i64 0, Value.int .i64 0, Value.int .i64 0, Value.int .i64 0])) ⟨hHeld, fA⟩ ?_
        clear hHeld fA
        rintro W ⟨hHeld, fA⟩
        refine wpAnyH_ready (rs := [3, 5]) (by kernel_rfl) (by simp) ?_
        refine AllReadyH.cons (o := ⟨_, _, _, _, _, _⟩) rfl (fun K hK => ?_) (AllReadyH.cons (o := ⟨_, _, _, _, _, _⟩) rfl (fun K hK => ?_) (AllReadyH.nil))
        focus
          go_simp
          refine (h1 _).mono ?_
          rintro e W2 ⟨rfl, hC⟩
          go_simp
          replace hHeld := keep_below hHeld hC
          replace fA := blk_below fA hC (blk_lt fA)
          refine hK.out _ _ hHeld (fun _ => ?_)
          clear hK K hC
          try simp only [Act.put, List.setIfInBounds_toArray, List.set_cons_zero, List.set_cons_succ]
          refine keep_any (fun W => Keep w ([(w.heap.size, 43, ints a0), (w.heap.size + 1, 43, ints a1)]) W ∧ Blk W ga 44 (#[Value.int .i64 0, Value.int .i64 0, Value.int .i64 0, Value.int .i64 0, Value.int .i64 0, Value.int .i64 0, Value.int .i64 0, Value.int .i64 0, Value.int .i64 0, Value.int .i64 0, Value.int .i64 0, Value.int .i64 0, Value.int .i64 0, Value.int .i64 0, Value.int .i64 0, Value.int .i64 0, Value.int .i64 0, Value.int .i64 0, Value.int .i64 0, Value.int .i64 0, Value.int .i64 0, Value.int .i64 0, Value.int .i64 0, Value.int .i64 0, Value.int .i64 0, Value.int .i64 0, Value.int .i64 0, Value.int .i64 0, Value.int .i64 0, Value.int .i64 0, Value.int .i64 0, Value.int .i64 0])) ⟨hHeld, fA⟩ ?_
          clear hHeld fA
          rintro W ⟨hHeld, fA⟩
          refine wpAnyH_ready (rs := [5]) (by kernel_rfl) (by simp) ?_
          refine AllReadyH.cons (o := ⟨_, _, _, _, _, _⟩) rfl (fun K hK => ?_) (AllReadyH.nil)
          focus
            go_simp
            have hn := keep_lt hHeld
            have hsz := hHeld.2.size
            have nf := blk_new W 44 (#[Value.int .i64 0, Value.int .i64 0, Value.int .i64 0, Value.int .i64 0, Value.int .i64 0, Value.int .i64 0, Value.int .i64 0, Value.int .i64 0, Value.int .i64 0, Value.int .i64 0, Value.int .i64 0, Value.int .i64 0, Value.int .i64 0, Value.int .i64 0, Value.int .i64 0, Value.int .i64 0, Value.int .i64 0, Value.int .i64 0, Value.int .i64 0, Value.int .i64 0, Value.int .i64 0, Value.int .i64 0, Value.int .i64 0, Value.int .i64 0, Value.int .i64 0, Value.int .i64 0, Value.int .i64 0, Value.int .i64 0, Value.int .i64 0, Value.int .i64 0, Value.int .i64 0, Value.int .i64 0])
            have hne := blk_lt fA
            replace fA := blk_alloc fA (.cells (#[Value.int .i64 0, Value.int .i64 0, Value.int .i64 0, Value.int .i64 0, Value.int .i64 0, Value.int .i64 0, Value.int .i64 0, Value.int .i64 0, Value.int .i64 0, Value.int .i64 0, Value.int .i64 0, Value.int .i64 0, Value.int .i64 0, Value.int .i64 0, Value.int .i64 0, Value.int .i64 0, Value.int .i64 0, Value.int .i64 0, Value.int .i64 0, Value.int .i64 0, Value.int .i64 0, Value.int .i64 0, Value.int .i64 0, Value.int .i64 0, Value.int .i64 0, Value.int .i64 0, Value.int .i64 0, Value.int .i64 0, Value.int .i64 0, Value.int .i64 0, Value.int .i64 0, Value.int .i64 0]) 44)
            replace hHeld := keep_alloc hHeld (.cells (#[Value.int .i64 0, Value.int .i64 0, Value.int .i64 0, Value.int .i64 0, Value.int .i64 0, Value.int .i64 0, Value.int .i64 0, Value.int .i64 0, Value.int .i64 0, Value.int .i64 0, Value.int .i64 0, Value.int .i64 0, Value.int .i64 0, Value.int .i64 0, Value.int .i64 0, Value.int .i64 0, Value.int .i64 0, Value.int .i64 0, Value.int .i64 0, Value.int .i64 0, Value.int .i64 0, Value.int .i64 0, Value.int .i64 0, Value.int .i64 0, Value.int .i64 0, Value.int .i64 0, Value.int .i64 0, Value.int .i64 0, Value.int .i64 0, Value.int .i64 0, Value.int .i64 0, Value.int .i64 0]) 44)
            refine hK.out _ _ hHeld (fun _ => ?_)
            clear hK K
            try simp only [Act.put, List.setIfInBounds_toArray, List.set_cons_zero, List.set_cons_succ]
            generalize W.heap.size = gb at *
            have fB := nf
            have hngb := hn
            have hsgb := hsz
            clear nf hn hsz
            refine keep_any (fun W => Keep w ([(w.heap.size, 43, ints a0), (w.heap.size + 1, 43, ints a1)]) W ∧ Blk W ga 44 (#[Value.int .i64 0, Value.int .i64 0, Value.int .i64 0, Value.int .i64 0, Value.int .i64 0, Value.int .i64 0, Value.int .i64 0, Value.int .i64 0, Value.int .i64 0, Value.int .i64 0, Value.int .i64 0, Value.int .i64 0, Value.int .i64 0, Value.int .i64 0, Value.int .i64 0, Value.int .i64 0, Value.int .i64 0, Value.int .i64 0, Value.int .i64 0, Value.int .i64 0, Value.int .i64 0, Value.int .i64 0, Value.int .i64 0, Value.int .i64 0, Value.int .i64 0, Value.int .i64 0, Value.int .i64 0, Value.int .i64 0, Value.int .i64 0, Value.int .i64 0, Value.int .i64 0, Value.int .i64 0]) ∧ Blk W gb 44 (#[Value.int .i64 0, Value.int .i64 0, Value.int .i64 0, Value.int .i64 0, Value.int .i64 0, Value.int .i64 0, Value.int .i64 0, Value.int .i64 0, Value.int .i64 0, Value.int .i64 0, Value.int .i64 0, Value.int .i64 0, Value.int .i64 0, Value.int .i64 0, Value.int .i64 0, Value.int .i64 0, Value.int .i64 0, Value.int .i64 0, Value.int .i64 0, Value.int .i64 0, Value.int .i64 0, Value.int .i64 0, Value.int .i64 0, Value.int .i64 0, Value.int .i64 0, Value.int .i64 0, Value.int .i64 0, Value.int .i64 0, Value.int .i64 0, Value.int .i64 0, Value.int .i64 0, Value.int .i64 0])) ⟨hHeld, fA, fB⟩ ?_
            clear hHeld fA fB
            rintro W ⟨hHeld, fA, fB⟩
            refine wpAnyH_ready (rs := [6]) (by kernel_rfl) (by simp) ?_
            refine AllReadyH.cons (o := ⟨_, _, _, _, _, _⟩) rfl (fun K hK => ?_) AllReadyH.nil
            rw [if_pos (by rfl)]
            refine wp_store_mid 44 _ _ rfl ga 0 (ints a) rfl rfl (by rw [ints_size, hla]; exact blk_there fA) (by rw [ints_size, hla]; kernel_rfl) (ints_one _) ?_
            have k1 := keep_store (new := ints a) hHeld fA hnga (by have := hHeld.2.size; omega) (by rw [ints_size, hla]; rfl)
            have k2 := blk_grown fB (setCells_whole (new := ints a) fA (by rw [ints_size, hla]; rfl)).2 (by simp; omega)
            refine hK.out _ _ k1.1 (fun _ => ?_)
            clear hK K
            try simp only [Act.put, List.setIfInBounds_toArray, List.set_cons_zero, List.set_cons_succ]
            replace hHeld := k1.1
            replace fA := k1.2
            replace fB := k2
            clear k1 k2
            refine keep_any (fun W => Keep w ([(w.heap.size, 43, ints a0), (w.heap.size + 1, 43, ints a1)]) W ∧ Blk W ga 44 (ints a) ∧ Blk W gb 44 (#[Value.int .i64 0, Value.int .i64 0, Value.int .i64 0, Value.int .i64 0, Value.int .i64 0, Value.int .i64 0, Value.int .i64 0, Value.int .i64 0, Value.int .i64 0, Value.int .i64 0, Value.int .i64 0, Value.int .i64 0, Value.int .i64 0, Value.int .i64 0, Value.int .i64 0, Value.int .i64 0, Value.int .i64 0, Value.int .i64 0, Value.int .i64 0, Value.int .i64 0, Value.int .i64 0, Value.int .i64 0, Value.int .i64 0, Value.int .i64 0, Value.int .i64 0, Value.int .i64 0, Value.int .i64 0, Value.int .i64 0, Value.int .i64 0, Value.int .i64 0, Value.int .i64 0, Value.int .i64 0])) ⟨hHeld, fA, fB⟩ ?_
            clear hHeld fA fB
            rintro W ⟨hHeld, fA, fB⟩
            refine wpAnyH_ready (rs := [7]) (by kernel_rfl) (by simp) ?_
            refine AllReadyH.cons (o := ⟨_, _, _, _, _, _⟩) rfl (fun K hK => ?_) AllReadyH.nil
            rw [if_pos (by rfl)]
            refine wp_store_mid 44 _ _ rfl gb 0 (ints b) rfl rfl (by rw [ints_size, hlb]; exact blk_there fB) (by rw [ints_size, hlb]; kernel_rfl) (ints_one _) ?_
            have k1 := keep_store (new := ints b) hHeld fB hngb (by have := hHeld.2.size; omega) (by rw [ints_size, hlb]; rfl)
            have k2 := blk_grown fA (setCells_whole (new := ints b) fB (by rw [ints_size, hlb]; rfl)).2 (by simp; omega)
            refine hK.out _ _ k1.1 (fun _ => ?_)
            clear hK K
            try simp only [Act.put, List.setIfInBounds_toArray, List.set_cons_zero, List.set_cons_succ]
            replace hHeld := k1.1
            replace fB := k1.2
            replace fA := k2
            clear k1 k2
            refine keep_any (fun W => Keep w ([(w.heap.size, 43, ints a0), (w.heap.size + 1, 43, ints a1)]) W ∧ Blk W ga 44 (ints a) ∧ Blk W gb 44 (ints b)) ⟨hHeld, fA, fB⟩ ?_
            clear hHeld fA fB
            rintro W ⟨hHeld, fA, fB⟩
            refine wpAnyH_done (by kernel_rfl) ?_ _
            go_wp2_with fail
            go_meet
            exact ⟨ga, gb, rfl, rfl, keep_cons (keep_cons hHeld fB) fA⟩
        focus
          go_simp
          have hn := keep_lt hHeld
          have hsz := hHeld.2.size
          have nf := blk_new W 44 (#[Value.int .i64 0, Value.int .i64 0, Value.int .i64 0, Value.int .i64 0, Value.int .i64 0, Value.int .i64 0, Value.int .i64 0, Value.int .i64 0, Value.int .i64 0, Value.int .i64 0, Value.int .i64 0, Value.int .i64 0, Value.int .i64 0, Value.int .i64 0, Value.int .i64 0, Value.int .i64 0, Value.int .i64 0, Value.int .i64 0, Value.int .i64 0, Value.int .i64 0, Value.int .i64 0, Value.int .i64 0, Value.int .i64 0, Value.int .i64 0, Value.int .i64 0, Value.int .i64 0, Value.int .i64 0, Value.int .i64 0, Value.int .i64 0, Value.int .i64 0, Value.int .i64 0, Value.int .i64 0])
          have hne := blk_lt fA
          replace fA := blk_alloc fA (.cells (#[Value.int .i64 0, Value.int .i64 0, Value.int .i64 0, Value.int .i64 0, Value.int .i64 0, Value.int .i64 0, Value.int .i64 0, Value.int .i64 0, Value.int .i64 0, Value.int .i64 0, Value.int .i64 0, Value.int .i64 0, Value.int .i64 0, Value.int .i64 0, Value.int .i64 0, Value.int .i64 0, Value.int .i64 0, Value.int .i64 0, Value.int .i64 0, Value.int .i64 0, Value.int .i64 0, Value.int .i64 0, Value.int .i64 0, Value.int .i64 0, Value.int .i64 0, Value.int .i64 0, Value.int .i64 0, Value.int .i64 0, Value.int .i64 0, Value.int .i64 0, Value.int .i64 0, Value.int .i64 0]) 44)
          replace hHeld := keep_alloc hHeld (.cells (#[Value.int .i64 0, Value.int .i64 0, Value.int .i64 0, Value.int .i64 0, Value.int .i64 0, Value.int .i64 0, Value.int .i64 0, Value.int .i64 0, Value.int .i64 0, Value.int .i64 0, Value.int .i64 0, Value.int .i64 0, Value.int .i64 0, Value.int .i64 0, Value.int .i64 0, Value.int .i64 0, Value.int .i64 0, Value.int .i64 0, Value.int .i64 0, Value.int .i64 0, Value.int .i64 0, Value.int .i64 0, Value.int .i64 0, Value.int .i64 0, Value.int .i64 0, Value.int .i64 0, Value.int .i64 0, Value.int .i64 0, Value.int .i64 0, Value.int .i64 0, Value.int .i64 0, Value.int .i64 0]) 44)
          refine hK.out _ _ hHeld (fun _ => ?_)
          clear hK K
          try simp only [Act.put, List.setIfInBounds_toArray, List.set_cons_zero, List.set_cons_succ]
          generalize W.heap.size = gb at *
          have fB := nf
          have hngb := hn
          have hsgb := hsz
          clear nf hn hsz
          refine keep_any (fun W => Keep w ([(w.heap.size, 43, ints a0), (w.heap.size + 1, 43, ints a1)]) W ∧ Blk W ga 44 (#[Value.int .i64 0, Value.int .i64 0, Value.int .i64 0, Value.int .i64 0, Value.int .i64 0, Value.int .i64 0, Value.int .i64 0, Value.int .i64 0, Value.int .i64 0, Value.int .i64 0, Value.int .i64 0, Value.int .i64 0, Value.int .i64 0, Value.int .i64 0, Value.int .i64 0, Value.int .i64 0, Value.int .i64 0, Value.int .i64 0, Value.int .i64 0, Value.int .i64 0, Value.int .i64 0, Value.int .i64 0, Value.int .i64 0, Value.int .i64 0, Value.int .i64 0, Value.int .i64 0, Value.int .i64 0, Value.int .i64 0, Value.int .i64 0, Value.int .i64 0, Value.int .i64 0, Value.int .i64 0]) ∧ Blk W gb 44 (#[Value.int .i64 0, Value.int .i64 0, Value.int .i64 0, Value.int .i64 0, Value.int .i64 0, Value.int .i64 0, Value.int .i64 0, Value.int .i64 0, Value.int .i64 0, Value.int .i64 0, Value.int .i64 0, Value.int .i64 0, Value.int .i64 0, Value.int .i64 0, Value.int .i64 0, Value.int .i64 0, Value.int .i64 0, Value.int .i64 0, Value.int .i64 0, Value.int .i64 0, Value.int .i64 0, Value.int .i64 0, Value.int .i64 0, Value.int .i64 0, Value.int .i64 0, Value.int .i64 0, Value.int .i64 0, Value.int .i64 0, Value.int .i64 0, Value.int .i64 0, Value.int .i64 0, Value.int .i64 0])) ⟨hHeld, fA, fB⟩ ?_
          clear hHeld fA fB
          rintro W ⟨hHeld, fA, fB⟩
          refine wpAnyH_ready (rs := [3]) (by kernel_rfl) (by simp) ?_
          refine AllReadyH.cons (o := ⟨_, _, _, _, _, _⟩) rfl (fun K hK => ?_) (AllReadyH.nil)
          focus
            go_simp
            refine (h1 _).mono ?_
            rintro e W2 ⟨rfl, hC⟩
            go_simp
            replace hHeld := keep_below hHeld hC
            replace fA := blk_below fA hC (blk_lt fA)
            replace fB := blk_below fB hC (blk_lt fB)
            refine hK.out _ _ hHeld (fun _ => ?_)
            clear hK K hC
            try simp only [Act.put, List.setIfInBounds_toArray, List.set_cons_zero, List.set_cons_succ]
            refine keep_any (fun W => Keep w ([(w.heap.size, 43, ints a0), (w.heap.size + 1, 43, ints a1)]) W ∧ Blk W ga 44 (#[Value.int .i64 0, Value.int .i64 0, Value.int .i64 0, Value.int .i64 0, Value.int .i64 0, Value.int .i64 0, Value.int .i64 0, Value.int .i64 0, Value.int .i64 0, Value.int .i64 0, Value.int .i64 0, Value.int .i64 0, Value.int .i64 0, Value.int .i64 0, Value.int .i64 0, Value.int .i64 0, Value.int .i64 0, Value.int .i64 0, Value.int .i64 0, Value.int .i64 0, Value.int .i64 0, Value.int .i64 0, Value.int .i64 0, Value.int .i64 0, Value.int .i64 0, Value.int .i64 0, Value.int .i64 0, Value.int .i64 0, Value.int .i64 0, Value.int .i64 0, Value.int .i64 0, Value.int .i64 0]) ∧ Blk W gb 44 (#[Value.int .i64 0, Value.int .i64 0, Value.int .i64 0, Value.int .i64 0, Value.int .i64 0, Value.int .i64 0, Value.int .i64 0, Value.int .i64 0, Value.int .i64 0, Value.int .i64 0, Value.int .i64 0, Value.int .i64 0, Value.int .i64 0, Value.int .i64 0, Value.int .i64 0, Value.int .i64 0, Value.int .i64 0, Value.int .i64 0, Value.int .i64 0, Value.int .i64 0, Value.int .i64 0, Value.int .i64 0, Value.int .i64 0, Value.int .i64 0, Value.int .i64 0, Value.int .i64 0, Value.int .i64 0, Value.int .i64 0, Value.int .i64 0, Value.int .i64 0, Value.int .i64 0, Value.int .i64 0])) ⟨hHeld, fA, fB⟩ ?_
            clear hHeld fA fB
            rintro W ⟨hHeld, fA, fB⟩
            refine wpAnyH_ready (rs := [6]) (by kernel_rfl) (by simp) ?_
            refine AllReadyH.cons (o := ⟨_, _, _, _, _, _⟩) rfl (fun K hK => ?_) AllReadyH.nil
            rw [if_pos (by rfl)]
            refine wp_store_mid 44 _ _ rfl ga 0 (ints a) rfl rfl (by rw [ints_size, hla]; exact blk_there fA) (by rw [ints_size, hla]; kernel_rfl) (ints_one _) ?_
            have k1 := keep_store (new := ints a) hHeld fA hnga (by have := hHeld.2.size; omega) (by rw [ints_size, hla]; rfl)
            have k2 := blk_grown fB (setCells_whole (new := ints a) fA (by rw [ints_size, hla]; rfl)).2 (by simp; omega)
            refine hK.out _ _ k1.1 (fun _ => ?_)
            clear hK K
            try simp only [Act.put, List.setIfInBounds_toArray, List.set_cons_zero, List.set_cons_succ]
            replace hHeld := k1.1
            replace fA := k1.2
            replace fB := k2
            clear k1 k2
            refine keep_any (fun W => Keep w ([(w.heap.size, 43, ints a0), (w.heap.size + 1, 43, ints a1)]) W ∧ Blk W ga 44 (ints a) ∧ Blk W gb 44 (#[Value.int .i64 0, Value.int .i64 0, Value.int .i64 0, Value.int .i64 0, Value.int .i64 0, Value.int .i64 0, Value.int .i64 0, Value.int .i64 0, Value.int .i64 0, Value.int .i64 0, Value.int .i64 0, Value.int .i64 0, Value.int .i64 0, Value.int .i64 0, Value.int .i64 0, Value.int .i64 0, Value.int .i64 0, Value.int .i64 0, Value.int .i64 0, Value.int .i64 0, Value.int .i64 0, Value.int .i64 0, Value.int .i64 0, Value.int .i64 0, Value.int .i64 0, Value.int .i64 0, Value.int .i64 0, Value.int .i64 0, Value.int .i64 0, Value.int .i64 0, Value.int .i64 0, Value.int .i64 0])) ⟨hHeld, fA, fB⟩ ?_
            clear hHeld fA fB
            rintro W ⟨hHeld, fA, fB⟩
            refine wpAnyH_ready (rs := [7]) (by kernel_rfl) (by simp) ?_
            refine AllReadyH.cons (o := ⟨_, _, _, _, _, _⟩) rfl (fun K hK => ?_) AllReadyH.nil
            rw [if_pos (by rfl)]
            refine wp_store_mid 44 _ _ rfl gb 0 (ints b) rfl rfl (by rw [ints_size, hlb]; exact blk_there fB) (by rw [ints_size, hlb]; kernel_rfl) (ints_one _) ?_
            have k1 := keep_store (new := ints b) hHeld fB hngb (by have := hHeld.2.size; omega) (by rw [ints_size, hlb]; rfl)
            have k2 := blk_grown fA (setCells_whole (new := ints b) fB (by rw [ints_size, hlb]; rfl)).2 (by simp; omega)
            refine hK.out _ _ k1.1 (fun _ => ?_)
            clear hK K
            try simp only [Act.put, List.setIfInBounds_toArray, List.set_cons_zero, List.set_cons_succ]
            replace hHeld := k1.1
            replace fB := k1.2
            replace fA := k2
            clear k1 k2
            refine keep_any (fun W => Keep w ([(w.heap.size, 43, ints a0), (w.heap.size + 1, 43, ints a1)]) W ∧ Blk W ga 44 (ints a) ∧ Blk W gb 44 (ints b)) ⟨hHeld, fA, fB⟩ ?_
            clear hHeld fA fB
            rintro W ⟨hHeld, fA, fB⟩
            refine wpAnyH_done (by kernel_rfl) ?_ _
            go_wp2_with fail
            go_meet
            exact ⟨ga, gb, rfl, rfl, keep_cons (keep_cons hHeld fB) fA⟩
      focus
        go_simp
        have hn := keep_lt hHeld
        have hsz := hHeld.2.size
        have nf := blk_new W 44 (#[Value.int .i64 0, Value.int .i64 0, Value.int .i64 0, Value.int .i64 0, Value.int .i64 0, Value.int .i64 0, Value.int .i64 0, Value.int .i64 0, Value.int .i64 0, Value.int .i64 0, Value.int .i64 0, Value.int .i64 0, Value.int .i64 0, Value.int .i64 0, Value.int .i64 0, Value.int .i64 0, Value.int .i64 0, Value.int .i64 0, Value.int .i64 0, Value.int .i64 0, Value.int .i64 0, Value.int .i64 0, Value.int .i64 0, Value.int .i64 0, Value.int .i64 0, Value.int .i64 0, Value.int .i64 0, Value.int .i64 0, Value.int .i64 0, Value.int .i64 0, Value.int .i64 0, Value.int .i64 0])
        replace hHeld := keep_alloc hHeld (.cells (#[Value.int .i64 0, Value.int .i64 0, Value.int .i64 0, Value.int .i64 0, Value.int .i64 0, Value.int .i64 0, Value.int .i64 0, Value.int .i64 0, Value.int .i64 0, Value.int .i64 0, Value.int .i64 0, Value.int .i64 0, Value.int .i64 0, Value.int .i64 0, Value.int .i64 0, Value.int .i64 0, Value.int .i64 0, Value.int .i64 0, Value.int .i64 0, Value.int .i64 0, Value.int .i64 0, Value.int .i64 0, Value.int .i64 0, Value.int .i64 0, Value.int .i64 0, Value.int .i64 0, Value.int .i64 0, Value.int .i64 0, Value.int .i64 0, Value.int .i64 0, Value.int .i64 0, Value.int .i64 0]) 44)
        refine hK.out _ _ hHeld (fun _ => ?_)
        clear hK K
        try simp only [Act.put, List.setIfInBounds_toArray, List.set_cons_zero, List.set_cons_succ]
        generalize W.heap.size = gb at *
        have fB := nf
        have hngb := hn
        have hsgb := hsz
        clear nf hn hsz
        refine keep_any (fun W => Keep w ([(w.heap.size, 43, ints a0), (w.heap.size + 1, 43, ints a1)]) W ∧ Blk W gb 44 (#[Value.int .i64 0, Value.int .i64 0, Value.int .i64 0, Value.int .i64 0, Value.int .i64 0, Value.int .i64 0, Value.int .i64 0, Value.int .i64 0, Value.int .i64 0, Value.int .i64 0, Value.int .i64 0, Value.int .i64 0, Value.int .i64 0, Value.int .i64 0, Value.int .i64 0, Value.int .i64 0, Value.int .i64 0, Value.int .i64 0, Value.int .i64 0, Value.int .i64 0, Value.int .i64 0, Value.int .i64 0, Value.int .i64 0, Value.int .i64 0, Value.int .i64 0, Value.int .i64 0, Value.int .i64 0, Value.int .i64 0, Value.int .i64 0, Value.int .i64 0, Value.int .i64 0, Value.int .i64 0])) ⟨hHeld, fB⟩ ?_
        clear hHeld fB
        rintro W ⟨hHeld, fB⟩
        refine wpAnyH_ready (rs := [3, 4]) (by kernel_rfl) (by simp) ?_
        refine AllReadyH.cons (o := ⟨_, _, _, _, _, _⟩) rfl (fun K hK => ?_) (AllReadyH.cons (o := ⟨_, _, _, _, _, _⟩) rfl (fun K hK => ?_) (AllReadyH.nil))
        focus
          go_simp
          refine (h1 _).mono ?_
          rintro e W2 ⟨rfl, hC⟩
          go_simp
          replace hHeld := keep_below hHeld hC
          replace fB := blk_below fB hC (blk_lt fB)
          refine hK.out _ _ hHeld (fun _ => ?_)
          clear hK K hC
          try simp only [Act.put, List.setIfInBounds_toArray, List.set_cons_zero, List.set_cons_succ]
          refine keep_any (fun W => Keep w ([(w.heap.size, 43, ints a0), (w.heap.size + 1, 43, ints a1)]) W ∧ Blk W gb 44 (#[Value.int .i64 0, Value.int .i64 0, Value.int .i64 0, Value.int .i64 0, Value.int .i64 0, Value.int .i64 0, Value.int .i64 0, Value.int .i64 0, Value.int .i64 0, Value.int .i64 0, Value.int .i64 0, Value.int .i64 0, Value.int .i64 0, Value.int .i64 0, Value.int .i64 0, Value.int .i64 0, Value.int .i64 0, Value.int .i64 0, Value.int .i64 0, Value.int .i64 0, Value.int .i64 0, Value.int .i64 0, Value.int .i64 0, Value.int .i64 0, Value.int .i64 0, Value.int .i64 0, Value.int .i64 0, Value.int .i64 0, Value.int .i64 0, Value.int .i64 0, Value.int .i64 0, Value.int .i64 0])) ⟨hHeld, fB⟩ ?_
          clear hHeld fB
          rintro W ⟨hHeld, fB⟩
          refine wpAnyH_ready (rs := [4]) (by kernel_rfl) (by simp) ?_
          refine AllReadyH.cons (o := ⟨_, _, _, _, _, _⟩) rfl (fun K hK => ?_) (AllReadyH.nil)
          focus
            go_simp
            have hn := keep_lt hHeld
            have hsz := hHeld.2.size
            have nf := blk_new W 44 (#[Value.int .i64 0, Value.int .i64 0, Value.int .i64 0, Value.int .i64 0, Value.int .i64 0, Value.int .i64 0, Value.int .i64 0, Value.int .i64 0, Value.int .i64 0, Value.int .i64 0, Value.int .i64 0, Value.int .i64 0, Value.int .i64 0, Value.int .i64 0, Value.int .i64 0, Value.int .i64 0, Value.int .i64 0, Value.int .i64 0, Value.int .i64 0, Value.int .i64 0, Value.int .i64 0, Value.int .i64 0, Value.int .i64 0, Value.int .i64 0, Value.int .i64 0, Value.int .i64 0, Value.int .i64 0, Value.int .i64 0, Value.int .i64 0, Value.int .i64 0, Value.int .i64 0, Value.int .i64 0])
            have hne := blk_lt fB
            replace fB := blk_alloc fB (.cells (#[Value.int .i64 0, Value.int .i64 0, Value.int .i64 0, Value.int .i64 0, Value.int .i64 0, Value.int .i64 0, Value.int .i64 0, Value.int .i64 0, Value.int .i64 0, Value.int .i64 0, Value.int .i64 0, Value.int .i64 0, Value.int .i64 0, Value.int .i64 0, Value.int .i64 0, Value.int .i64 0, Value.int .i64 0, Value.int .i64 0, Value.int .i64 0, Value.int .i64 0, Value.int .i64 0, Value.int .i64 0, Value.int .i64 0, Value.int .i64 0, Value.int .i64 0, Value.int .i64 0, Value.int .i64 0, Value.int .i64 0, Value.int .i64 0, Value.int .i64 0, Value.int .i64 0, Value.int .i64 0]) 44)
            replace hHeld := keep_alloc hHeld (.cells (#[Value.int .i64 0, Value.int .i64 0, Value.int .i64 0, Value.int .i64 0, Value.int .i64 0, Value.int .i64 0, Value.int .i64 0, Value.int .i64 0, Value.int .i64 0, Value.int .i64 0, Value.int .i64 0, Value.int .i64 0, Value.int .i64 0, Value.int .i64 0, Value.int .i64 0, Value.int .i64 0, Value.int .i64 0, Value.int .i64 0, Value.int .i64 0, Value.int .i64 0, Value.int .i64 0, Value.int .i64 0, Value.int .i64 0, Value.int .i64 0, Value.int .i64 0, Value.int .i64 0, Value.int .i64 0, Value.int .i64 0, Value.int .i64 0, Value.int .i64 0, Value.int .i64 0, Value.int .i64 0]) 44)
            refine hK.out _ _ hHeld (fun _ => ?_)
            clear hK K
            try simp only [Act.put, List.setIfInBounds_toArray, List.set_cons_zero, List.set_cons_succ]
            generalize W.heap.size = ga at *
            have fA := nf
            have hnga := hn
            have hsga := hsz
            clear nf hn hsz
            refine keep_any (fun W => Keep w ([(w.heap.size, 43, ints a0), (w.heap.size + 1, 43, ints a1)]) W ∧ Blk W ga 44 (#[Value.int .i64 0, Value.int .i64 0, Value.int .i64 0, Value.int .i64 0, Value.int .i64 0, Value.int .i64 0, Value.int .i64 0, Value.int .i64 0, Value.int .i64 0, Value.int .i64 0, Value.int .i64 0, Value.int .i64 0, Value.int .i64 0, Value.int .i64 0, Value.int .i64 0, Value.int .i64 0, Value.int .i64 0, Value.int .i64 0, Value.int .i64 0, Value.int .i64 0, Value.int .i64 0, Value.int .i64 0, Value.int .i64 0, Value.int .i64 0, Value.int .i64 0, Value.int .i64 0, Value.int .i64 0, Value.int .i64 0, Value.int .i64 0, Value.int .i64 0, Value.int .i64 0, Value.int .i64 0]) ∧ Blk W gb 44 (#[Value.int .i64 0, Value.int .i64 0, Value.int .i64 0, Value.int .i64 0, Value.int .i64 0, Value.int .i64 0, Value.int .i64 0, Value.int .i64 0, Value.int .i64 0, Value.int .i64 0, Value.int .i64 0, Value.int .i64 0, Value.int .i64 0, Value.int .i64 0, Value.int .i64 0, Value.int .i64 0, Value.int .i64 0, Value.int .i64 0, Value.int .i64 0, Value.int .i64 0, Value.int .i64 0, Value.int .i64 0, Value.int .i64 0, Value.int .i64 0, Value.int .i64 0, Value.int .i64 0, Value.int .i64 0, Value.int .i64 0, Value.int .i64 0, Value.int .i64 0, Value.int .i64 0, Value.int .i64 0])) ⟨hHeld, fA, fB⟩ ?_
            clear hHeld fA fB
            rintro W ⟨hHeld, fA, fB⟩
            refine wpAnyH_ready (rs := [6]) (by kernel_rfl) (by simp) ?_
            refine AllReadyH.cons (o := ⟨_, _, _, _, _, _⟩) rfl (fun K hK => ?_) AllReadyH.nil
            rw [if_pos (by rfl)]
            refine wp_store_mid 44 _ _ rfl ga 0 (ints a) rfl rfl (by rw [ints_size, hla]; exact blk_there fA) (by rw [ints_size, hla]; kernel_rfl) (ints_one _) ?_
            have k1 := keep_store (new := ints a) hHeld fA hnga (by have := hHeld.2.size; omega) (by rw [ints_size, hla]; rfl)
            have k2 := blk_grown fB (setCells_whole (new := ints a) fA (by rw [ints_size, hla]; rfl)).2 (by simp; omega)
            refine hK.out _ _ k1.1 (fun _ => ?_)
            clear hK K
            try simp only [Act.put, List.setIfInBounds_toArray, List.set_cons_zero, List.set_cons_succ]
            replace hHeld := k1.1
            replace fA := k1.2
            replace fB := k2
            clear k1 k2
            refine keep_any (fun W => Keep w ([(w.heap.size, 43, ints a0), (w.heap.size + 1, 43, ints a1)]) W ∧ Blk W ga 44 (ints a) ∧ Blk W gb 44 (#[Value.int .i64 0, Value.int .i64 0, Value.int .i64 0, Value.int .i64 0, Value.int .i64 0, Value.int .i64 0, Value.int .i64 0, Value.int .i64 0, Value.int .i64 0, Value.int .i64 0, Value.int .i64 0, Value.int .i64 0, Value.int .i64 0, Value.int .i64 0, Value.int .i64 0, Value.int .i64 0, Value.int .i64 0, Value.int .i64 0, Value.int .i64 0, Value.int .i64 0, Value.int .i64 0, Value.int .i64 0, Value.int .i64 0, Value.int .i64 0, Value.int .i64 0, Value.int .i64 0, Value.int .i64 0, Value.int .i64 0, Value.int .i64 0, Value.int .i64 0, Value.int .i64 0, Value.int .i64 0])) ⟨hHeld, fA, fB⟩ ?_
            clear hHeld fA fB
            rintro W ⟨hHeld, fA, fB⟩
            refine wpAnyH_ready (rs := [7]) (by kernel_rfl) (by simp) ?_
            refine AllReadyH.cons (o := ⟨_, _, _, _, _, _⟩) rfl (fun K hK => ?_) AllReadyH.nil
            rw [if_pos (by rfl)]
            refine wp_store_mid 44 _ _ rfl gb 0 (ints b) rfl rfl (by rw [ints_size, hlb]; exact blk_there fB) (by rw [ints_size, hlb]; kernel_rfl) (ints_one _) ?_
            have k1 := keep_store (new := ints b) hHeld fB hngb (by have := hHeld.2.size; omega) (by rw [ints_size, hlb]; rfl)
            have k2 := blk_grown fA (setCells_whole (new := ints b) fB (by rw [ints_size, hlb]; rfl)).2 (by simp; omega)
            refine hK.out _ _ k1.1 (fun _ => ?_)
            clear hK K
            try simp only [Act.put, List.setIfInBounds_toArray, List.set_cons_zero, List.set_cons_succ]
            replace hHeld := k1.1
            replace fB := k1.2
            replace fA := k2
            clear k1 k2
            refine keep_any (fun W => Keep w ([(w.heap.size, 43, ints a0), (w.heap.size + 1, 43, ints a1)]) W ∧ Blk W ga 44 (ints a) ∧ Blk W gb 44 (ints b)) ⟨hHeld, fA, fB⟩ ?_
            clear hHeld fA fB
            rintro W ⟨hHeld, fA, fB⟩
            refine wpAnyH_done (by kernel_rfl) ?_ _
            go_wp2_with fail
            go_meet
            exact ⟨ga, gb, rfl, rfl, keep_cons (keep_cons hHeld fB) fA⟩
        focus
          go_simp
          have hn := keep_lt hHeld
          have hsz := hHeld.2.size
          have nf := blk_new W 44 (#[Value.int .i64 0, Value.int .i64 0, Value.int .i64 0, Value.int .i64 0, Value.int .i64 0, Value.int .i64 0, Value.int .i64 0, Value.int .i64 0, Value.int .i64 0, Value.int .i64 0, Value.int .i64 0, Value.int .i64 0, Value.int .i64 0, Value.int .i64 0, Value.int .i64 0, Value.int .i64 0, Value.int .i64 0, Value.int .i64 0, Value.int .i64 0, Value.int .i64 0, Value.int .i64 0, Value.int .i64 0, Value.int .i64 0, Value.int .i64 0, Value.int .i64 0, Value.int .i64 0, Value.int .i64 0, Value.int .i64 0, Value.int .i64 0, Value.int .i64 0, Value.int .i64 0, Value.int .i64 0])
          have hne := blk_lt fB
          replace fB := blk_alloc fB (.cells (#[Value.int .i64 0, Value.int .i64 0, Value.int .i64 0, Value.int .i64 0, Value.int .i64 0, Value.int .i64 0, Value.int .i64 0, Value.int .i64 0, Value.int .i64 0, Value.int .i64 0, Value.int .i64 0, Value.int .i64 0, Value.int .i64 0, Value.int .i64 0, Value.int .i64 0, Value.int .i64 0, Value.int .i64 0, Value.int .i64 0, Value.int .i64 0, Value.int .i64 0, Value.int .i64 0, Value.int .i64 0, Value.int .i64 0, Value.int .i64 0, Value.int .i64 0, Value.int .i64 0, Value.int .i64 0, Value.int .i64 0, Value.int .i64 0, Value.int .i64 0, Value.int .i64 0, Value.int .i64 0]) 44)
          replace hHeld := keep_alloc hHeld (.cells (#[Value.int .i64 0, Value.int .i64 0, Value.int .i64 0, Value.int .i64 0, Value.int .i64 0, Value.int .i64 0, Value.int .i64 0, Value.int .i64 0, Value.int .i64 0, Value.int .i64 0, Value.int .i64 0, Value.int .i64 0, Value.int .i64 0, Value.int .i64 0, Value.int .i64 0, Value.int .i64 0, Value.int .i64 0, Value.int .i64 0, Value.int .i64 0, Value.int .i64 0, Value.int .i64 0, Value.int .i64 0, Value.int .i64 0, Value.int .i64 0, Value.int .i64 0, Value.int .i64 0, Value.int .i64 0, Value.int .i64 0, Value.int .i64 0, Value.int .i64 0, Value.int .i64 0, Value.int .i64 0]) 44)
          refine hK.out _ _ hHeld (fun _ => ?_)
          clear hK K
          try simp only [Act.put, List.setIfInBounds_toArray, List.set_cons_zero, List.set_cons_succ]
          generalize W.heap.size = ga at *
          have fA := nf
          have hnga := hn
          have hsga := hsz
          clear nf hn hsz
          refine keep_any (fun W => Keep w ([(w.heap.size, 43, ints a0), (w.heap.size + 1, 43, ints a1)]) W ∧ Blk W ga 44 (#[Value.int .i64 0, Value.int .i64 0, Value.int .i64 0, Value.int .i64 0, Value.int .i64 0, Value.int .i64 0, Value.int .i64 0, Value.int .i64 0, Value.int .i64 0, Value.int .i64 0, Value.int .i64 0, Value.int .i64 0, Value.int .i64 0, Value.int .i64 0, Value.int .i64 0, Value.int .i64 0, Value.int .i64 0, Value.int .i64 0, Value.int .i64 0, Value.int .i64 0, Value.int .i64 0, Value.int .i64 0, Value.int .i64 0, Value.int .i64 0, Value.int .i64 0, Value.int .i64 0, Value.int .i64 0, Value.int .i64 0, Value.int .i64 0, Value.int .i64 0, Value.int .i64 0, Value.int .i64 0]) ∧ Blk W gb 44 (#[Value.int .i64 0, Value.int .i64 0, Value.int .i64 0, Value.int .i64 0, Value.int .i64 0, Value.int .i64 0, Value.int .i64 0, Value.int .i64 0, Value.int .i64 0, Value.int .i64 0, Value.int .i64 0, Value.int .i64 0, Value.int .i64 0, Value.int .i64 0, Value.int .i64 0, Value.int .i64 0, Value.int .i64 0, Value.int .i64 0, Value.int .i64 0, Value.int .i64 0, Value.int .i64 0, Value.int .i64 0, Value.int .i64 0, Value.int .i64 0, Value.int .i64 0, Value.int .i64 0, Value.int .i64 0, Value.int .i64 0, Value.int .i64 0, Value.int .i64 0, Value.int .i64 0, Value.int .i64 0])) ⟨hHeld, fA, fB⟩ ?_
          clear hHeld fA fB
          rintro W ⟨hHeld, fA, fB⟩
          refine wpAnyH_ready (rs := [3]) (by kernel_rfl) (by simp) ?_
          refine AllReadyH.cons (o := ⟨_, _, _, _, _, _⟩) rfl (fun K hK => ?_) (AllReadyH.nil)
          focus
            go_simp
            refine (h1 _).mono ?_
            rintro e W2 ⟨rfl, hC⟩
            go_simp
            replace hHeld := keep_below hHeld hC
            replace fA := blk_below fA hC (blk_lt fA)
            replace fB := blk_below fB hC (blk_lt fB)
            refine hK.out _ _ hHeld (fun _ => ?_)
            clear hK K hC
            try simp only [Act.put, List.setIfInBounds_toArray, List.set_cons_zero, List.set_cons_succ]
            refine keep_any (fun W => Keep w ([(w.heap.size, 43, ints a0), (w.heap.size + 1, 43, ints a1)]) W ∧ Blk W ga 44 (#[Value.int .i64 0, Value.int .i64 0, Value.int .i64 0, Value.int .i64 0, Value.int .i64 0, Value.int .i64 0, Value.int .i64 0, Value.int .i64 0, Value.int .i64 0, Value.int .i64 0, Value.int .i64 0, Value.int .i64 0, Value.int .i64 0, Value.int .i64 0, Value.int .i64 0, Value.int .i64 0, Value.int .i64 0, Value.int .i64 0, Value.int .i64 0, Value.int .i64 0, Value.int .i64 0, Value.int .i64 0, Value.int .i64 0, Value.int .i64 0, Value.int .i64 0, Value.int .i64 0, Value.int .i64 0, Value.int .i64 0, Value.int .i64 0, Value.int .i64 0, Value.int .i64 0, Value.int .i64 0]) ∧ Blk W gb 44 (#[Value.int .i64 0, Value.int .i64 0, Value.int .i64 0, Value.int .i64 0, Value.int .i64 0, Value.int .i64 0, Value.int .i64 0, Value.int .i64 0, Value.int .i64 0, Value.int .i64 0, Value.int .i64 0, Value.int .i64 0, Value.int .i64 0, Value.int .i64 0, Value.int .i64 0, Value.int .i64 0, Value.int .i64 0, Value.int .i64 0, Value.int .i64 0, Value.int .i64 0, Value.int .i64 0, Value.int .i64 0, Value.int .i64 0, Value.int .i64 0, Value.int .i64 0, Value.int .i64 0, Value.int .i64 0, Value.int .i64 0, Value.int .i64 0, Value.int .i64 0, Value.int .i64 0, Value.int .i64 0])) ⟨hHeld, fA, fB⟩ ?_
            clear hHeld fA fB
            rintro W ⟨hHeld, fA, fB⟩
            refine wpAnyH_ready (rs := [6]) (by kernel_rfl) (by simp) ?_
            refine AllReadyH.cons (o := ⟨_, _, _, _, _, _⟩) rfl (fun K hK => ?_) AllReadyH.nil
            rw [if_pos (by rfl)]
            refine wp_store_mid 44 _ _ rfl ga 0 (ints a) rfl rfl (by rw [ints_size, hla]; exact blk_there fA) (by rw [ints_size, hla]; kernel_rfl) (ints_one _) ?_
            have k1 := keep_store (new := ints a) hHeld fA hnga (by have := hHeld.2.size; omega) (by rw [ints_size, hla]; rfl)
            have k2 := blk_grown fB (setCells_whole (new := ints a) fA (by rw [ints_size, hla]; rfl)).2 (by simp; omega)
            refine hK.out _ _ k1.1 (fun _ => ?_)
            clear hK K
            try simp only [Act.put, List.setIfInBounds_toArray, List.set_cons_zero, List.set_cons_succ]
            replace hHeld := k1.1
            replace fA := k1.2
            replace fB := k2
            clear k1 k2
            refine keep_any (fun W => Keep w ([(w.heap.size, 43, ints a0), (w.heap.size + 1, 43, ints a1)]) W ∧ Blk W ga 44 (ints a) ∧ Blk W gb 44 (#[Value.int .i64 0, Value.int .i64 0, Value.int .i64 0, Value.int .i64 0, Value.int .i64 0, Value.int .i64 0, Value.int .i64 0, Value.int .i64 0, Value.int .i64 0, Value.int .i64 0, Value.int .i64 0, Value.int .i64 0, Value.int .i64 0, Value.int .i64 0, Value.int .i64 0, Value.int .i64 0, Value.int .i64 0, Value.int .i64 0, Value.int .i64 0, Value.int .i64 0, Value.int .i64 0, Value.int .i64 0, Value.int .i64 0, Value.int .i64 0, Value.int .i64 0, Value.int .i64 0, Value.int .i64 0, Value.int .i64 0, Value.int .i64 0, Value.int .i64 0, Value.int .i64 0, Value.int .i64 0])) ⟨hHeld, fA, fB⟩ ?_
            clear hHeld fA fB
            rintro W ⟨hHeld, fA, fB⟩
            refine wpAnyH_ready (rs := [7]) (by kernel_rfl) (by simp) ?_
            refine AllReadyH.cons (o := ⟨_, _, _, _, _, _⟩) rfl (fun K hK => ?_) AllReadyH.nil
            rw [if_pos (by rfl)]
            refine wp_store_mid 44 _ _ rfl gb 0 (ints b) rfl rfl (by rw [ints_size, hlb]; exact blk_there fB) (by rw [ints_size, hlb]; kernel_rfl) (ints_one _) ?_
            have k1 := keep_store (new := ints b) hHeld fB hngb (by have := hHeld.2.size; omega) (by rw [ints_size, hlb]; rfl)
            have k2 := blk_grown fA (setCells_whole (new := ints b) fB (by rw [ints_size, hlb]; rfl)).2 (by simp; omega)
            refine hK.out _ _ k1.1 (fun _ => ?_)
            clear hK K
            try simp only [Act.put, List.setIfInBounds_toArray, List.set_cons_zero, List.set_cons_succ]
            replace hHeld := k1.1
            replace fB := k1.2
            replace fA := k2
            clear k1 k2
            refine keep_any (fun W => Keep w ([(w.heap.size, 43, ints a0), (w.heap.size + 1, 43, ints a1)]) W ∧ Blk W ga 44 (ints a) ∧ Blk W gb 44 (ints b)) ⟨hHeld, fA, fB⟩ ?_
            clear hHeld fA fB
            rintro W ⟨hHeld, fA, fB⟩
            refine wpAnyH_done (by kernel_rfl) ?_ _
            go_wp2_with fail
            go_meet
            exact ⟨ga, gb, rfl, rfl, keep_cons (keep_cons hHeld fB) fA⟩
    focus
      go_simp
      have hn := keep_lt hHeld
      have hsz := hHeld.2.size
      have nf := blk_new W 44 (#[Value.int .i64 0, Value.int .i64 0, Value.int .i64 0, Value.int .i64 0, Value.int .i64 0, Value.int .i64 0, Value.int .i64 0, Value.int .i64 0, Value.int .i64 0, Value.int .i64 0, Value.int .i64 0, Value.int .i64 0, Value.int .i64 0, Value.int .i64 0, Value.int .i64 0, Value.int .i64 0, Value.int .i64 0, Value.int .i64 0, Value.int .i64 0, Value.int .i64 0, Value.int .i64 0, Value.int .i64 0, Value.int .i64 0, Value.int .i64 0, Value.int .i64 0, Value.int .i64 0, Value.int .i64 0, Value.int .i64 0, Value.int .i64 0, Value.int .i64 0, Value.int .i64 0, Value.int .i64 0])
      replace hHeld := keep_alloc hHeld (.cells (#[Value.int .i64 0, Value.int .i64 0, Value.int .i64 0, Value.int .i64 0, Value.int .i64 0, Value.int .i64 0, Value.int .i64 0, Value.int .i64 0, Value.int .i64 0, Value.int .i64 0, Value.int .i64 0, Value.int .i64 0, Value.int .i64 0, Value.int .i64 0, Value.int .i64 0, Value.int .i64 0, Value.int .i64 0, Value.int .i64 0, Value.int .i64 0, Value.int .i64 0, Value.int .i64 0, Value.int .i64 0, Value.int .i64 0, Value.int .i64 0, Value.int .i64 0, Value.int .i64 0, Value.int .i64 0, Value.int .i64 0, Value.int .i64 0, Value.int .i64 0, Value.int .i64 0, Value.int .i64 0]) 44)
      refine hK.out _ _ hHeld (fun _ => ?_)
      clear hK K
      try simp only [Act.put, List.setIfInBounds_toArray, List.set_cons_zero, List.set_cons_succ]
      generalize W.heap.size = ga at *
      have fA := nf
      have hnga := hn
      have hsga := hsz
      clear nf hn hsz
      refine keep_any (fun W => Keep w ([(w.heap.size, 43, ints a0), (w.heap.size + 1, 43, ints a1)]) W ∧ Blk W ga 44 (#[Value.int .i64 0, Value.int .i64 0, Value.int .i64 0, Value.int .i64 0, Value.int .i64 0, Value.int .i64 0, Value.int .i64 0, Value.int .i64 0, Value.int .i64 0, Value.int .i64 0, Value.int .i64 0, Value.int .i64 0, Value.int .i64 0, Value.int .i64 0, Value.int .i64 0, Value.int .i64 0, Value.int .i64 0, Value.int .i64 0, Value.int .i64 0, Value.int .i64 0, Value.int .i64 0, Value.int .i64 0, Value.int .i64 0, Value.int .i64 0, Value.int .i64 0, Value.int .i64 0, Value.int .i64 0, Value.int .i64 0, Value.int .i64 0, Value.int .i64 0, Value.int .i64 0, Value.int .i64 0])) ⟨hHeld, fA⟩ ?_
      clear hHeld fA
      rintro W ⟨hHeld, fA⟩
      refine wpAnyH_ready (rs := [1, 5]) (by kernel_rfl) (by simp) ?_
      refine AllReadyH.cons (o := ⟨_, _, _, _, _, _⟩) rfl (fun K hK => ?_) (AllReadyH.cons (o := ⟨_, _, _, _, _, _⟩) rfl (fun K hK => ?_) (AllReadyH.nil))
      focus
        go_simp
        refine (h0 _).mono ?_
        rintro e W2 ⟨rfl, hC⟩
        go_simp
        replace hHeld := keep_below hHeld hC
        replace fA := blk_below fA hC (blk_lt fA)
        refine hK.out _ _ hHeld (fun _ => ?_)
        clear hK K hC
        try simp only [Act.put, List.setIfInBounds_toArray, List.set_cons_zero, List.set_cons_succ]
        refine keep_any (fun W => Keep w ([(w.heap.size, 43, ints a0), (w.heap.size + 1, 43, ints a1)]) W ∧ Blk W ga 44 (#[Value.int .i64 0, Value.int .i64 0, Value.int .i64 0, Value.int .i64 0, Value.int .i64 0, Value.int .i64 0, Value.int .i64 0, Value.int .i64 0, Value.int .i64 0, Value.int .i64 0, Value.int .i64 0, Value.int .i64 0, Value.int .i64 0, Value.int .i64 0, Value.int .i64 0, Value.int .i64 0, Value.int .i64 0, Value.int .i64 0, Value.int .i64 0, Value.int .i64 0, Value.int .i64 0, Value.int .i64 0, Value.int .i64 0, Value.int .i64 0, Value.int .i64 0, Value.int .i64 0, Value.int .i64 0, Value.int .i64 0, Value.int .i64 0, Value.int .i64 0, Value.int .i64 0, Value.int .i64 0])) ⟨hHeld, fA⟩ ?_
        clear hHeld fA
        rintro W ⟨hHeld, fA⟩
        refine wpAnyH_ready (rs := [3, 5]) (by kernel_rfl) (by simp) ?_
        refine AllReadyH.cons (o := ⟨_, _, _, _, _, _⟩) rfl (fun K hK => ?_) (AllReadyH.cons (o := ⟨_, _, _, _, _, _⟩) rfl (fun K hK => ?_) (AllReadyH.nil))
        focus
          go_simp
          refine (h1 _).mono ?_
          rintro e W2 ⟨rfl, hC⟩
          go_simp
          replace hHeld := keep_below hHeld hC
          replace fA := blk_below fA hC (blk_lt fA)
          refine hK.out _ _ hHeld (fun _ => ?_)
          clear hK K hC
          try simp only [Act.put, List.setIfInBounds_toArray, List.set_cons_zero, List.set_cons_succ]
          refine keep_any (fun W => Keep w ([(w.heap.size, 43, ints a0), (w.heap.size + 1, 43, ints a1)]) W ∧ Blk W ga 44 (#[Value.int .i64 0, Value.int .i64 0, Value.int .i64 0, Value.int .i64 0, Value.int .i64 0, Value.int .i64 0, Value.int .i64 0, Value.int .i64 0, Value.int .i64 0, Value.int .i64 0, Value.int .i64 0, Value.int .i64 0, Value.int .i64 0, Value.int .i64 0, Value.int .i64 0, Value.int .i64 0, Value.int .i64 0, Value.int .i64 0, Value.int .i64 0, Value.int .i64 0, Value.int .i64 0, Value.int .i64 0, Value.int .i64 0, Value.int .i64 0, Value.int .i64 0, Value.int .i64 0, Value.int .i64 0, Value.int .i64 0, Value.int .i64 0, Value.int .i64 0, Value.int .i64 0, Value.int .i64 0])) ⟨hHeld, fA⟩ ?_
          clear hHeld fA
          rintro W ⟨hHeld, fA⟩
          refine wpAnyH_ready (rs := [5]) (by kernel_rfl) (by simp) ?_
          refine AllReadyH.cons (o := ⟨_, _, _, _, _, _⟩) rfl (fun K hK => ?_) (AllReadyH.nil)
          focus
            go_simp
            have hn := keep_lt hHeld
            have hsz := hHeld.2.size
            have nf := blk_new W 44 (#[Value.int .i64 0, Value.int .i64 0, Value.int .i64 0, Value.int .i64 0, Value.int .i64 0, Value.int .i64 0, Value.int .i64 0, Value.int .i64 0, Value.int .i64 0, Value.int .i64 0, Value.int .i64 0, Value.int .i64 0, Value.int .i64 0, Value.int .i64 0, Value.int .i64 0, Value.int .i64 0, Value.int .i64 0, Value.int .i64 0, Value.int .i64 0, Value.int .i64 0, Value.int .i64 0, Value.int .i64 0, Value.int .i64 0, Value.int .i64 0, Value.int .i64 0, Value.int .i64 0, Value.int .i64 0, Value.int .i64 0, Value.int .i64 0, Value.int .i64 0, Value.int .i64 0, Value.int .i64 0])
            have hne := blk_lt fA
            replace fA := blk_alloc fA (.cells (#[Value.int .i64 0, Value.int .i64 0, Value.int .i64 0, Value.int .i64 0, Value.int .i64 0, Value.int .i64 0, Value.int .i64 0, Value.int .i64 0, Value.int .i64 0, Value.int .i64 0, Value.int .i64 0, Value.int .i64 0, Value.int .i64 0, Value.int .i64 0, Value.int .i64 0, Value.int .i64 0, Value.int .i64 0, Value.int .i64 0, Value.int .i64 0, Value.int .i64 0, Value.int .i64 0, Value.int .i64 0, Value.int .i64 0, Value.int .i64 0, Value.int .i64 0, Value.int .i64 0, Value.int .i64 0, Value.int .i64 0, Value.int .i64 0, Value.int .i64 0, Value.int .i64 0, Value.int .i64 0]) 44)
            replace hHeld := keep_alloc hHeld (.cells (#[Value.int .i64 0, Value.int .i64 0, Value.int .i64 0, Value.int .i64 0, Value.int .i64 0, Value.int .i64 0, Value.int .i64 0, Value.int .i64 0, Value.int .i64 0, Value.int .i64 0, Value.int .i64 0, Value.int .i64 0, Value.int .i64 0, Value.int .i64 0, Value.int .i64 0, Value.int .i64 0, Value.int .i64 0, Value.int .i64 0, Value.int .i64 0, Value.int .i64 0, Value.int .i64 0, Value.int .i64 0, Value.int .i64 0, Value.int .i64 0, Value.int .i64 0, Value.int .i64 0, Value.int .i64 0, Value.int .i64 0, Value.int .i64 0, Value.int .i64 0, Value.int .i64 0, Value.int .i64 0]) 44)
            refine hK.out _ _ hHeld (fun _ => ?_)
            clear hK K
            try simp only [Act.put, List.setIfInBounds_toArray, List.set_cons_zero, List.set_cons_succ]
            generalize W.heap.size = gb at *
            have fB := nf
            have hngb := hn
            have hsgb := hsz
            clear nf hn hsz
            refine keep_any (fun W => Keep w ([(w.heap.size, 43, ints a0), (w.heap.size + 1, 43, ints a1)]) W ∧ Blk W ga 44 (#[Value.int .i64 0, Value.int .i64 0, Value.int .i64 0, Value.int .i64 0, Value.int .i64 0, Value.int .i64 0, Value.int .i64 0, Value.int .i64 0, Value.int .i64 0, Value.int .i64 0, Value.int .i64 0, Value.int .i64 0, Value.int .i64 0, Value.int .i64 0, Value.int .i64 0, Value.int .i64 0, Value.int .i64 0, Value.int .i64 0, Value.int .i64 0, Value.int .i64 0, Value.int .i64 0, Value.int .i64 0, Value.int .i64 0, Value.int .i64 0, Value.int .i64 0, Value.int .i64 0, Value.int .i64 0, Value.int .i64 0, Value.int .i64 0, Value.int .i64 0, Value.int .i64 0, Value.int .i64 0]) ∧ Blk W gb 44 (#[Value.int .i64 0, Value.int .i64 0, Value.int .i64 0, Value.int .i64 0, Value.int .i64 0, Value.int .i64 0, Value.int .i64 0, Value.int .i64 0, Value.int .i64 0, Value.int .i64 0, Value.int .i64 0, Value.int .i64 0, Value.int .i64 0, Value.int .i64 0, Value.int .i64 0, Value.int .i64 0, Value.int .i64 0, Value.int .i64 0, Value.int .i64 0, Value.int .i64 0, Value.int .i64 0, Value.int .i64 0, Value.int .i64 0, Value.int .i64 0, Value.int .i64 0, Value.int .i64 0, Value.int .i64 0, Value.int .i64 0, Value.int .i64 0, Value.int .i64 0, Value.int .i64 0, Value.int .i64 0])) ⟨hHeld, fA, fB⟩ ?_
            clear hHeld fA fB
            rintro W ⟨hHeld, fA, fB⟩
            refine wpAnyH_ready (rs := [6]) (by kernel_rfl) (by simp) ?_
            refine AllReadyH.cons (o := ⟨_, _, _, _, _, _⟩) rfl (fun K hK => ?_) AllReadyH.nil
            rw [if_pos (by rfl)]
            refine wp_store_mid 44 _ _ rfl ga 0 (ints a) rfl rfl (by rw [ints_size, hla]; exact blk_there fA) (by rw [ints_size, hla]; kernel_rfl) (ints_one _) ?_
            have k1 := keep_store (new := ints a) hHeld fA hnga (by have := hHeld.2.size; omega) (by rw [ints_size, hla]; rfl)
            have k2 := blk_grown fB (setCells_whole (new := ints a) fA (by rw [ints_size, hla]; rfl)).2 (by simp; omega)
            refine hK.out _ _ k1.1 (fun _ => ?_)
            clear hK K
            try simp only [Act.put, List.setIfInBounds_toArray, List.set_cons_zero, List.set_cons_succ]
            replace hHeld := k1.1
            replace fA := k1.2
            replace fB := k2
            clear k1 k2
            refine keep_any (fun W => Keep w ([(w.heap.size, 43, ints a0), (w.heap.size + 1, 43, ints a1)]) W ∧ Blk W ga 44 (ints a) ∧ Blk W gb 44 (#[Value.int .i64 0, Value.int .i64 0, Value.int .i64 0, Value.int .i64 0, Value.int .i64 0, Value.int .i64 0, Value.int .i64 0, Value.int .i64 0, Value.int .i64 0, Value.int .i64 0, Value.int .i64 0, Value.int .i64 0, Value.int .i64 0, Value.int .i64 0, Value.int .i64 0, Value.int .i64 0, Value.int .i64 0, Value.int .i64 0, Value.int .i64 0, Value.int .i64 0, Value.int .i64 0, Value.int .i64 0, Value.int .i64 0, Value.int .i64 0, Value.int .i64 0, Value.int .i64 0, Value.int .i64 0, Value.int .i64 0, Value.int .i64 0, Value.int .i64 0, Value.int .i64 0, Value.int .i64 0])) ⟨hHeld, fA, fB⟩ ?_
            clear hHeld fA fB
            rintro W ⟨hHeld, fA, fB⟩
            refine wpAnyH_ready (rs := [7]) (by kernel_rfl) (by simp) ?_
            refine AllReadyH.cons (o := ⟨_, _, _, _, _, _⟩) rfl (fun K hK => ?_) AllReadyH.nil
            rw [if_pos (by rfl)]
            refine wp_store_mid 44 _ _ rfl gb 0 (ints b) rfl rfl (by rw [ints_size, hlb]; exact blk_there fB) (by rw [ints_size, hlb]; kernel_rfl) (ints_one _) ?_
            have k1 := keep_store (new := ints b) hHeld fB hngb (by have := hHeld.2.size; omega) (by rw [ints_size, hlb]; rfl)
            have k2 := blk_grown fA (setCells_whole (new := ints b) fB (by rw [ints_size, hlb]; rfl)).2 (by simp; omega)
            refine hK.out _ _ k1.1 (fun _ => ?_)
            clear hK K
            try simp only [Act.put, List.setIfInBounds_toArray, List.set_cons_zero, List.set_cons_succ]
            replace hHeld := k1.1
            replace fB := k1.2
            replace fA := k2
            clear k1 k2
            refine keep_any (fun W => Keep w ([(w.heap.size, 43, ints a0), (w.heap.size + 1, 43, ints a1)]) W ∧ Blk W ga 44 (ints a) ∧ Blk W gb 44 (ints b)) ⟨hHeld, fA, fB⟩ ?_
            clear hHeld fA fB
            rintro W ⟨hHeld, fA, fB⟩
            refine wpAnyH_done (by kernel_rfl) ?_ _
            go_wp2_with fail
            go_meet
            exact ⟨ga, gb, rfl, rfl, keep_cons (keep_cons hHeld fB) fA⟩
        focus
          go_simp
          have hn := keep_lt hHeld
          have hsz := hHeld.2.size
          have nf := blk_new W 44 (#[Value.int .i64 0, Value.int .i64 0, Value.int .i64 0, Value.int .i64 0, Value.int .i64 0, Value.int .i64 0, Value.int .i64 0, Value.int .i64 0, Value.int .i64 0, Value.int .i64 0, Value.int .i64 0, Value.int .i64 0, Value.int .i64 0, Value.int .i64 0, Value.int .i64 0, Value.int .i64 0, Value.int .i64 0, Value.int .i64 0, Value.int .i64 0, Value.int .i64 0, Value.int .i64 0, Value.int .i64 0, Value.int .i64 0, Value.int .i64 0, Value.int .i64 0, Value.int .i64 0, Value.int .i64 0, Value.int .i64 0, Value.int .i64 0, Value.int .i64 0, Value.int .i64 0, Value.int .i64 0])
          have hne := blk_lt fA
          replace fA := blk_alloc fA (.cells (#[Value.int .i64 0, Value.int .i64 0, Value.int .i64 0, Value.int .i64 0, Value.int .i64 0, Value.int .i64 0, Value.int .i64 0, Value.int .i64 0, Value.int .i64 0, Value.int .i64 0, Value.int .i64 0, Value.int .i64 0, Value.int .i64 0, Value.int .i64 0, Value.int .i64 0, Value.int .i64 0, Value.int .i64 0, Value.int .i64 0, Value.int .i64 0, Value.int .i64 0, Value.int .i64 0, Value.int .i64 0, Value.int .i64 0, Value.int .i64 0, Value.int .i64 0, Value.int .i64 0, Value.int .i64 0, Value.int .i64 0, Value.int .i64 0, Value.int .i64 0, Value.int .i64 0, Value.int .i64 0]) 44)
          replace hHeld := keep_alloc hHeld (.cells (#[Value.int .i64 0, Value.int .i64 0, Value.int .i64 0, Value.int .i64 0, Value.int .i64 0, Value.int .i64 0, Value.int .i64 0, Value.int .i64 0, Value.int .i64 0, Value.int .i64 0, Value.int .i64 0, Value.int .i64 0, Value.int .i64 0, Value.int .i64 0, Value.int .i64 0, Value.int .i64 0, Value.int .i64 0, Value.int .i64 0, Value.int .i64 0, Value.int .i64 0, Value.int .i64 0, Value.int .i64 0, Value.int .i64 0, Value.int .i64 0, Value.int .i64 0, Value.int .i64 0, Value.int .i64 0, Value.int .i64 0, Value.int .i64 0, Value.int .i64 0, Value.int .i64 0, Value.int .i64 0]) 44)
          refine hK.out _ _ hHeld (fun _ => ?_)
          clear hK K
          try simp only [Act.put, List.setIfInBounds_toArray, List.set_cons_zero, List.set_cons_succ]
          generalize W.heap.size = gb at *
          have fB := nf
          have hngb := hn
          have hsgb := hsz
          clear nf hn hsz
          refine keep_any (fun W => Keep w ([(w.heap.size, 43, ints a0), (w.heap.size + 1, 43, ints a1)]) W ∧ Blk W ga 44 (#[Value.int .i64 0, Value.int .i64 0, Value.int .i64 0, Value.int .i64 0, Value.int .i64 0, Value.int .i64 0, Value.int .i64 0, Value.int .i64 0, Value.int .i64 0, Value.int .i64 0, Value.int .i64 0, Value.int .i64 0, Value.int .i64 0, Value.int .i64 0, Value.int .i64 0, Value.int .i64 0, Value.int .i64 0, Value.int .i64 0, Value.int .i64 0, Value.int .i64 0, Value.int .i64 0, Value.int .i64 0, Value.int .i64 0, Value.int .i64 0, Value.int .i64 0, Value.int .i64 0, Value.int .i64 0, Value.int .i64 0, Value.int .i64 0, Value.int .i64 0, Value.int .i64 0, Value.int .i64 0]) ∧ Blk W gb 44 (#[Value.int .i64 0, Value.int .i64 0, Value.int .i64 0, Value.int .i64 0, Value.int .i64 0, Value.int .i64 0, Value.int .i64 0, Value.int .i64 0, Value.int .i64 0, Value.int .i64 0, Value.int .i64 0, Value.int .i64 0, Value.int .i64 0, Value.int .i64 0, Value.int .i64 0, Value.int .i64 0, Value.int .i64 0, Value.int .i64 0, Value.int .i64 0, Value.int .i64 0, Value.int .i64 0, Value.int .i64 0, Value.int .i64 0, Value.int .i64 0, Value.int .i64 0, Value.int .i64 0, Value.int .i64 0, Value.int .i64 0, Value.int .i64 0, Value.int .i64 0, Value.int .i64 0, Value.int .i64 0])) ⟨hHeld, fA, fB⟩ ?_
          clear hHeld fA fB
          rintro W ⟨hHeld, fA, fB⟩
          refine wpAnyH_ready (rs := [3]) (by kernel_rfl) (by simp) ?_
          refine AllReadyH.cons (o := ⟨_, _, _, _, _, _⟩) rfl (fun K hK => ?_) (AllReadyH.nil)
          focus
            go_simp
            refine (h1 _).mono ?_
            rintro e W2 ⟨rfl, hC⟩
            go_simp
            replace hHeld := keep_below hHeld hC
            replace fA := blk_below fA hC (blk_lt fA)
            replace fB := blk_below fB hC (blk_lt fB)
            refine hK.out _ _ hHeld (fun _ => ?_)
            clear hK K hC
            try simp only [Act.put, List.setIfInBounds_toArray, List.set_cons_zero, List.set_cons_succ]
            refine keep_any (fun W => Keep w ([(w.heap.size, 43, ints a0), (w.heap.size + 1, 43, ints a1)]) W ∧ Blk W ga 44 (#[Value.int .i64 0, Value.int .i64 0, Value.int .i64 0, Value.int .i64 0, Value.int .i64 0, Value.int .i64 0, Value.int .i64 0, Value.int .i64 0, Value.int .i64 0, Value.int .i64 0, Value.int .i64 0, Value.int .i64 0, Value.int .i64 0, Value.int .i64 0, Value.int .i64 0, Value.int .i64 0, Value.int .i64 0, Value.int .i64 0, Value.int .i64 0, Value.int .i64 0, Value.int .i64 0, Value.int .i64 0, Value.int .i64 0, Value.int .i64 0, Value.int .i64 0, Value.int .i64 0, Value.int .i64 0, Value.int .i64 0, Value.int .i64 0, Value.int .i64 0, Value.int .i64 0, Value.int .i64 0]) ∧ Blk W gb 44 (#[Value.int .i64 0, Value.int .i64 0, Value.int .i64 0, Value.int .i64 0, Value.int .i64 0, Value.int .i64 0, Value.int .i64 0, Value.int .i64 0, Value.int .i64 0, Value.int .i64 0, Value.int .i64 0, Value.int .i64 0, Value.int .i64 0, Value.int .i64 0, Value.int .i64 0, Value.int .i64 0, Value.int .i64 0, Value.int .i64 0, Value.int .i64 0, Value.int .i64 0, Value.int .i64 0, Value.int .i64 0, Value.int .i64 0, Value.int .i64 0, Value.int .i64 0, Value.int .i64 0, Value.int .i64 0, Value.int .i64 0, Value.int .i64 0, Value.int .i64 0, Value.int .i64 0, Value.int .i64 0])) ⟨hHeld, fA, fB⟩ ?_
            clear hHeld fA fB
            rintro W ⟨hHeld, fA, fB⟩
            refine wpAnyH_ready (rs := [6]) (by kernel_rfl) (by simp) ?_
            refine AllReadyH.cons (o := ⟨_, _, _, _, _, _⟩) rfl (fun K hK => ?_) AllReadyH.nil
            rw [if_pos (by rfl)]
            refine wp_store_mid 44 _ _ rfl ga 0 (ints a) rfl rfl (by rw [ints_size, hla]; exact blk_there fA) (by rw [ints_size, hla]; kernel_rfl) (ints_one _) ?_
            have k1 := keep_store (new := ints a) hHeld fA hnga (by have := hHeld.2.size; omega) (by rw [ints_size, hla]; rfl)
            have k2 := blk_grown fB (setCells_whole (new := ints a) fA (by rw [ints_size, hla]; rfl)).2 (by simp; omega)
            refine hK.out _ _ k1.1 (fun _ => ?_)
            clear hK K
            try simp only [Act.put, List.setIfInBounds_toArray, List.set_cons_zero, List.set_cons_succ]
            replace hHeld := k1.1
            replace fA := k1.2
            replace fB := k2
            clear k1 k2
            refine keep_any (fun W => Keep w ([(w.heap.size, 43, ints a0), (w.heap.size + 1, 43, ints a1)]) W ∧ Blk W ga 44 (ints a) ∧ Blk W gb 44 (#[Value.int .i64 0, Value.int .i64 0, Value.int .i64 0, Value.int .i64 0, Value.int .i64 0, Value.int .i64 0, Value.int .i64 0, Value.int .i64 0, Value.int .i64 0, Value.int .i64 0, Value.int .i64 0, Value.int .i64 0, Value.int .i64 0, Value.int .i64 0, Value.int .i64 0, Value.int .i64 0, Value.int .i64 0, Value.int .i64 0, Value.int .i64 0, Value.int .i64 0, Value.int .i64 0, Value.int .i64 0, Value.int .i64 0, Value.int .i64 0, Value.int .i64 0, Value.int .i64 0, Value.int .i64 0, Value.int .i64 0, Value.int .i64 0, Value.int .i64 0, Value.int .i64 0, Value.int .i64 0])) ⟨hHeld, fA, fB⟩ ?_
            clear hHeld fA fB
            rintro W ⟨hHeld, fA, fB⟩
            refine wpAnyH_ready (rs := [7]) (by kernel_rfl) (by simp) ?_
            refine AllReadyH.cons (o := ⟨_, _, _, _, _, _⟩) rfl (fun K hK => ?_) AllReadyH.nil
            rw [if_pos (by rfl)]
            refine wp_store_mid 44 _ _ rfl gb 0 (ints b) rfl rfl (by rw [ints_size, hlb]; exact blk_there fB) (by rw [ints_size, hlb]; kernel_rfl) (ints_one _) ?_
            have k1 := keep_store (new := ints b) hHeld fB hngb (by have := hHeld.2.size; omega) (by rw [ints_size, hlb]; rfl)
            have k2 := blk_grown fA (setCells_whole (new := ints b) fB (by rw [ints_size, hlb]; rfl)).2 (by simp; omega)
            refine hK.out _ _ k1.1 (fun _ => ?_)
            clear hK K
            try simp only [Act.put, List.setIfInBounds_toArray, List.set_cons_zero, List.set_cons_succ]
            replace hHeld := k1.1
            replace fB := k1.2
            replace fA := k2
            clear k1 k2
            refine keep_any (fun W => Keep w ([(w.heap.size, 43, ints a0), (w.heap.size + 1, 43, ints a1)]) W ∧ Blk W ga 44 (ints a) ∧ Blk W gb 44 (ints b)) ⟨hHeld, fA, fB⟩ ?_
            clear hHeld fA fB
            rintro W ⟨hHeld, fA, fB⟩
            refine wpAnyH_done (by kernel_rfl) ?_ _
            go_wp2_with fail
            go_meet
            exact ⟨ga, gb, rfl, rfl, keep_cons (keep_cons hHeld fB) fA⟩
      focus
        go_simp
        have hn := keep_lt hHeld
        have hsz := hHeld.2.size
        have nf := blk_new W 44 (#[Value.int .i64 0, Value.int .i64 0, Value.int .i64 0, Value.int .i64 0, Value.int .i64 0, Value.int .i64 0, Value.int .i64 0, Value.int .i64 0, Value.int .i64 0, Value.int .i64 0, Value.int .i64 0, Value.int .i64 0, Value.int .i64 0, Value.int .i64 0, Value.int .i64 0, Value.int .i64 0, Value.int .i64 0, Value.int .i64 0, Value.int .i64 0, Value.int .i64 0, Value.int .i64 0, Value.int .i64 0, Value.int .i64 0, Value.int .i64 0, Value.int .i64 0, Value.int .i64 0, Value.int .i64 0, Value.int .i64 0, Value.int .i64 0, Value.int .i64 0, Value.int .i64 0, Value.int .i64 0])
        have hne := blk_lt fA
        replace fA := blk_alloc fA (.cells (#[Value.int .i64 0, Value.int .i64 0, Value.int .i64 0, Value.int .i64 0, Value.int .i64 0, Value.int .i64 0, Value.int .i64 0, Value.int .i64 0, Value.int .i64 0, Value.int .i64 0, Value.int .i64 0, Value.int .i64 0, Value.int .i64 0, Value.int .i64 0, Value.int .i64 0, Value.int .i64 0, Value.int .i64 0, Value.int .i64 0, Value.int .i64 0, Value.int .i64 0, Value.int .i64 0, Value.int .i64 0, Value.int .i64 0, Value.int .i64 0, Value.int .i64 0, Value.int .i64 0, Value.int .i64 0, Value.int .i64 0, Value.int .i64 0, Value.int .i64 0, Value.int .i64 0, Value.int .i64 0]) 44)
        replace hHeld := keep_alloc hHeld (.cells (#[Value.int .i64 0, Value.int .i64 0, Value.int .i64 0, Value.int .i64 0, Value.int .i64 0, Value.int .i64 0, Value.int .i64 0, Value.int .i64 0, Value.int .i64 0, Value.int .i64 0, Value.int .i64 0, Value.int .i64 0, Value.int .i64 0, Value.int .i64 0, Value.int .i64 0, Value.int .i64 0, Value.int .i64 0, Value.int .i64 0, Value.int .i64 0, Value.int .i64 0, Value.int .i64 0, Value.int .i64 0, Value.int .i64 0, Value.int .i64 0, Value.int .i64 0, Value.int .i64 0, Value.int .i64 0, Value.int .i64 0, Value.int .i64 0, Value.int .i64 0, Value.int .i64 0, Value.int .i64 0]) 44)
        refine hK.out _ _ hHeld (fun _ => ?_)
        clear hK K
        try simp only [Act.put, List.setIfInBounds_toArray, List.set_cons_zero, List.set_cons_succ]
        generalize W.heap.size = gb at *
        have fB := nf
        have hngb := hn
        have hsgb := hsz
        clear nf hn hsz
        refine keep_any (fun W => Keep w ([(w.heap.size, 43, ints a0), (w.heap.size + 1, 43, ints a1)]) W ∧ Blk W ga 44 (#[Value.int .i64 0, Value.int .i64 0, Value.int .i64 0, Value.int .i64 0, Value.int .i64 0, Value.int .i64 0, Value.int .i64 0, Value.int .i64 0, Value.int .i64 0, Value.int .i64 0, Value.int .i64 0, Value.int .i64 0, Value.int .i64 0, Value.int .i64 0, Value.int .i64 0, Value.int .i64 0, Value.int .i64 0, Value.int .i64 0, Value.int .i64 0, Value.int .i64 0, Value.int .i64 0, Value.int .i64 0, Value.int .i64 0, Value.int .i64 0, Value.int .i64 0, Value.int .i64 0, Value.int .i64 0, Value.int .i64 0, Value.int .i64 0, Value.int .i64 0, Value.int .i64 0, Value.int .i64 0]) ∧ Blk W gb 44 (#[Value.int .i64 0, Value.int .i64 0, Value.int .i64 0, Value.int .i64 0, Value.int .i64 0, Value.int .i64 0, Value.int .i64 0, Value.int .i64 0, Value.int .i64 0, Value.int .i64 0, Value.int .i64 0, Value.int .i64 0, Value.int .i64 0, Value.int .i64 0, Value.int .i64 0, Value.int .i64 0, Value.int .i64 0, Value.int .i64 0, Value.int .i64 0, Value.int .i64 0, Value.int .i64 0, Value.int .i64 0, Value.int .i64 0, Value.int .i64 0, Value.int .i64 0, Value.int .i64 0, Value.int .i64 0, Value.int .i64 0, Value.int .i64 0, Value.int .i64 0, Value.int .i64 0, Value.int .i64 0])) ⟨hHeld, fA, fB⟩ ?_
        clear hHeld fA fB
        rintro W ⟨hHeld, fA, fB⟩
        refine wpAnyH_ready (rs := [1]) (by kernel_rfl) (by simp) ?_
        refine AllReadyH.cons (o := ⟨_, _, _, _, _, _⟩) rfl (fun K hK => ?_) (AllReadyH.nil)
        focus
          go_simp
          refine (h0 _).mono ?_
          rintro e W2 ⟨rfl, hC⟩
          go_simp
          replace hHeld := keep_below hHeld hC
          replace fA := blk_below fA hC (blk_lt fA)
          replace fB := blk_below fB hC (blk_lt fB)
          refine hK.out _ _ hHeld (fun _ => ?_)
          clear hK K hC
          try simp only [Act.put, List.setIfInBounds_toArray, List.set_cons_zero, List.set_cons_succ]
          refine keep_any (fun W => Keep w ([(w.heap.size, 43, ints a0), (w.heap.size + 1, 43, ints a1)]) W ∧ Blk W ga 44 (#[Value.int .i64 0, Value.int .i64 0, Value.int .i64 0, Value.int .i64 0, Value.int .i64 0, Value.int .i64 0, Value.int .i64 0, Value.int .i64 0, Value.int .i64 0, Value.int .i64 0, Value.int .i64 0, Value.int .i64 0, Value.int .i64 0, Value.int .i64 0, Value.int .i64 0, Value.int .i64 0, Value.int .i64 0, Value.int .i64 0, Value.int .i64 0, Value.int .i64 0, Value.int .i64 0, Value.int .i64 0, Value.int .i64 0, Value.int .i64 0, Value.int .i64 0, Value.int .i64 0, Value.int .i64 0, Value.int .i64 0, Value.int .i64 0, Value.int .i64 0, Value.int .i64 0, Value.int .i64 0]) ∧ Blk W gb 44 (#[Value.int .i64 0, Value.int .i64 0, Value.int .i64 0, Value.int .i64 0, Value.int .i64 0, Value.int .i64 0, Value.int .i64 0, Value.int .i64 0, Value.int .i64 0, Value.int .i64 0, Value.int .i64 0, Value.int .i64 0, Value.int .i64 0, Value.int .i64 0, Value.int .i64 0, Value.int .i64 0, Value.int .i64 0, Value.int .i64 0, Value.int .i64 0, Value.int .i64 0, Value.int .i64 0, Value.int .i64 0, Value.int .i64 0, Value.int .i64 0, Value.int .i64 0, Value.int .i64 0, Value.int .i64 0, Value.int .i64 0, Value.int .i64 0, Value.int .i64 0, Value.int .i64 0, Value.int .i64 0])) ⟨hHeld, fA, fB⟩ ?_
          clear hHeld fA fB
          rintro W ⟨hHeld, fA, fB⟩
          refine wpAnyH_ready (rs := [3]) (by kernel_rfl) (by simp) ?_
          refine AllReadyH.cons (o := ⟨_, _, _, _, _, _⟩) rfl (fun K hK => ?_) (AllReadyH.nil)
          focus
            go_simp
            refine (h1 _).mono ?_
            rintro e W2 ⟨rfl, hC⟩
            go_simp
            replace hHeld := keep_below hHeld hC
            replace fA := blk_below fA hC (blk_lt fA)
            replace fB := blk_below fB hC (blk_lt fB)
            refine hK.out _ _ hHeld (fun _ => ?_)
            clear hK K hC
            try simp only [Act.put, List.setIfInBounds_toArray, List.set_cons_zero, List.set_cons_succ]
            refine keep_any (fun W => Keep w ([(w.heap.size, 43, ints a0), (w.heap.size + 1, 43, ints a1)]) W ∧ Blk W ga 44 (#[Value.int .i64 0, Value.int .i64 0, Value.int .i64 0, Value.int .i64 0, Value.int .i64 0, Value.int .i64 0, Value.int .i64 0, Value.int .i64 0, Value.int .i64 0, Value.int .i64 0, Value.int .i64 0, Value.int .i64 0, Value.int .i64 0, Value.int .i64 0, Value.int .i64 0, Value.int .i64 0, Value.int .i64 0, Value.int .i64 0, Value.int .i64 0, Value.int .i64 0, Value.int .i64 0, Value.int .i64 0, Value.int .i64 0, Value.int .i64 0, Value.int .i64 0, Value.int .i64 0, Value.int .i64 0, Value.int .i64 0, Value.int .i64 0, Value.int .i64 0, Value.int .i64 0, Value.int .i64 0]) ∧ Blk W gb 44 (#[Value.int .i64 0, Value.int .i64 0, Value.int .i64 0, Value.int .i64 0, Value.int .i64 0, Value.int .i64 0, Value.int .i64 0, Value.int .i64 0, Value.int .i64 0, Value.int .i64 0, Value.int .i64 0, Value.int .i64 0, Value.int .i64 0, Value.int .i64 0, Value.int .i64 0, Value.int .i64 0, Value.int .i64 0, Value.int .i64 0, Value.int .i64 0, Value.int .i64 0, Value.int .i64 0, Value.int .i64 0, Value.int .i64 0, Value.int .i64 0, Value.int .i64 0, Value.int .i64 0, Value.int .i64 0, Value.int .i64 0, Value.int .i64 0, Value.int .i64 0, Value.int .i64 0, Value.int .i64 0])) ⟨hHeld, fA, fB⟩ ?_
            clear hHeld fA fB
            rintro W ⟨hHeld, fA, fB⟩
            refine wpAnyH_ready (rs := [6]) (by kernel_rfl) (by simp) ?_
            refine AllReadyH.cons (o := ⟨_, _, _, _, _, _⟩) rfl (fun K hK => ?_) AllReadyH.nil
            rw [if_pos (by rfl)]
            refine wp_store_mid 44 _ _ rfl ga 0 (ints a) rfl rfl (by rw [ints_size, hla]; exact blk_there fA) (by rw [ints_size, hla]; kernel_rfl) (ints_one _) ?_
            have k1 := keep_store (new := ints a) hHeld fA hnga (by have := hHeld.2.size; omega) (by rw [ints_size, hla]; rfl)
            have k2 := blk_grown fB (setCells_whole (new := ints a) fA (by rw [ints_size, hla]; rfl)).2 (by simp; omega)
            refine hK.out _ _ k1.1 (fun _ => ?_)
            clear hK K
            try simp only [Act.put, List.setIfInBounds_toArray, List.set_cons_zero, List.set_cons_succ]
            replace hHeld := k1.1
            replace fA := k1.2
            replace fB := k2
            clear k1 k2
            refine keep_any (fun W => Keep w ([(w.heap.size, 43, ints a0), (w.heap.size + 1, 43, ints a1)]) W ∧ Blk W ga 44 (ints a) ∧ Blk W gb 44 (#[Value.int .i64 0, Value.int .i64 0, Value.int .i64 0, Value.int .i64 0, Value.int .i64 0, Value.int .i64 0, Value.int .i64 0, Value.int .i64 0, Value.int .i64 0, Value.int .i64 0, Value.int .i64 0, Value.int .i64 0, Value.int .i64 0, Value.int .i64 0, Value.int .i64 0, Value.int .i64 0, Value.int .i64 0, Value.int .i64 0, Value.int .i64 0, Value.int .i64 0, Value.int .i64 0, Value.int .i64 0, Value.int .i64 0, Value.int .i64 0, Value.int .i64 0, Value.int .i64 0, Value.int .i64 0, Value.int .i64 0, Value.int .i64 0, Value.int .i64 0, Value.int .i64 0, Value.int .i64 0])) ⟨hHeld, fA, fB⟩ ?_
            clear hHeld fA fB
            rintro W ⟨hHeld, fA, fB⟩
            refine wpAnyH_ready (rs := [7]) (by kernel_rfl) (by simp) ?_
            refine AllReadyH.cons (o := ⟨_, _, _, _, _, _⟩) rfl (fun K hK => ?_) AllReadyH.nil
            rw [if_pos (by rfl)]
            refine wp_store_mid 44 _ _ rfl gb 0 (ints b) rfl rfl (by rw [ints_size, hlb]; exact blk_there fB) (by rw [ints_size, hlb]; kernel_rfl) (ints_one _) ?_
            have k1 := keep_store (new := ints b) hHeld fB hngb (by have := hHeld.2.size; omega) (by rw [ints_size, hlb]; rfl)
            have k2 := blk_grown fA (setCells_whole (new := ints b) fB (by rw [ints_size, hlb]; rfl)).2 (by simp; omega)
            refine hK.out _ _ k1.1 (fun _ => ?_)
            clear hK K
            try simp only [Act.put, List.setIfInBounds_toArray, List.set_cons_zero, List.set_cons_succ]
            replace hHeld := k1.1
            replace fB := k1.2
            replace fA := k2
            clear k1 k2
            refine keep_any (fun W => Keep w ([(w.heap.size, 43, ints a0), (w.heap.size + 1, 43, ints a1)]) W ∧ Blk W ga 44 (ints a) ∧ Blk W gb 44 (ints b)) ⟨hHeld, fA, fB⟩ ?_
            clear hHeld fA fB
            rintro W ⟨hHeld, fA, fB⟩
            refine wpAnyH_done (by kernel_rfl) ?_ _
            go_wp2_with fail
            go_meet
            exact ⟨ga, gb, rfl, rfl, keep_cons (keep_cons hHeld fB) fA⟩
    focus
      go_simp
      have hn := keep_lt hHeld
      have hsz := hHeld.2.size
      have nf := blk_new W 44 (#[Value.int .i64 0, Value.int .i64 0, Value.int .i64 0, Value.int .i64 0, Value.int .i64 0, Value.int .i64 0, Value.int .i64 0, Value.int .i64 0, Value.int .i64 0, Value.int .i64 0, Value.int .i64 0, Value.int .i64 0, Value.int .i64 0, Value.int .i64 0, Value.int .i64 0, Value.int .i64 0, Value.int .i64 0, Value.int .i64 0, Value.int .i64 0, Value.int .i64 0, Value.int .i64 0, Value.int .i64 0, Value.int .i64 0, Value.int .i64 0, Value.int .i64 0, Value.int .i64 0, Value.int .i64 0, Value.int .i64 0, Value.int .i64 0, Value.int .i64 0, Value.int .i64 0, Value.int .i64 0])
      replace hHeld := keep_alloc hHeld (.cells (#[Value.int .i64 0, Value.int .i64 0, Value.int .i64 0, Value.int .i64 0, Value.int .i64 0, Value.int .i64 0, Value.int .i64 0, Value.int .i64 0, Value.int .i64 0, Value.int .i64 0, Value.int .i64 0, Value.int .i64 0, Value.int .i64 0, Value.int .i64 0, Value.int .i64 0, Value.int .i64 0, Value.int .i64 0, Value.int .i64 0, Value.int .i64 0, Value.int .i64 0, Value.int .i64 0, Value.int .i64 0, Value.int .i64 0, Value.int .i64 0, Value.int .i64 0, Value.int .i64 0, Value.int .i64 0, Value.int .i64 0, Value.int .i64 0, Value.int .i64 0, Value.int .i64 0, Value.int .i64 0]) 44)
      refine hK.out _ _ hHeld (fun _ => ?_)
      clear hK K
      try simp only [Act.put, List.setIfInBounds_toArray, List.set_cons_zero, List.set_cons_succ]
      generalize W.heap.size = gb at *
      have fB := nf
      have hngb := hn
      have hsgb := hsz
      clear nf hn hsz
      refine keep_any (fun W => Keep w ([(w.heap.size, 43, ints a0), (w.heap.size + 1, 43, ints a1)]) W ∧ Blk W gb 44 (#[Value.int .i64 0, Value.int .i64 0, Value.int .i64 0, Value.int .i64 0, Value.int .i64 0, Value.int .i64 0, Value.int .i64 0, Value.int .i64 0, Value.int .i64 0, Value.int .i64 0, Value.int .i64 0, Value.int .i64 0, Value.int .i64 0, Value.int .i64 0, Value.int .i64 0, Value.int .i64 0, Value.int .i64 0, Value.int .i64 0, Value.int .i64 0, Value.int .i64 0, Value.int .i64 0, Value.int .i64 0, Value.int .i64 0, Value.int .i64 0, Value.int .i64 0, Value.int .i64 0, Value.int .i64 0, Value.int .i64 0, Value.int .i64 0, Value.int .i64 0, Value.int .i64 0, Value.int .i64 0])) ⟨hHeld, fB⟩ ?_
      clear hHeld fB
      rintro W ⟨hHeld, fB⟩
      refine wpAnyH_ready (rs := [1, 4]) (by kernel_rfl) (by simp) ?_
      refine AllReadyH.cons (o := ⟨_, _, _, _, _, _⟩) rfl (fun K hK => ?_) (AllReadyH.cons (o := ⟨_, _, _, _, _, _⟩) rfl (fun K hK => ?_) (AllReadyH.nil))
      focus
        go_simp
        refine (h0 _).mono ?_
        rintro e W2 ⟨rfl, hC⟩
        go_simp
        replace hHeld := keep_below hHeld hC
        replace fB := blk_below fB hC (blk_lt fB)
        refine hK.out _ _ hHeld (fun _ => ?_)
        clear hK K hC
        try simp only [Act.put, List.setIfInBounds_toArray, List.set_cons_zero, List.set_cons_succ]
        refine keep_any (fun W => Keep w ([(w.heap.size, 43, ints a0), (w.heap.size + 1, 43, ints a1)]) W ∧ Blk W gb 44 (#[Value.int .i64 0, Value.int .i64 0, Value.int .i64 0, Value.int .i64 0, Value.int .i64 0, Value.int .i64 0, Value.int .i64 0, Value.int .i64 0, Value.int .i64 0, Value.int .i64 0, Value.int .i64 0, Value.int .i64 0, Value.int .i64 0, Value.int .i64 0, Value.int .i64 0, Value.int .i64 0, Value.int .i64 0, Value.int .i64 0, Value.int .i64 0, Value.int .i64 0, Value.int .i64 0, Value.int .i64 0, Value.int .i64 0, Value.int .i64 0, Value.int .i64 0, Value.int .i64 0, Value.int .i64 0, Value.int .i64 0, Value.int .i64 0, Value.int .i64 0, Value.int .i64 0, Value.int .i64 0])) ⟨hHeld, fB⟩ ?_
        clear hHeld fB
        rintro W ⟨hHeld, fB⟩
        refine wpAnyH_ready (rs := [3, 4]) (by kernel_rfl) (by simp) ?_
        refine AllReadyH.cons (o := ⟨_, _, _, _, _, _⟩) rfl (fun K hK => ?_) (AllReadyH.cons (o := ⟨_, _, _, _, _, _⟩) rfl (fun K hK => ?_) (AllReadyH.nil))
        focus
          go_simp
          refine (h1 _).mono ?_
          rintro e W2 ⟨rfl, hC⟩
          go_simp
          replace hHeld := keep_below hHeld hC
          replace fB := blk_below fB hC (blk_lt fB)
          refine hK.out _ _ hHeld (fun _ => ?_)
          clear hK K hC
          try simp only [Act.put, List.setIfInBounds_toArray, List.set_cons_zero, List.set_cons_succ]
          refine keep_any (fun W => Keep w ([(w.heap.size, 43, ints a0), (w.heap.size + 1, 43, ints a1)]) W ∧ Blk W gb 44 (#[Value.int .i64 0, Value.int .i64 0, Value.int .i64 0, Value.int .i64 0, Value.int .i64 0, Value.int .i64 0, Value.int .i64 0, Value.int .i64 0, Value.int .i64 0, Value.int .i64 0, Value.int .i64 0, Value.int .i64 0, Value.int .i64 0, Value.int .i64 0, Value.int .i64 0, Value.int .i64 0, Value.int .i64 0, Value.int .i64 0, Value.int .i64 0, Value.int .i64 0, Value.int .i64 0, Value.int .i64 0, Value.int .i64 0, Value.int .i64 0, Value.int .i64 0, Value.int .i64 0, Value.int .i64 0, Value.int .i64 0, Value.int .i64 0, Value.int .i64 0, Value.int .i64 0, Value.int .i64 0])) ⟨hHeld, fB⟩ ?_
          clear hHeld fB
          rintro W ⟨hHeld, fB⟩
          refine wpAnyH_ready (rs := [4]) (by kernel_rfl) (by simp) ?_
          refine AllReadyH.cons (o := ⟨_, _, _, _, _, _⟩) rfl (fun K hK => ?_) (AllReadyH.nil)
          focus
            go_simp
            have hn := keep_lt hHeld
            have hsz := hHeld.2.size
            have nf := blk_new W 44 (#[Value.int .i64 0, Value.int .i64 0, Value.int .i64 0, Value.int .i64 0, Value.int .i64 0, Value.int .i64 0, Value.int .i64 0, Value.int .i64 0, Value.int .i64 0, Value.int .i64 0, Value.int .i64 0, Value.int .i64 0, Value.int .i64 0, Value.int .i64 0, Value.int .i64 0, Value.int .i64 0, Value.int .i64 0, Value.int .i64 0, Value.int .i64 0, Value.int .i64 0, Value.int .i64 0, Value.int .i64 0, Value.int .i64 0, Value.int .i64 0, Value.int .i64 0, Value.int .i64 0, Value.int .i64 0, Value.int .i64 0, Value.int .i64 0, Value.int .i64 0, Value.int .i64 0, Value.int .i64 0])
            have hne := blk_lt fB
            replace fB := blk_alloc fB (.cells (#[Value.int .i64 0, Value.int .i64 0, Value.int .i64 0, Value.int .i64 0, Value.int .i64 0, Value.int .i64 0, Value.int .i64 0, Value.int .i64 0, Value.int .i64 0, Value.int .i64 0, Value.int .i64 0, Value.int .i64 0, Value.int .i64 0, Value.int .i64 0, Value.int .i64 0, Value.int .i64 0, Value.int .i64 0, Value.int .i64 0, Value.int .i64 0, Value.int .i64 0, Value.int .i64 0, Value.int .i64 0, Value.int .i64 0, Value.int .i64 0, Value.int .i64 0, Value.int .i64 0, Value.int .i64 0, Value.int .i64 0, Value.int .i64 0, Value.int .i64 0, Value.int .i64 0, Value.int .i64 0]) 44)
            replace hHeld := keep_alloc hHeld (.cells (#[Value.int .i64 0, Value.int .i64 0, Value.int .i64 0, Value.int .i64 0, Value.int .i64 0, Value.int .i64 0, Value.int .i64 0, Value.int .i64 0, Value.int .i64 0, Value.int .i64 0, Value.int .i64 0, Value.int .i64 0, Value.int .i64 0, Value.int .i64 0, Value.int .i64 0, Value.int .i64 0, Value.int .i64 0, Value.int .i64 0, Value.int .i64 0, Value.int .i64 0, Value.int .i64 0, Value.int .i64 0, Value.int .i64 0, Value.int .i64 0, Value.int .i64 0, Value.int .i64 0, Value.int .i64 0, Value.int .i64 0, Value.int .i64 0, Value.int .i64 0, Value.int .i64 0, Value.int .i64 0]) 44)
            refine hK.out _ _ hHeld (fun _ => ?_)
            clear hK K
            try simp only [Act.put, List.setIfInBounds_toArray, List.set_cons_zero, List.set_cons_succ]
            generalize W.heap.size = ga at *
            have fA := nf
            have hnga := hn
            have hsga := hsz
            clear nf hn hsz
            refine keep_any (fun W => Keep w ([(w.heap.size, 43, ints a0), (w.heap.size + 1, 43, ints a1)]) W ∧ Blk W ga 44 (#[Value.int .i64 0, Value.int .i64 0, Value.int .i64 0, Value.int .i64 0, Value.int .i64 0, Value.int .i64 0, Value.int .i64 0, Value.int .i64 0, Value.int .i64 0, Value.int .i64 0, Value.int .i64 0, Value.int .i64 0, Value.int .i64 0, Value.int .i64 0, Value.int .i64 0, Value.int .i64 0, Value.int .i64 0, Value.int .i64 0, Value.int .i64 0, Value.int .i64 0, Value.int .i64 0, Value.int .i64 0, Value.int .i64 0, Value.int .i64 0, Value.int .i64 0, Value.int .i64 0, Value.int .i64 0, Value.int .i64 0, Value.int .i64 0, Value.int .i64 0, Value.int .i64 0, Value.int .i64 0]) ∧ Blk W gb 44 (#[Value.int .i64 0, Value.int .i64 0, Value.int .i64 0, Value.int .i64 0, Value.int .i64 0, Value.int .i64 0, Value.int .i64 0, Value.int .i64 0, Value.int .i64 0, Value.int .i64 0, Value.int .i64 0, Value.int .i64 0, Value.int .i64 0, Value.int .i64 0, Value.int .i64 0, Value.int .i64 0, Value.int .i64 0, Value.int .i64 0, Value.int .i64 0, Value.int .i64 0, Value.int .i64 0, Value.int .i64 0, Value.int .i64 0, Value.int .i64 0, Value.int .i64 0, Value.int .i64 0, Value.int .i64 0, Value.int .i64 0, Value.int .i64 0, Value.int .i64 0, Value.int .i64 0, Value.int .i64 0])) ⟨hHeld, fA, fB⟩ ?_
            clear hHeld fA fB
            rintro W ⟨hHeld, fA, fB⟩
            refine wpAnyH_ready (rs := [6]) (by kernel_rfl) (by simp) ?_
            refine AllReadyH.cons (o := ⟨_, _, _, _, _, _⟩) rfl (fun K hK => ?_) AllReadyH.nil
            rw [if_pos (by rfl)]
            refine wp_store_mid 44 _ _ rfl ga 0 (ints a) rfl rfl (by rw [ints_size, hla]; exact blk_there fA) (by rw [ints_size, hla]; kernel_rfl) (ints_one _) ?_
            have k1 := keep_store (new := ints a) hHeld fA hnga (by have := hHeld.2.size; omega) (by rw [ints_size, hla]; rfl)
            have k2 := blk_grown fB (setCells_whole (new := ints a) fA (by rw [ints_size, hla]; rfl)).2 (by simp; omega)
            refine hK.out _ _ k1.1 (fun _ => ?_)
            clear hK K
            try simp only [Act.put, List.setIfInBounds_toArray, List.set_cons_zero, List.set_cons_succ]
            replace hHeld := k1.1
            replace fA := k1.2
            replace fB := k2
            clear k1 k2
            refine keep_any (fun W => Keep w ([(w.heap.size, 43, ints a0), (w.heap.size + 1, 43, ints a1)]) W ∧ Blk W ga 44 (ints a) ∧ Blk W gb 44 (#[Value.int .i64 0, Value.int .i64 0, Value.int .i64 0, Value.int .i64 0, Value.int .i64 0, Value.int .i64 0, Value.int .i64 0, Value.int .i64 0, Value.int .i64 0, Value.int .i64 0, Value.int .i64 0, Value.int .i64 0, Value.int .i64 0, Value.int .i64 0, Value.int .i64 0, Value.int .i64 0, Value.int .i64 0, Value.int .i64 0, Value.int .i64 0, Value.int .i64 0, Value.int .i64 0, Value.int .i64 0, Value.int .i64 0, Value.int .i64 0, Value.int .i64 0, Value.int .i64 0, Value.int .i64 0, Value.int .i64 0, Value.int .i64 0, Value.int .i64 0, Value.int .i64 0, Value.int .i64 0])) ⟨hHeld, fA, fB⟩ ?_
            clear hHeld fA fB
            rintro W ⟨hHeld, fA, fB⟩
            refine wpAnyH_ready (rs := [7]) (by kernel_rfl) (by simp) ?_
            refine AllReadyH.cons (o := ⟨_, _, _, _, _, _⟩) rfl (fun K hK => ?_) AllReadyH.nil
            rw [if_pos (by rfl)]
            refine wp_store_mid 44 _ _ rfl gb 0 (ints b) rfl rfl (by rw [ints_size, hlb]; exact blk_there fB) (by rw [ints_size, hlb]; kernel_rfl) (ints_one _) ?_
            have k1 := keep_store (new := ints b) hHeld fB hngb (by have := hHeld.2.size; omega) (by rw [ints_size, hlb]; rfl)
            have k2 := blk_grown fA (setCells_whole (new := ints b) fB (by rw [ints_size, hlb]; rfl)).2 (by simp; omega)
            refine hK.out _ _ k1.1 (fun _ => ?_)
            clear hK K
            try simp only [Act.put, List.setIfInBounds_toArray, List.set_cons_zero, List.set_cons_succ]
            replace hHeld := k1.1
            replace fB := k1.2
            replace fA := k2
            clear k1 k2
            refine keep_any (fun W => Keep w ([(w.heap.size, 43, ints a0), (w.heap.size + 1, 43, ints a1)]) W ∧ Blk W ga 44 (ints a) ∧ Blk W gb 44 (ints b)) ⟨hHeld, fA, fB⟩ ?_
            clear hHeld fA fB
            rintro W ⟨hHeld, fA, fB⟩
            refine wpAnyH_done (by kernel_rfl) ?_ _
            go_wp2_with fail
            go_meet
            exact ⟨ga, gb, rfl, rfl, keep_cons (keep_cons hHeld fB) fA⟩
        focus
          go_simp
          have hn := keep_lt hHeld
          have hsz := hHeld.2.size
          have nf := blk_new W 44 (#[Value.int .i64 0, Value.int .i64 0, Value.int .i64 0, Value.int .i64 0, Value.int .i64 0, Value.int .i64 0, Value.int .i64 0, Value.int .i64 0, Value.int .i64 0, Value.int .i64 0, Value.int .i64 0, Value.int .i64 0, Value.int .i64 0, Value.int .i64 0, Value.int .i64 0, Value.int .i64 0, Value.int .i64 0, Value.int .i64 0, Value.int .i64 0, Value.int .i64 0, Value.int .i64 0, Value.int .i64 0, Value.int .i64 0, Value.int .i64 0, Value.int .i64 0, Value.int .i64 0, Value.int .i64 0, Value.int .i64 0, Value.int .i64 0, Value.int .i64 0, Value.int .i64 0, Value.int .i64 0])
          have hne := blk_lt fB
          replace fB := blk_alloc fB (.cells (#[Value.int .i64 0, Value.int .i64 0, Value.int .i64 0, Value.int .i64 0, Value.int .i64 0, Value.int .i64 0, Value.int .i64 0, Value.int .i64 0, Value.int .i64 0, Value.int .i64 0, Value.int .i64 0, Value.int .i64 0, Value.int .i64 0, Value.int .i64 0, Value.int .i64 0, Value.int .i64 0, Value.int .i64 0, Value.int .i64 0, Value.int .i64 0, Value.int .i64 0, Value.int .i64 0, Value.int .i64 0, Value.int .i64 0, Value.int .i64 0, Value.int .i64 0, Value.int .i64 0, Value.int .i64 0, Value.int .i64 0, Value.int .i64 0, Value.int .i64 0, Value.int .i64 0, Value.int .i64 0]) 44)
          replace hHeld := keep_alloc hHeld (.cells (#[Value.int .i64 0, Value.int .i64 0, Value.int .i64 0, Value.int .i64 0, Value.int .i64 0, Value.int .i64 0, Value.int .i64 0, Value.int .i64 0, Value.int .i64 0, Value.int .i64 0, Value.int .i64 0, Value.int .i64 0, Value.int .i64 0, Value.int .i64 0, Value.int .i64 0, Value.int .i64 0, Value.int .i64 0, Value.int .i64 0, Value.int .i64 0, Value.int .i64 0, Value.int .i64 0, Value.int .i64 0, Value.int .i64 0, Value.int .i64 0, Value.int .i64 0, Value.int .i64 0, Value.int .i64 0, Value.int .i64 0, Value.int .i64 0, Value.int .i64 0, Value.int .i64 0, Value.int .i64 0]) 44)
          refine hK.out _ _ hHeld (fun _ => ?_)
          clear hK K
          try simp only [Act.put, List.setIfInBounds_toArray, List.set_cons_zero, List.set_cons_succ]
          generalize W.heap.size = ga at *
          have fA := nf
          have hnga := hn
          have hsga := hsz
          clear nf hn hsz
          refine keep_any (fun W => Keep w ([(w.heap.size, 43, ints a0), (w.heap.size + 1, 43, ints a1)]) W ∧ Blk W ga 44 (#[Value.int .i64 0, Value.int .i64 0, Value.int .i64 0, Value.int .i64 0, Value.int .i64 0, Value.int .i64 0, Value.int .i64 0, Value.int .i64 0, Value.int .i64 0, Value.int .i64 0, Value.int .i64 0, Value.int .i64 0, Value.int .i64 0, Value.int .i64 0, Value.int .i64 0, Value.int .i64 0, Value.int .i64 0, Value.int .i64 0, Value.int .i64 0, Value.int .i64 0, Value.int .i64 0, Value.int .i64 0, Value.int .i64 0, Value.int .i64 0, Value.int .i64 0, Value.int .i64 0, Value.int .i64 0, Value.int .i64 0, Value.int .i64 0, Value.int .i64 0, Value.int .i64 0, Value.int .i64 0]) ∧ Blk W gb 44 (#[Value.int .i64 0, Value.int .i64 0, Value.int .i64 0, Value.int .i64 0, Value.int .i64 0, Value.int .i64 0, Value.int .i64 0, Value.int .i64 0, Value.int .i64 0, Value.int .i64 0, Value.int .i64 0, Value.int .i64 0, Value.int .i64 0, Value.int .i64 0, Value.int .i64 0, Value.int .i64 0, Value.int .i64 0, Value.int .i64 0, Value.int .i64 0, Value.int .i64 0, Value.int .i64 0, Value.int .i64 0, Value.int .i64 0, Value.int .i64 0, Value.int .i64 0, Value.int .i64 0, Value.int .i64 0, Value.int .i64 0, Value.int .i64 0, Value.int .i64 0, Value.int .i64 0, Value.int .i64 0])) ⟨hHeld, fA, fB⟩ ?_
          clear hHeld fA fB
          rintro W ⟨hHeld, fA, fB⟩
          refine wpAnyH_ready (rs := [3]) (by kernel_rfl) (by simp) ?_
          refine AllReadyH.cons (o := ⟨_, _, _, _, _, _⟩) rfl (fun K hK => ?_) (AllReadyH.nil)
          focus
            go_simp
            refine (h1 _).mono ?_
            rintro e W2 ⟨rfl, hC⟩
            go_simp
            replace hHeld := keep_below hHeld hC
            replace fA := blk_below fA hC (blk_lt fA)
            replace fB := blk_below fB hC (blk_lt fB)
            refine hK.out _ _ hHeld (fun _ => ?_)
            clear hK K hC
            try simp only [Act.put, List.setIfInBounds_toArray, List.set_cons_zero, List.set_cons_succ]
            refine keep_any (fun W => Keep w ([(w.heap.size, 43, ints a0), (w.heap.size + 1, 43, ints a1)]) W ∧ Blk W ga 44 (#[Value.int .i64 0, Value.int .i64 0, Value.int .i64 0, Value.int .i64 0, Value.int .i64 0, Value.int .i64 0, Value.int .i64 0, Value.int .i64 0, Value.int .i64 0, Value.int .i64 0, Value.int .i64 0, Value.int .i64 0, Value.int .i64 0, Value.int .i64 0, Value.int .i64 0, Value.int .i64 0, Value.int .i64 0, Value.int .i64 0, Value.int .i64 0, Value.int .i64 0, Value.int .i64 0, Value.int .i64 0, Value.int .i64 0, Value.int .i64 0, Value.int .i64 0, Value.int .i64 0, Value.int .i64 0, Value.int .i64 0, Value.int .i64 0, Value.int .i64 0, Value.int .i64 0, Value.int .i64 0]) ∧ Blk W gb 44 (#[Value.int .i64 0, Value.int .i64 0, Value.int .i64 0, Value.int .i64 0, Value.int .i64 0, Value.int .i64 0, Value.int .i64 0, Value.int .i64 0, Value.int .i64 0, Value.int .i64 0, Value.int .i64 0, Value.int .i64 0, Value.int .i64 0, Value.int .i64 0, Value.int .i64 0, Value.int .i64 0, Value.int .i64 0, Value.int .i64 0, Value.int .i64 0, Value.int .i64 0, Value.int .i64 0, Value.int .i64 0, Value.int .i64 0, Value.int .i64 0, Value.int .i64 0, Value.int .i64 0, Value.int .i64 0, Value.int .i64 0, Value.int .i64 0, Value.int .i64 0, Value.int .i64 0, Value.int .i64 0])) ⟨hHeld, fA, fB⟩ ?_
            clear hHeld fA fB
            rintro W ⟨hHeld, fA, fB⟩
            refine wpAnyH_ready (rs := [6]) (by kernel_rfl) (by simp) ?_
            refine AllReadyH.cons (o := ⟨_, _, _, _, _, _⟩) rfl (fun K hK => ?_) AllReadyH.nil
            rw [if_pos (by rfl)]
            refine wp_store_mid 44 _ _ rfl ga 0 (ints a) rfl rfl (by rw [ints_size, hla]; exact blk_there fA) (by rw [ints_size, hla]; kernel_rfl) (ints_one _) ?_
            have k1 := keep_store (new := ints a) hHeld fA hnga (by have := hHeld.2.size; omega) (by rw [ints_size, hla]; rfl)
            have k2 := blk_grown fB (setCells_whole (new := ints a) fA (by rw [ints_size, hla]; rfl)).2 (by simp; omega)
            refine hK.out _ _ k1.1 (fun _ => ?_)
            clear hK K
            try simp only [Act.put, List.setIfInBounds_toArray, List.set_cons_zero, List.set_cons_succ]
            replace hHeld := k1.1
            replace fA := k1.2
            replace fB := k2
            clear k1 k2
            refine keep_any (fun W => Keep w ([(w.heap.size, 43, ints a0), (w.heap.size + 1, 43, ints a1)]) W ∧ Blk W ga 44 (ints a) ∧ Blk W gb 44 (#[Value.int .i64 0, Value.int .i64 0, Value.int .i64 0, Value.int .i64 0, Value.int .i64 0, Value.int .i64 0, Value.int .i64 0, Value.int .i64 0, Value.int .i64 0, Value.int .i64 0, Value.int .i64 0, Value.int .i64 0, Value.int .i64 0, Value.int .i64 0, Value.int .i64 0, Value.int .i64 0, Value.int .i64 0, Value.int .i64 0, Value.int .i64 0, Value.int .i64 0, Value.int .i64 0, Value.int .i64 0, Value.int .i64 0, Value.int .i64 0, Value.int .i64 0, Value.int .i64 0, Value.int .i64 0, Value.int .i64 0, Value.int .i64 0, Value.int .i64 0, Value.int .i64 0, Value.int .i64 0])) ⟨hHeld, fA, fB⟩ ?_
            clear hHeld fA fB
            rintro W ⟨hHeld, fA, fB⟩
            refine wpAnyH_ready (rs := [7]) (by kernel_rfl) (by simp) ?_
            refine AllReadyH.cons (o := ⟨_, _, _, _, _, _⟩) rfl (fun K hK => ?_) AllReadyH.nil
            rw [if_pos (by rfl)]
            refine wp_store_mid 44 _ _ rfl gb 0 (ints b) rfl rfl (by rw [ints_size, hlb]; exact blk_there fB) (by rw [ints_size, hlb]; kernel_rfl) (ints_one _) ?_
            have k1 := keep_store (new := ints b) hHeld fB hngb (by have := hHeld.2.size; omega) (by rw [ints_size, hlb]; rfl)
            have k2 := blk_grown fA (setCells_whole (new := ints b) fB (by rw [ints_size, hlb]; rfl)).2 (by simp; omega)
            refine hK.out _ _ k1.1 (fun _ => ?_)
            clear hK K
            try simp only [Act.put, List.setIfInBounds_toArray, List.set_cons_zero, List.set_cons_succ]
            replace hHeld := k1.1
            replace fB := k1.2
            replace fA := k2
            clear k1 k2
            refine keep_any (fun W => Keep w ([(w.heap.size, 43, ints a0), (w.heap.size + 1, 43, ints a1)]) W ∧ Blk W ga 44 (ints a) ∧ Blk W gb 44 (ints b)) ⟨hHeld, fA, fB⟩ ?_
            clear hHeld fA fB
            rintro W ⟨hHeld, fA, fB⟩
            refine wpAnyH_done (by kernel_rfl) ?_ _
            go_wp2_with fail
            go_meet
            exact ⟨ga, gb, rfl, rfl, keep_cons (keep_cons hHeld fB) fA⟩
      focus
        go_simp
        have hn := keep_lt hHeld
        have hsz := hHeld.2.size
        have nf := blk_new W 44 (#[Value.int .i64 0, Value.int .i64 0, Value.int .i64 0, Value.int .i64 0, Value.int .i64 0, Value.int .i64 0, Value.int .i64 0, Value.int .i64 0, Value.int .i64 0, Value.int .i64 0, Value.int .i64 0, Value.int .i64 0, Value.int .i64 0, Value.int .i64 0, Value.int .i64 0, Value.int .i64 0, Value.int .i64 0, Value.int .i64 0, Value.int .i64 0, Value.int .i64 0, Value.int .i64 0, Value.int .i64 0, Value.int .i64 0, Value.int .i64 0, Value.int .i64 0, Value.int .i64 0, Value.int .i64 0, Value.int .i64 0, Value.int .i64 0, Value.int .i64 0, Value.int .i64 0, Value.int .i64 0])
        have hne := blk_lt fB
        replace fB := blk_alloc fB (.cells (#[Value.int .i64 0, Value.int .i64 0, Value.int .i64 0, Value.int .i64 0, Value.int .i64 0, Value.int .i64 0, Value.int .i64 0, Value.int .i64 0, Value.int .i64 0, Value.int .i64 0, Value.int .i64 0, Value.int .i64 0, Value.int .i64 0, Value.int .i64 0, Value.int .i64 0, Value.int .i64 0, Value.int .i64 0, Value.int .i64 0, Value.int .i64 0, Value.int .i64 0, Value.int .i64 0, Value.int .i64 0, Value.int .i64 0, Value.int .i64 0, Value.int .i64 0, Value.int .i64 0, Value.int .i64 0, Value.int .i64 0, Value.int .i64 0, Value.int .i64 0, Value.int .i64 0, Value.int .i64 0]) 44)
        replace hHeld := keep_alloc hHeld (.cells (#[Value.int .i64 0, Value.int .i64 0, Value.int .i64 0, Value.int .i64 0, Value.int .i64 0, Value.int .i64 0, Value.int .i64 0, Value.int .i64 0, Value.int .i64 0, Value.int .i64 0, Value.int .i64 0, Value.int .i64 0, Value.int .i64 0, Value.int .i64 0, Value.int .i64 0, Value.int .i64 0, Value.int .i64 0, Value.int .i64 0, Value.int .i64 0, Value.int .i64 0, Value.int .i64 0, Value.int .i64 0, Value.int .i64 0, Value.int .i64 0, Value.int .i64 0, Value.int .i64 0, Value.int .i64 0, Value.int .i64 0, Value.int .i64 0, Value.int .i64 0, Value.int .i64 0, Value.int .i64 0]) 44)
        refine hK.out _ _ hHeld (fun _ => ?_)
        clear hK K
        try simp only [Act.put, List.setIfInBounds_toArray, List.set_cons_zero, List.set_cons_succ]
        generalize W.heap.size = ga at *
        have fA := nf
        have hnga := hn
        have hsga := hsz
        clear nf hn hsz
        refine keep_any (fun W => Keep w ([(w.heap.size, 43, ints a0), (w.heap.size + 1, 43, ints a1)]) W ∧ Blk W ga 44 (#[Value.int .i64 0, Value.int .i64 0, Value.int .i64 0, Value.int .i64 0, Value.int .i64 0, Value.int .i64 0, Value.int .i64 0, Value.int .i64 0, Value.int .i64 0, Value.int .i64 0, Value.int .i64 0, Value.int .i64 0, Value.int .i64 0, Value.int .i64 0, Value.int .i64 0, Value.int .i64 0, Value.int .i64 0, Value.int .i64 0, Value.int .i64 0, Value.int .i64 0, Value.int .i64 0, Value.int .i64 0, Value.int .i64 0, Value.int .i64 0, Value.int .i64 0, Value.int .i64 0, Value.int .i64 0, Value.int .i64 0, Value.int .i64 0, Value.int .i64 0, Value.int .i64 0, Value.int .i64 0]) ∧ Blk W gb 44 (#[Value.int .i64 0, Value.int .i64 0, Value.int .i64 0, Value.int .i64 0, Value.int .i64 0, Value.int .i64 0, Value.int .i64 0, Value.int .i64 0, Value.int .i64 0, Value.int .i64 0, Value.int .i64 0, Value.int .i64 0, Value.int .i64 0, Value.int .i64 0, Value.int .i64 0, Value.int .i64 0, Value.int .i64 0, Value.int .i64 0, Value.int .i64 0, Value.int .i64 0, Value.int .i64 0, Value.int .i64 0, Value.int .i64 0, Value.int .i64 0, Value.int .i64 0, Value.int .i64 0, Value.int .i64 0, Value.int .i64 0, Value.int .i64 0, Value.int .i64 0, Value.int .i64 0, Value.int .i64 0])) ⟨hHeld, fA, fB⟩ ?_
        clear hHeld fA fB
        rintro W ⟨hHeld, fA, fB⟩
        refine wpAnyH_ready (rs := [1]) (by kernel_rfl) (by simp) ?_
        refine AllReadyH.cons (o := ⟨_, _, _, _, _, _⟩) rfl (fun K hK => ?_) (AllReadyH.nil)
        focus
          go_simp
          refine (h0 _).mono ?_
          rintro e W2 ⟨rfl, hC⟩
          go_simp
          replace hHeld := keep_below hHeld hC
          replace fA := blk_below fA hC (blk_lt fA)
          replace fB := blk_below fB hC (blk_lt fB)
          refine hK.out _ _ hHeld (fun _ => ?_)
          clear hK K hC
          try simp only [Act.put, List.setIfInBounds_toArray, List.set_cons_zero, List.set_cons_succ]
          refine keep_any (fun W => Keep w ([(w.heap.size, 43, ints a0), (w.heap.size + 1, 43, ints a1)]) W ∧ Blk W ga 44 (#[Value.int .i64 0, Value.int .i64 0, Value.int .i64 0, Value.int .i64 0, Value.int .i64 0, Value.int .i64 0, Value.int .i64 0, Value.int .i64 0, Value.int .i64 0, Value.int .i64 0, Value.int .i64 0, Value.int .i64 0, Value.int .i64 0, Value.int .i64 0, Value.int .i64 0, Value.int .i64 0, Value.int .i64 0, Value.int .i64 0, Value.int .i64 0, Value.int .i64 0, Value.int .i64 0, Value.int .i64 0, Value.int .i64 0, Value.int .i64 0, Value.int .i64 0, Value.int .i64 0, Value.int .i64 0, Value.int .i64 0, Value.int .i64 0, Value.int .i64 0, Value.int .i64 0, Value.int .i64 0]) ∧ Blk W gb 44 (#[Value.int .i64 0, Value.int .i64 0, Value.int .i64 0, Value.int .i64 0, Value.int .i64 0, Value.int .i64 0, Value.int .i64 0, Value.int .i64 0, Value.int .i64 0, Value.int .i64 0, Value.int .i64 0, Value.int .i64 0, Value.int .i64 0, Value.int .i64 0, Value.int .i64 0, Value.int .i64 0, Value.int .i64 0, Value.int .i64 0, Value.int .i64 0, Value.int .i64 0, Value.int .i64 0, Value.int .i64 0, Value.int .i64 0, Value.int .i64 0, Value.int .i64 0, Value.int .i64 0, Value.int .i64 0, Value.int .i64 0, Value.int .i64 0, Value.int .i64 0, Value.int .i64 0, Value.int .i64 0])) ⟨hHeld, fA, fB⟩ ?_
          clear hHeld fA fB
          rintro W ⟨hHeld, fA, fB⟩
          refine wpAnyH_ready (rs := [3]) (by kernel_rfl) (by simp) ?_
          refine AllReadyH.cons (o := ⟨_, _, _, _, _, _⟩) rfl (fun K hK => ?_) (AllReadyH.nil)
          focus
            go_simp
            refine (h1 _).mono ?_
            rintro e W2 ⟨rfl, hC⟩
            go_simp
            replace hHeld := keep_below hHeld hC
            replace fA := blk_below fA hC (blk_lt fA)
            replace fB := blk_below fB hC (blk_lt fB)
            refine hK.out _ _ hHeld (fun _ => ?_)
            clear hK K hC
            try simp only [Act.put, List.setIfInBounds_toArray, List.set_cons_zero, List.set_cons_succ]
            refine keep_any (fun W => Keep w ([(w.heap.size, 43, ints a0), (w.heap.size + 1, 43, ints a1)]) W ∧ Blk W ga 44 (#[Value.int .i64 0, Value.int .i64 0, Value.int .i64 0, Value.int .i64 0, Value.int .i64 0, Value.int .i64 0, Value.int .i64 0, Value.int .i64 0, Value.int .i64 0, Value.int .i64 0, Value.int .i64 0, Value.int .i64 0, Value.int .i64 0, Value.int .i64 0, Value.int .i64 0, Value.int .i64 0, Value.int .i64 0, Value.int .i64 0, Value.int .i64 0, Value.int .i64 0, Value.int .i64 0, Value.int .i64 0, Value.int .i64 0, Value.int .i64 0, Value.int .i64 0, Value.int .i64 0, Value.int .i64 0, Value.int .i64 0, Value.int .i64 0, Value.int .i64 0, Value.int .i64 0, Value.int .i64 0]) ∧ Blk W gb 44 (#[Value.int .i64 0, Value.int .i64 0, Value.int .i64 0, Value.int .i64 0, Value.int .i64 0, Value.int .i64 0, Value.int .i64 0, Value.int .i64 0, Value.int .i64 0, Value.int .i64 0, Value.int .i64 0, Value.int .i64 0, Value.int .i64 0, Value.int .i64 0, Value.int .i64 0, Value.int .i64 0, Value.int .i64 0, Value.int .i64 0, Value.int .i64 0, Value.int .i64 0, Value.int .i64 0, Value.int .i64 0, Value.int .i64 0, Value.int .i64 0, Value.int .i64 0, Value.int .i64 0, Value.int .i64 0, Value.int .i64 0, Value.int .i64 0, Value.int .i64 0, Value.int .i64 0, Value.int .i64 0])) ⟨hHeld, fA, fB⟩ ?_
            clear hHeld fA fB
            rintro W ⟨hHeld, fA, fB⟩
            refine wpAnyH_ready (rs := [6]) (by kernel_rfl) (by simp) ?_
            refine AllReadyH.cons (o := ⟨_, _, _, _, _, _⟩) rfl (fun K hK => ?_) AllReadyH.nil
            rw [if_pos (by rfl)]
            refine wp_store_mid 44 _ _ rfl ga 0 (ints a) rfl rfl (by rw [ints_size, hla]; exact blk_there fA) (by rw [ints_size, hla]; kernel_rfl) (ints_one _) ?_
            have k1 := keep_store (new := ints a) hHeld fA hnga (by have := hHeld.2.size; omega) (by rw [ints_size, hla]; rfl)
            have k2 := blk_grown fB (setCells_whole (new := ints a) fA (by rw [ints_size, hla]; rfl)).2 (by simp; omega)
            refine hK.out _ _ k1.1 (fun _ => ?_)
            clear hK K
            try simp only [Act.put, List.setIfInBounds_toArray, List.set_cons_zero, List.set_cons_succ]
            replace hHeld := k1.1
            replace fA := k1.2
            replace fB := k2
            clear k1 k2
            refine keep_any (fun W => Keep w ([(w.heap.size, 43, ints a0), (w.heap.size + 1, 43, ints a1)]) W ∧ Blk W ga 44 (ints a) ∧ Blk W gb 44 (#[Value.int .i64 0, Value.int .i64 0, Value.int .i64 0, Value.int .i64 0, Value.int .i64 0, Value.int .i64 0, Value.int .i64 0, Value.int .i64 0, Value.int .i64 0, Value.int .i64 0, Value.int .i64 0, Value.int .i64 0, Value.int .i64 0, Value.int .i64 0, Value.int .i64 0, Value.int .i64 0, Value.int .i64 0, Value.int .i64 0, Value.int .i64 0, Value.int .i64 0, Value.int .i64 0, Value.int .i64 0, Value.int .i64 0, Value.int .i64 0, Value.int .i64 0, Value.int .i64 0, Value.int .i64 0, Value.int .i64 0, Value.int .i64 0, Value.int .i64 0, Value.int .i64 0, Value.int .i64 0])) ⟨hHeld, fA, fB⟩ ?_
            clear hHeld fA fB
            rintro W ⟨hHeld, fA, fB⟩
            refine wpAnyH_ready (rs := [7]) (by kernel_rfl) (by simp) ?_
            refine AllReadyH.cons (o := ⟨_, _, _, _, _, _⟩) rfl (fun K hK => ?_) AllReadyH.nil
            rw [if_pos (by rfl)]
            refine wp_store_mid 44 _ _ rfl gb 0 (ints b) rfl rfl (by rw [ints_size, hlb]; exact blk_there fB) (by rw [ints_size, hlb]; kernel_rfl) (ints_one _) ?_
            have k1 := keep_store (new := ints b) hHeld fB hngb (by have := hHeld.2.size; omega) (by rw [ints_size, hlb]; rfl)
            have k2 := blk_grown fA (setCells_whole (new := ints b) fB (by rw [ints_size, hlb]; rfl)).2 (by simp; omega)
            refine hK.out _ _ k1.1 (fun _ => ?_)
            clear hK K
            try simp only [Act.put, List.setIfInBounds_toArray, List.set_cons_zero, List.set_cons_succ]
            replace hHeld := k1.1
            replace fB := k1.2
            replace fA := k2
            clear k1 k2
            refine keep_any (fun W => Keep w ([(w.heap.size, 43, ints a0), (w.heap.size + 1, 43, ints a1)]) W ∧ Blk W ga 44 (ints a) ∧ Blk W gb 44 (ints b)) ⟨hHeld, fA, fB⟩ ?_
            clear hHeld fA fB
            rintro W ⟨hHeld, fA, fB⟩
            refine wpAnyH_done (by kernel_rfl) ?_ _
            go_wp2_with fail
            go_meet
            exact ⟨ga, gb, rfl, rfl, keep_cons (keep_cons hHeld fB) fA⟩
  case rest =>
  obtain ⟨g5, g6, rfl, rfl, hkk⟩ := hcut
  clear h0 h1 hk hk0 hB hu hi0 hi1
  have hk := keep_sub (l' := [(g5, 44, ints a), (g6, 44, ints b)]) hkk.out (by simp)
  clear hkk
  have hu := Try.underlying44
  have ka := keep_at hk (show (g5, 44, ints a) ∈ _ by simp)
  have kb := keep_at hk (show (g6, 44, ints b) ∈ _ by simp)
  go_wp2_with (first | (refine wpList_load_row rfl 44 _ rfl g5 rfl 44 (ints a) (0, 0) _ ka Try.underlying44 rfl (by rw [ints_size, hla]; kernel_rfl) ?_) | (refine wpList_load_row rfl 44 _ rfl g6 rfl 44 (ints b) (0, 0) _ kb Try.underlying44 rfl (by rw [ints_size, hlb]; kernel_rfl) ?_))
  refine (c4 _).mono ?_
  rintro e wN ⟨rfl, hC⟩
  have hk1 := keep_below hk hC
  have hn := keep_lt hk1
  have hsz := hk1.2.size
  have hk2 := keep_alloc (keep_alloc hk1 (.cells #[Value.int .i64 0, Value.int .i64 0, Value.int .i64 0, Value.int .i64 0, Value.int .i64 0, Value.int .i64 0, Value.int .i64 0, Value.int .i64 0, Value.int .i64 0, Value.int .i64 0, Value.int .i64 0, Value.int .i64 0, Value.int .i64 0, Value.int .i64 0, Value.int .i64 0, Value.int .i64 0, Value.int .i64 0, Value.int .i64 0, Value.int .i64 0, Value.int .i64 0, Value.int .i64 0, Value.int .i64 0, Value.int .i64 0, Value.int .i64 0, Value.int .i64 0, Value.int .i64 0, Value.int .i64 0, Value.int .i64 0, Value.int .i64 0, Value.int .i64 0, Value.int .i64 0, Value.int .i64 0] 44)) (.cells #[Value.int .i64 0, Value.int .i64 0, Value.int .i64 0, Value.int .i64 0, Value.int .i64 0, Value.int .i64 0, Value.int .i64 0, Value.int .i64 0, Value.int .i64 0, Value.int .i64 0, Value.int .i64 0, Value.int .i64 0, Value.int .i64 0, Value.int .i64 0, Value.int .i64 0, Value.int .i64 0, Value.int .i64 0, Value.int .i64 0, Value.int .i64 0, Value.int .i64 0, Value.int .i64 0, Value.int .i64 0, Value.int .i64 0, Value.int .i64 0, Value.int .i64 0, Value.int .i64 0, Value.int .i64 0, Value.int .i64 0, Value.int .i64 0, Value.int .i64 0, Value.int .i64 0, Value.int .i64 0] 44)
  have nA := blk_alloc (blk_new wN 44 #[Value.int .i64 0, Value.int .i64 0, Value.int .i64 0, Value.int .i64 0, Value.int .i64 0, Value.int .i64 0, Value.int .i64 0, Value.int .i64 0, Value.int .i64 0, Value.int .i64 0, Value.int .i64 0, Value.int .i64 0, Value.int .i64 0, Value.int .i64 0, Value.int .i64 0, Value.int .i64 0, Value.int .i64 0, Value.int .i64 0, Value.int .i64 0, Value.int .i64 0, Value.int .i64 0, Value.int .i64 0, Value.int .i64 0, Value.int .i64 0, Value.int .i64 0, Value.int .i64 0, Value.int .i64 0, Value.int .i64 0, Value.int .i64 0, Value.int .i64 0, Value.int .i64 0, Value.int .i64 0]) (.cells #[Value.int .i64 0, Value.int .i64 0, Value.int .i64 0, Value.int .i64 0, Value.int .i64 0, Value.int .i64 0, Value.int .i64 0, Value.int .i64 0, Value.int .i64 0, Value.int .i64 0, Value.int .i64 0, Value.int .i64 0, Value.int .i64 0, Value.int .i64 0, Value.int .i64 0, Value.int .i64 0, Value.int .i64 0, Value.int .i64 0, Value.int .i64 0, Value.int .i64 0, Value.int .i64 0, Value.int .i64 0, Value.int .i64 0, Value.int .i64 0, Value.int .i64 0, Value.int .i64 0, Value.int .i64 0, Value.int .i64 0, Value.int .i64 0, Value.int .i64 0, Value.int .i64 0, Value.int .i64 0] 44)
  have nB := blk_new (wN.alloc (.cells #[Value.int .i64 0, Value.int .i64 0, Value.int .i64 0, Value.int .i64 0, Value.int .i64 0, Value.int .i64 0, Value.int .i64 0, Value.int .i64 0, Value.int .i64 0, Value.int .i64 0, Value.int .i64 0, Value.int .i64 0, Value.int .i64 0, Value.int .i64 0, Value.int .i64 0, Value.int .i64 0, Value.int .i64 0, Value.int .i64 0, Value.int .i64 0, Value.int .i64 0, Value.int .i64 0, Value.int .i64 0, Value.int .i64 0, Value.int .i64 0, Value.int .i64 0, Value.int .i64 0, Value.int .i64 0, Value.int .i64 0, Value.int .i64 0, Value.int .i64 0, Value.int .i64 0, Value.int .i64 0] 44)) 44 #[Value.int .i64 0, Value.int .i64 0, Value.int .i64 0, Value.int .i64 0, Value.int .i64 0, Value.int .i64 0, Value.int .i64 0, Value.int .i64 0, Value.int .i64 0, Value.int .i64 0, Value.int .i64 0, Value.int .i64 0, Value.int .i64 0, Value.int .i64 0, Value.int .i64 0, Value.int .i64 0, Value.int .i64 0, Value.int .i64 0, Value.int .i64 0, Value.int .i64 0, Value.int .i64 0, Value.int .i64 0, Value.int .i64 0, Value.int .i64 0, Value.int .i64 0, Value.int .i64 0, Value.int .i64 0, Value.int .i64 0, Value.int .i64 0, Value.int .i64 0, Value.int .i64 0, Value.int .i64 0]
  rw [show (wN.alloc (.cells #[Value.int .i64 0, Value.int .i64 0, Value.int .i64 0, Value.int .i64 0, Value.int .i64 0, Value.int .i64 0, Value.int .i64 0, Value.int .i64 0, Value.int .i64 0, Value.int .i64 0, Value.int .i64 0, Value.int .i64 0, Value.int .i64 0, Value.int .i64 0, Value.int .i64 0, Value.int .i64 0, Value.int .i64 0, Value.int .i64 0, Value.int .i64 0, Value.int .i64 0, Value.int .i64 0, Value.int .i64 0, Value.int .i64 0, Value.int .i64 0, Value.int .i64 0, Value.int .i64 0, Value.int .i64 0, Value.int .i64 0, Value.int .i64 0, Value.int .i64 0, Value.int .i64 0, Value.int .i64 0] 44)).heap.size = wN.heap.size + 1 by simp] at nB
  clear ka kb hk hk1 hC c4
  go_wp2_with (first | (refine wpList_store_blk rfl 44 _ _ rfl wN.heap.size 44 _ (ints c) rfl rfl nA (by rw [ints_size, hlc]; rfl) (by rw [ints_size, hlc]; kernel_rfl) (ints_one _) ?_; intro w3 n0 hg; have nB3 := blk_grown nB hg (by simp)) | (refine wpList_store_blk rfl 44 _ _ rfl (wN.heap.size + 1) 44 _ (ints d) rfl rfl nB3 (by rw [ints_size, hld]; rfl) (by rw [ints_size, hld]; kernel_rfl) (ints_one _) ?_; intro w4 n1 hg2; have hk3 := keep_grown hk2 hg hn hsz; have hk4 := keep_grown hk3 hg2 (fun p hp => Nat.lt_succ_of_lt (hn p hp)) (by omega); have n2 := blk_grown n0 hg2 (by simp); have hk := keep_cons (keep_cons hk4 n1) n2; have ka := keep_at hk (show (wN.heap.size, 44, ints c) ∈ _ by simp); have kb := keep_at hk (show ((wN.heap.size + 1), 44, ints d) ∈ _ by simp)) | (refine wpList_load_row rfl 44 _ rfl wN.heap.size rfl 44 (ints c) (0, 0) _ ka Try.underlying44 rfl (by rw [ints_size, hlc]; kernel_rfl) ?_) | (refine wpList_load_row rfl 44 _ rfl (wN.heap.size + 1) rfl 44 (ints d) (0, 0) _ kb Try.underlying44 rfl (by rw [ints_size, hld]; kernel_rfl) ?_))
  clear hn hsz hk2 nA nB nB3 n0 hg hg2 hk3 hk4 n1 n2
  generalize wN.heap.size = g7 at *
  refine (c5 _).mono ?_
  rintro e wN ⟨rfl, hC⟩
  have hk1 := keep_below hk hC
  have hn := keep_lt hk1
  have hsz := hk1.2.size
  have hk2 := keep_alloc (keep_alloc hk1 (.cells #[Value.int .i64 0, Value.int .i64 0, Value.int .i64 0, Value.int .i64 0, Value.int .i64 0, Value.int .i64 0, Value.int .i64 0, Value.int .i64 0, Value.int .i64 0, Value.int .i64 0, Value.int .i64 0, Value.int .i64 0, Value.int .i64 0, Value.int .i64 0, Value.int .i64 0, Value.int .i64 0, Value.int .i64 0, Value.int .i64 0, Value.int .i64 0, Value.int .i64 0, Value.int .i64 0, Value.int .i64 0, Value.int .i64 0, Value.int .i64 0, Value.int .i64 0, Value.int .i64 0, Value.int .i64 0, Value.int .i64 0, Value.int .i64 0, Value.int .i64 0, Value.int .i64 0, Value.int .i64 0] 44)) (.cells #[Value.int .i64 0, Value.int .i64 0, Value.int .i64 0, Value.int .i64 0, Value.int .i64 0, Value.int .i64 0, Value.int .i64 0, Value.int .i64 0, Value.int .i64 0, Value.int .i64 0, Value.int .i64 0, Value.int .i64 0, Value.int .i64 0, Value.int .i64 0, Value.int .i64 0, Value.int .i64 0, Value.int .i64 0, Value.int .i64 0, Value.int .i64 0, Value.int .i64 0, Value.int .i64 0, Value.int .i64 0, Value.int .i64 0, Value.int .i64 0, Value.int .i64 0, Value.int .i64 0, Value.int .i64 0, Value.int .i64 0, Value.int .i64 0, Value.int .i64 0, Value.int .i64 0, Value.int .i64 0] 44)
  have nA := blk_alloc (blk_new wN 44 #[Value.int .i64 0, Value.int .i64 0, Value.int .i64 0, Value.int .i64 0, Value.int .i64 0, Value.int .i64 0, Value.int .i64 0, Value.int .i64 0, Value.int .i64 0, Value.int .i64 0, Value.int .i64 0, Value.int .i64 0, Value.int .i64 0, Value.int .i64 0, Value.int .i64 0, Value.int .i64 0, Value.int .i64 0, Value.int .i64 0, Value.int .i64 0, Value.int .i64 0, Value.int .i64 0, Value.int .i64 0, Value.int .i64 0, Value.int .i64 0, Value.int .i64 0, Value.int .i64 0, Value.int .i64 0, Value.int .i64 0, Value.int .i64 0, Value.int .i64 0, Value.int .i64 0, Value.int .i64 0]) (.cells #[Value.int .i64 0, Value.int .i64 0, Value.int .i64 0, Value.int .i64 0, Value.int .i64 0, Value.int .i64 0, Value.int .i64 0, Value.int .i64 0, Value.int .i64 0, Value.int .i64 0, Value.int .i64 0, Value.int .i64 0, Value.int .i64 0, Value.int .i64 0, Value.int .i64 0, Value.int .i64 0, Value.int .i64 0, Value.int .i64 0, Value.int .i64 0, Value.int .i64 0, Value.int .i64 0, Value.int .i64 0, Value.int .i64 0, Value.int .i64 0, Value.int .i64 0, Value.int .i64 0, Value.int .i64 0, Value.int .i64 0, Value.int .i64 0, Value.int .i64 0, Value.int .i64 0, Value.int .i64 0] 44)
  have nB := blk_new (wN.alloc (.cells #[Value.int .i64 0, Value.int .i64 0, Value.int .i64 0, Value.int .i64 0, Value.int .i64 0, Value.int .i64 0, Value.int .i64 0, Value.int .i64 0, Value.int .i64 0, Value.int .i64 0, Value.int .i64 0, Value.int .i64 0, Value.int .i64 0, Value.int .i64 0, Value.int .i64 0, Value.int .i64 0, Value.int .i64 0, Value.int .i64 0, Value.int .i64 0, Value.int .i64 0, Value.int .i64 0, Value.int .i64 0, Value.int .i64 0, Value.int .i64 0, Value.int .i64 0, Value.int .i64 0, Value.int .i64 0, Value.int .i64 0, Value.int .i64 0, Value.int .i64 0, Value.int .i64 0, Value.int .i64 0] 44)) 44 #[Value.int .i64 0, Value.int .i64 0, Value.int .i64 0, Value.int .i64 0, Value.int .i64 0, Value.int .i64 0, Value.int .i64 0, Value.int .i64 0, Value.int .i64 0, Value.int .i64 0, Value.int .i64 0, Value.int .i64 0, Value.int .i64 0, Value.int .i64 0, Value.int .i64 0, Value.int .i64 0, Value.int .i64 0, Value.int .i64 0, Value.int .i64 0, Value.int .i64 0, Value.int .i64 0, Value.int .i64 0, Value.int .i64 0, Value.int .i64 0, Value.int .i64 0, Value.int .i64 0, Value.int .i64 0, Value.int .i64 0, Value.int .i64 0, Value.int .i64 0, Value.int .i64 0, Value.int .i64 0]
  rw [show (wN.alloc (.cells #[Value.int .i64 0, Value.int .i64 0, Value.int .i64 0, Value.int .i64 0, Value.int .i64 0, Value.int .i64 0, Value.int .i64 0, Value.int .i64 0, Value.int .i64 0, Value.int .i64 0, Value.int .i64 0, Value.int .i64 0, Value.int .i64 0, Value.int .i64 0, Value.int .i64 0, Value.int .i64 0, Value.int .i64 0, Value.int .i64 0, Value.int .i64 0, Value.int .i64 0, Value.int .i64 0, Value.int .i64 0, Value.int .i64 0, Value.int .i64 0, Value.int .i64 0, Value.int .i64 0, Value.int .i64 0, Value.int .i64 0, Value.int .i64 0, Value.int .i64 0, Value.int .i64 0, Value.int .i64 0] 44)).heap.size = wN.heap.size + 1 by simp] at nB
  clear ka kb hk hk1 hC c5
  go_wp2_with (first | (refine wpList_store_blk rfl 44 _ _ rfl wN.heap.size 44 _ (ints a) rfl rfl nA (by rw [ints_size, hla]; rfl) (by rw [ints_size, hla]; kernel_rfl) (ints_one _) ?_; intro w3 n0 hg; have nB3 := blk_grown nB hg (by simp)) | (refine wpList_store_blk rfl 44 _ _ rfl (wN.heap.size + 1) 44 _ (ints b) rfl rfl nB3 (by rw [ints_size, hlb]; rfl) (by rw [ints_size, hlb]; kernel_rfl) (ints_one _) ?_; intro w4 n1 hg2; have hk3 := keep_grown hk2 hg hn hsz; have hk4 := keep_grown hk3 hg2 (fun p hp => Nat.lt_succ_of_lt (hn p hp)) (by omega); have n2 := blk_grown n0 hg2 (by simp); have hk := keep_cons (keep_cons hk4 n1) n2; have ka := keep_at hk (show (g5, 44, ints a) ∈ _ by simp); have kb := keep_at hk (show (g6, 44, ints b) ∈ _ by simp)) | (refine wpList_load_row rfl 44 _ rfl g5 rfl 44 (ints a) (0, 0) _ ka Try.underlying44 rfl (by rw [ints_size, hla]; kernel_rfl) ?_) | (refine wpList_load_row rfl 44 _ rfl g6 rfl 44 (ints b) (0, 0) _ kb Try.underlying44 rfl (by rw [ints_size, hlb]; kernel_rfl) ?_))
  clear hn hsz hk2 nA nB nB3 n0 hg hg2 hk3 hk4 n1 n2
  generalize wN.heap.size = g9 at *
  refine (c6 _).mono ?_
  rintro e wN ⟨rfl, hC⟩
  have hk1 := keep_below hk hC
  have hn := keep_lt hk1
  have hsz := hk1.2.size
  have hk2 := keep_alloc (keep_alloc hk1 (.cells #[Value.int .i64 0, Value.int .i64 0, Value.int .i64 0, Value.int .i64 0, Value.int .i64 0, Value.int .i64 0, Value.int .i64 0, Value.int .i64 0, Value.int .i64 0, Value.int .i64 0, Value.int .i64 0, Value.int .i64 0, Value.int .i64 0, Value.int .i64 0, Value.int .i64 0, Value.int .i64 0, Value.int .i64 0, Value.int .i64 0, Value.int .i64 0, Value.int .i64 0, Value.int .i64 0, Value.int .i64 0, Value.int .i64 0, Value.int .i64 0, Value.int .i64 0, Value.int .i64 0, Value.int .i64 0, Value.int .i64 0, Value.int .i64 0, Value.int .i64 0, Value.int .i64 0, Value.int .i64 0] 44)) (.cells #[Value.int .i64 0, Value.int .i64 0, Value.int .i64 0, Value.int .i64 0, Value.int .i64 0, Value.int .i64 0, Value.int .i64 0, Value.int .i64 0, Value.int .i64 0, Value.int .i64 0, Value.int .i64 0, Value.int .i64 0, Value.int .i64 0, Value.int .i64 0, Value.int .i64 0, Value.int .i64 0, Value.int .i64 0, Value.int .i64 0, Value.int .i64 0, Value.int .i64 0, Value.int .i64 0, Value.int .i64 0, Value.int .i64 0, Value.int .i64 0, Value.int .i64 0, Value.int .i64 0, Value.int .i64 0, Value.int .i64 0, Value.int .i64 0, Value.int .i64 0, Value.int .i64 0, Value.int .i64 0] 44)
  have nA := blk_alloc (blk_new wN 44 #[Value.int .i64 0, Value.int .i64 0, Value.int .i64 0, Value.int .i64 0, Value.int .i64 0, Value.int .i64 0, Value.int .i64 0, Value.int .i64 0, Value.int .i64 0, Value.int .i64 0, Value.int .i64 0, Value.int .i64 0, Value.int .i64 0, Value.int .i64 0, Value.int .i64 0, Value.int .i64 0, Value.int .i64 0, Value.int .i64 0, Value.int .i64 0, Value.int .i64 0, Value.int .i64 0, Value.int .i64 0, Value.int .i64 0, Value.int .i64 0, Value.int .i64 0, Value.int .i64 0, Value.int .i64 0, Value.int .i64 0, Value.int .i64 0, Value.int .i64 0, Value.int .i64 0, Value.int .i64 0]) (.cells #[Value.int .i64 0, Value.int .i64 0, Value.int .i64 0, Value.int .i64 0, Value.int .i64 0, Value.int .i64 0, Value.int .i64 0, Value.int .i64 0, Value.int .i64 0, Value.int .i64 0, Value.int .i64 0, Value.int .i64 0, Value.int .i64 0, Value.int .i64 0, Value.int .i64 0, Value.int .i64 0, Value.int .i64 0, Value.int .i64 0, Value.int .i64 0, Value.int .i64 0, Value.int .i64 0, Value.int .i64 0, Value.int .i64 0, Value.int .i64 0, Value.int .i64 0, Value.int .i64 0, Value.int .i64 0, Value.int .i64 0, Value.int .i64 0, Value.int .i64 0, Value.int .i64 0, Value.int .i64 0] 44)
  have nB := blk_new (wN.alloc (.cells #[Value.int .i64 0, Value.int .i64 0, Value.int .i64 0, Value.int .i64 0, Value.int .i64 0, Value.int .i64 0, Value.int .i64 0, Value.int .i64 0, Value.int .i64 0, Value.int .i64 0, Value.int .i64 0, Value.int .i64 0, Value.int .i64 0, Value.int .i64 0, Value.int .i64 0, Value.int .i64 0, Value.int .i64 0, Value.int .i64 0, Value.int .i64 0, Value.int .i64 0, Value.int .i64 0, Value.int .i64 0, Value.int .i64 0, Value.int .i64 0, Value.int .i64 0, Value.int .i64 0, Value.int .i64 0, Value.int .i64 0, Value.int .i64 0, Value.int .i64 0, Value.int .i64 0, Value.int .i64 0] 44)) 44 #[Value.int .i64 0, Value.int .i64 0, Value.int .i64 0, Value.int .i64 0, Value.int .i64 0, Value.int .i64 0, Value.int .i64 0, Value.int .i64 0, Value.int .i64 0, Value.int .i64 0, Value.int .i64 0, Value.int .i64 0, Value.int .i64 0, Value.int .i64 0, Value.int .i64 0, Value.int .i64 0, Value.int .i64 0, Value.int .i64 0, Value.int .i64 0, Value.int .i64 0, Value.int .i64 0, Value.int .i64 0, Value.int .i64 0, Value.int .i64 0, Value.int .i64 0, Value.int .i64 0, Value.int .i64 0, Value.int .i64 0, Value.int .i64 0, Value.int .i64 0, Value.int .i64 0, Value.int .i64 0]
  rw [show (wN.alloc (.cells #[Value.int .i64 0, Value.int .i64 0, Value.int .i64 0, Value.int .i64 0, Value.int .i64 0, Value.int .i64 0, Value.int .i64 0, Value.int .i64 0, Value.int .i64 0, Value.int .i64 0, Value.int .i64 0, Value.int .i64 0, Value.int .i64 0, Value.int .i64 0, Value.int .i64 0, Value.int .i64 0, Value.int .i64 0, Value.int .i64 0, Value.int .i64 0, Value.int .i64 0, Value.int .i64 0, Value.int .i64 0, Value.int .i64 0, Value.int .i64 0, Value.int .i64 0, Value.int .i64 0, Value.int .i64 0, Value.int .i64 0, Value.int .i64 0, Value.int .i64 0, Value.int .i64 0, Value.int .i64 0] 44)).heap.size = wN.heap.size + 1 by simp] at nB
  clear ka kb hk hk1 hC c6
  go_wp2_with (first | (refine wpList_store_blk rfl 44 _ _ rfl wN.heap.size 44 _ (ints p) rfl rfl nA (by rw [ints_size, hlp]; rfl) (by rw [ints_size, hlp]; kernel_rfl) (ints_one _) ?_; intro w3 n0 hg; have nB3 := blk_grown nB hg (by simp)) | (refine wpList_store_blk rfl 44 _ _ rfl (wN.heap.size + 1) 44 _ (ints q) rfl rfl nB3 (by rw [ints_size, hlq]; rfl) (by rw [ints_size, hlq]; kernel_rfl) (ints_one _) ?_; intro w4 n1 hg2; have hk3 := keep_grown hk2 hg hn hsz; have hk4 := keep_grown hk3 hg2 (fun p hp => Nat.lt_succ_of_lt (hn p hp)) (by omega); have n2 := blk_grown n0 hg2 (by simp); have hk := keep_cons (keep_cons hk4 n1) n2; have ka := keep_at hk (show (wN.heap.size, 44, ints p) ∈ _ by simp); have kb := keep_at hk (show ((wN.heap.size + 1), 44, ints q) ∈ _ by simp)) | (refine wpList_load_row rfl 44 _ rfl wN.heap.size rfl 44 (ints p) (0, 0) _ ka Try.underlying44 rfl (by rw [ints_size, hlp]; kernel_rfl) ?_) | (refine wpList_load_row rfl 44 _ rfl (wN.heap.size + 1) rfl 44 (ints q) (0, 0) _ kb Try.underlying44 rfl (by rw [ints_size, hlq]; kernel_rfl) ?_))
  clear hn hsz hk2 nA nB nB3 n0 hg hg2 hk3 hk4 n1 n2
  generalize wN.heap.size = g11 at *
  refine (c7 _).mono ?_
  rintro e wN ⟨rfl, hC⟩
  have hk1 := keep_below hk hC
  have hn := keep_lt hk1
  have hsz := hk1.2.size
  have hk2 := keep_alloc (keep_alloc hk1 (.cells #[Value.int .i64 0, Value.int .i64 0, Value.int .i64 0, Value.int .i64 0, Value.int .i64 0, Value.int .i64 0, Value.int .i64 0, Value.int .i64 0, Value.int .i64 0, Value.int .i64 0, Value.int .i64 0, Value.int .i64 0, Value.int .i64 0, Value.int .i64 0, Value.int .i64 0, Value.int .i64 0, Value.int .i64 0, Value.int .i64 0, Value.int .i64 0, Value.int .i64 0, Value.int .i64 0, Value.int .i64 0, Value.int .i64 0, Value.int .i64 0, Value.int .i64 0, Value.int .i64 0, Value.int .i64 0, Value.int .i64 0, Value.int .i64 0, Value.int .i64 0, Value.int .i64 0, Value.int .i64 0] 44)) (.cells #[Value.int .i64 0, Value.int .i64 0, Value.int .i64 0, Value.int .i64 0, Value.int .i64 0, Value.int .i64 0, Value.int .i64 0, Value.int .i64 0, Value.int .i64 0, Value.int .i64 0, Value.int .i64 0, Value.int .i64 0, Value.int .i64 0, Value.int .i64 0, Value.int .i64 0, Value.int .i64 0, Value.int .i64 0, Value.int .i64 0, Value.int .i64 0, Value.int .i64 0, Value.int .i64 0, Value.int .i64 0, Value.int .i64 0, Value.int .i64 0, Value.int .i64 0, Value.int .i64 0, Value.int .i64 0, Value.int .i64 0, Value.int .i64 0, Value.int .i64 0, Value.int .i64 0, Value.int .i64 0] 44)
  have nA := blk_alloc (blk_new wN 44 #[Value.int .i64 0, Value.int .i64 0, Value.int .i64 0, Value.int .i64 0, Value.int .i64 0, Value.int .i64 0, Value.int .i64 0, Value.int .i64 0, Value.int .i64 0, Value.int .i64 0, Value.int .i64 0, Value.int .i64 0, Value.int .i64 0, Value.int .i64 0, Value.int .i64 0, Value.int .i64 0, Value.int .i64 0, Value.int .i64 0, Value.int .i64 0, Value.int .i64 0, Value.int .i64 0, Value.int .i64 0, Value.int .i64 0, Value.int .i64 0, Value.int .i64 0, Value.int .i64 0, Value.int .i64 0, Value.int .i64 0, Value.int .i64 0, Value.int .i64 0, Value.int .i64 0, Value.int .i64 0]) (.cells #[Value.int .i64 0, Value.int .i64 0, Value.int .i64 0, Value.int .i64 0, Value.int .i64 0, Value.int .i64 0, Value.int .i64 0, Value.int .i64 0, Value.int .i64 0, Value.int .i64 0, Value.int .i64 0, Value.int .i64 0, Value.int .i64 0, Value.int .i64 0, Value.int .i64 0, Value.int .i64 0, Value.int .i64 0, Value.int .i64 0, Value.int .i64 0, Value.int .i64 0, Value.int .i64 0, Value.int .i64 0, Value.int .i64 0, Value.int .i64 0, Value.int .i64 0, Value.int .i64 0, Value.int .i64 0, Value.int .i64 0, Value.int .i64 0, Value.int .i64 0, Value.int .i64 0, Value.int .i64 0] 44)
  have nB := blk_new (wN.alloc (.cells #[Value.int .i64 0, Value.int .i64 0, Value.int .i64 0, Value.int .i64 0, Value.int .i64 0, Value.int .i64 0, Value.int .i64 0, Value.int .i64 0, Value.int .i64 0, Value.int .i64 0, Value.int .i64 0, Value.int .i64 0, Value.int .i64 0, Value.int .i64 0, Value.int .i64 0, Value.int .i64 0, Value.int .i64 0, Value.int .i64 0, Value.int .i64 0, Value.int .i64 0, Value.int .i64 0, Value.int .i64 0, Value.int .i64 0, Value.int .i64 0, Value.int .i64 0, Value.int .i64 0, Value.int .i64 0, Value.int .i64 0, Value.int .i64 0, Value.int .i64 0, Value.int .i64 0, Value.int .i64 0] 44)) 44 #[Value.int .i64 0, Value.int .i64 0, Value.int .i64 0, Value.int .i64 0, Value.int .i64 0, Value.int .i64 0, Value.int .i64 0, Value.int .i64 0, Value.int .i64 0, Value.int .i64 0, Value.int .i64 0, Value.int .i64 0, Value.int .i64 0, Value.int .i64 0, Value.int .i64 0, Value.int .i64 0, Value.int .i64 0, Value.int .i64 0, Value.int .i64 0, Value.int .i64 0, Value.int .i64 0, Value.int .i64 0, Value.int .i64 0, Value.int .i64 0, Value.int .i64 0, Value.int .i64 0, Value.int .i64 0, Value.int .i64 0, Value.int .i64 0, Value.int .i64 0, Value.int .i64 0, Value.int .i64 0]
  rw [show (wN.alloc (.cells #[Value.int .i64 0, Value.int .i64 0, Value.int .i64 0, Value.int .i64 0, Value.int .i64 0, Value.int .i64 0, Value.int .i64 0, Value.int .i64 0, Value.int .i64 0, Value.int .i64 0, Value.int .i64 0, Value.int .i64 0, Value.int .i64 0, Value.int .i64 0, Value.int .i64 0, Value.int .i64 0, Value.int .i64 0, Value.int .i64 0, Value.int .i64 0, Value.int .i64 0, Value.int .i64 0, Value.int .i64 0, Value.int .i64 0, Value.int .i64 0, Value.int .i64 0, Value.int .i64 0, Value.int .i64 0, Value.int .i64 0, Value.int .i64 0, Value.int .i64 0, Value.int .i64 0, Value.int .i64 0] 44)).heap.size = wN.heap.size + 1 by simp] at nB
  clear ka kb hk hk1 hC c7
  go_wp2_with (first | (refine wpList_store_blk rfl 44 _ _ rfl wN.heap.size 44 _ (ints a) rfl rfl nA (by rw [ints_size, hla]; rfl) (by rw [ints_size, hla]; kernel_rfl) (ints_one _) ?_; intro w3 n0 hg; have nB3 := blk_grown nB hg (by simp)) | (refine wpList_store_blk rfl 44 _ _ rfl (wN.heap.size + 1) 44 _ (ints b) rfl rfl nB3 (by rw [ints_size, hlb]; rfl) (by rw [ints_size, hlb]; kernel_rfl) (ints_one _) ?_; intro w4 n1 hg2; have hk3 := keep_grown hk2 hg hn hsz; have hk4 := keep_grown hk3 hg2 (fun p hp => Nat.lt_succ_of_lt (hn p hp)) (by omega); have n2 := blk_grown n0 hg2 (by simp); have hk := keep_cons (keep_cons hk4 n1) n2))
  clear hn hsz hk2 nA nB nB3 n0 hg hg2 hk3 hk4 n1 n2
  generalize wN.heap.size = g13 at *
  have K := Lib.hid hk
  clear hk hu
  go_loopg [15] 16 (fun gg s15 wr => ∃ kk : Nat, kk ≤ 16 ∧ 16 - kk ≤ gg ∧ s15 = .int .i64 kk ∧ Aside (Keep w [(g13, 44, ints a), ((g13 + 1), 44, ints b), (g11, 44, ints p), ((g11 + 1), 44, ints q), (g9, 44, ints a), ((g9 + 1), 44, ints b), (g7, 44, ints c), ((g7 + 1), 44, ints d), (g5, 44, ints a), (g6, 44, ints b)] wr))
  case atStart => exact ⟨0, Nat.zero_le _, by omega, rfl, K.out⟩
  case round =>
    clear K
    obtain ⟨kk, hkk, hgk, rfl, K⟩ := hrel
    have k5 := keep_at K.out (show (g5, 44, ints a) ∈ _ by simp)
    have k6 := keep_at K.out (show (g6, 44, ints b) ∈ _ by simp)
    have k7 := keep_at K.out (show (g7, 44, ints c) ∈ _ by simp)
    have k8 := keep_at K.out (show ((g7 + 1), 44, ints d) ∈ _ by simp)
    have k9 := keep_at K.out (show (g9, 44, ints a) ∈ _ by simp)
    have k10 := keep_at K.out (show ((g9 + 1), 44, ints b) ∈ _ by simp)
    have k13 := keep_at K.out (show (g13, 44, ints a) ∈ _ by simp)
    have k14 := keep_at K.out (show ((g13 + 1), 44, ints b) ∈ _ by simp)
    by_cases hlt : kk < 16
    · have hltz : (kk : Int) < 16 := by omega
      have hk0 : 0 ≤ (kk : Int) := by omega
      have hk1 : (kk : Int) < 32 := by omega
      have hk2 : 0 ≤ 31 - (kk : Int) := by omega
      have hk3 : 31 - (kk : Int) < 32 := by omega
      have hk4 : (31 - (kk : Int)).toNat = 31 - kk := by omega
      have hk5 : (kk : Int) ≤ 31 := by omega
      have hk6 : 31 < 32 + (kk : Int) := by omega
      have hw1 : IntKind.i64.wrap (31 - (kk : Int)) = 31 - kk := IntWalk.i64_in _ ⟨by omega, by omega⟩
      have d5 := blk_int k5 (i := kk) (by omega)
      have d7 := blk_int k7 (i := kk) (by omega)
      have d6 := blk_int k6 (i := 31 - kk) (by omega)
      have d8 := blk_int k8 (i := 31 - kk) (by omega)
      rw [HLO.out kk hlt] at d7
      rw [HHI.out (31 - kk) (by omega) (by omega)] at d8
      generalize a.getD kk 0 = x at *
      generalize b.getD (31 - kk) 0 = y at *
      clear k5 k6 k7 k8 k9 k10 k13 k14
      go_wp2_with fail
      go_quiet (fail)
      have KK := Lib.hid (keep_draws K.out nq)
      clear K d5 d6 d7 d8 hw1 hk4
      go_wp2_with fail
      go_roundg (16 - (kk + 1))
      case measure => omega
      case rel => exact ⟨kk + 1, by omega, by omega, by go_num, KK.out⟩
    · have hltz : ¬ (kk : Int) < 16 := by omega
      have ea := EA.out
      have eb := EB.out
      have hE := K.out.2
      clear k7 k8 K
      go_wp2_with (first | (refine wpList_load_wanted (by rfl) 44 _ rfl g9 rfl 44 a _ k9 Try.underlying44 rfl (by rw [hla]; kernel_rfl) ?_) | (refine wpList_load_wanted (by rfl) 44 _ rfl g5 rfl 44 a _ k5 Try.underlying44 rfl (by rw [hla]; kernel_rfl) ?_) | (refine wpList_load_wanted (by rfl) 44 _ rfl (g9 + 1) rfl 44 b _ k10 Try.underlying44 rfl (by rw [hlb]; kernel_rfl) ?_) | (refine wpList_load_wanted (by rfl) 44 _ rfl g6 rfl 44 b _ k6 Try.underlying44 rfl (by rw [hlb]; kernel_rfl) ?_) | (refine wpList_load_wanted (by rfl) 44 _ rfl g13 rfl 44 a _ k13 Try.underlying44 rfl (by rw [hla]; kernel_rfl) ?_) | (refine wpList_load_wanted (by rfl) 44 _ rfl (g13 + 1) rfl 44 b _ k14 Try.underlying44 rfl (by rw [hlb]; kernel_rfl) ?_))
      go_ret
      exact ⟨rfl, hE⟩
end Go.Proofs.Ytlfiaaoegeodnaa
