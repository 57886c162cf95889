/- The contract of lap.Samples. -/
import Derived.Test.YtlfiaaoegeodnaaLapC
namespace Go.Proofs.Ytlfiaaoegeodnaa
open Go.RowKit
attribute [local go_sem ↓] Go.wp_at_zero Go.wp_at_succ

set_option maxRecDepth 100000 in
set_option maxHeartbeats 8000000 in
theorem samples_calls (g0 n c : Nat) (fs : List (List Int)) (w : World) (hn : 0 < n) (hn2 : n ≤ 5000) (hfl : fs.length = n) (h32 : All32 fs) (hin : ∀ i, AllIn 16777216 (fs.getD i [])) (h : BlkP w g0 44 (flat fs)) :
    Calls Try.prog 57 #[.slice (some ⟨g0, 0, none⟩) n c] w fun e w' => ∃ g' c', e = .returned (.slice (some ⟨g', 0, none⟩) (32 * n) c') ∧ BlkP w' g' 3 (samplesL fs) ∧ Below w.heap.size w w' := by
  have hc := clone_calls g0 n c (flat fs) w hn (by omega) (by rw [flat_len, hfl]; omega) h
  have H32 := Lib.hid h32
  have HIN := Lib.hid hin
  have HSL := Lib.hid (show samplesL fs = flat (seamTo unseam1 unseam2 (fs.map dbackL) (n - 1)) by unfold samplesL; rw [hfl])
  clear h h32 hin
  go_enter Try.func57, Try.ntmps57
  go_wp2_with fail
  refine hc.mono ?_
  rintro e w1 ⟨gc, cc, rfl, hgc, hP, hE⟩
  have B0 := Lib.hid hE
  have K0 := Lib.hid hP
  clear hc hP hE
  go_wp2_with fail
  go_loopg [14] n (fun gg s14 wr => ∃ kk : Nat, kk ≤ n ∧ n - kk ≤ gg ∧ s14 = .int .i64 kk ∧ Aside (Below w.heap.size w wr) ∧ Aside (BlkP wr gc 44 (flat (eachTo dbackL fs kk))))
  case atStart => exact ⟨0, Nat.zero_le _, by omega, rfl, B0.out, by rw [eachTo_zero]; exact K0.out⟩
  case round =>
    clear B0 K0
    obtain ⟨kk, hkk, hgk, rfl, B, K0⟩ := hrel
    by_cases hlt : kk < n
    · have hltz : (kk : Int) < (n : Int) := by omega
      have hk0 : 0 ≤ (kk : Int) := by omega
      have hel := eachTo_len dbackL fs kk
      have hfk := eachTo_get dbackL (fs := fs) (k := kk) (i := kk) (by omega)
      rw [if_neg (by omega)] at hfk
      have hf0 := H32.out kk (by omega)
      have hr0 := frameP_range (o := kk * 32) K0.out (i := kk) (by omega) (by rw [hfk]; exact hf0) rfl
      rw [hfk] at hr0
      have hin := HIN.out kk
      have cw := fun W => dback_of hf0 (allIn_mono hin (by omega)) W
      have hlx := (dbackL_len (fs.getD kk [])).trans hf0
      have HSU := Lib.hid (eachTo_succ dbackL (fs := fs) (k := kk) (by omega))
      have hgr := greatL_in.2 hin
      have hai := allIn_i64 hin
      generalize dbackL (fs.getD kk []) = x at *
      generalize fs.getD kk [] = f0 at *
      have HAI := Lib.hid hai
      have HGR := Lib.hid hgr
      clear hfk hin hai hgr
      have nn := blk_new wr 44 #[Value.int .i64 0, Value.int .i64 0, Value.int .i64 0, Value.int .i64 0, Value.int .i64 0, Value.int .i64 0, Value.int .i64 0, Value.int .i64 0, Value.int .i64 0, Value.int .i64 0, Value.int .i64 0, Value.int .i64 0, Value.int .i64 0, Value.int .i64 0, Value.int .i64 0, Value.int .i64 0, Value.int .i64 0, Value.int .i64 0, Value.int .i64 0, Value.int .i64 0, Value.int .i64 0, Value.int .i64 0, Value.int .i64 0, Value.int .i64 0, Value.int .i64 0, Value.int .i64 0, Value.int .i64 0, Value.int .i64 0, Value.int .i64 0, Value.int .i64 0, Value.int .i64 0, Value.int .i64 0]
      have hsz := B.out.size
      have hlc := blkP_lt K0.out
      have HR0 := Lib.hid hr0
      clear hr0
      go_wp2_with (first | (refine wpList_load_mid rfl 44 _ rfl gc (kk * 32) rfl (f0.map (Value.int .i64)) _ HR0.out Try.underlying44 rfl (by rw [List.length_map, hf0]; kernel_rfl) ?_) | (refine wpList_store_blk rfl 44 _ _ rfl wr.heap.size 44 _ (ints f0) rfl rfl nn (by rw [ints_size, hf0]; rfl) (by rw [ints_size, hf0]; kernel_rfl) (ints_one _) ?_; intro w3 n0 hg))
      have B3 := below_grown (B.out.alloc hsz (.cells #[Value.int .i64 0, Value.int .i64 0, Value.int .i64 0, Value.int .i64 0, Value.int .i64 0, Value.int .i64 0, Value.int .i64 0, Value.int .i64 0, Value.int .i64 0, Value.int .i64 0, Value.int .i64 0, Value.int .i64 0, Value.int .i64 0, Value.int .i64 0, Value.int .i64 0, Value.int .i64 0, Value.int .i64 0, Value.int .i64 0, Value.int .i64 0, Value.int .i64 0, Value.int .i64 0, Value.int .i64 0, Value.int .i64 0, Value.int .i64 0, Value.int .i64 0, Value.int .i64 0, Value.int .i64 0, Value.int .i64 0, Value.int .i64 0, Value.int .i64 0, Value.int .i64 0, Value.int .i64 0] 44)) hg (by simp; omega) hsz
      have K3 := blkP_grown (blkP_alloc K0.out (.cells #[Value.int .i64 0, Value.int .i64 0, Value.int .i64 0, Value.int .i64 0, Value.int .i64 0, Value.int .i64 0, Value.int .i64 0, Value.int .i64 0, Value.int .i64 0, Value.int .i64 0, Value.int .i64 0, Value.int .i64 0, Value.int .i64 0, Value.int .i64 0, Value.int .i64 0, Value.int .i64 0, Value.int .i64 0, Value.int .i64 0, Value.int .i64 0, Value.int .i64 0, Value.int .i64 0, Value.int .i64 0, Value.int .i64 0, Value.int .i64 0, Value.int .i64 0, Value.int .i64 0, Value.int .i64 0, Value.int .i64 0, Value.int .i64 0, Value.int .i64 0, Value.int .i64 0, Value.int .i64 0] 44)) hg (by simp; omega)
      clear nn hg B K0 HR0
      generalize wr.heap.size = gb at *
      refine wp_region_held_drew (S := (fun _ => True)) (by kernel_rfl) trivial (fun hHeld => ?_)
      refine wpAnyH_take (i := 0) (oi := ⟨_, _, _, _, _, _⟩) (v := ?_) rfl (by kernel_rfl) (by kernel_rfl) (by kernel_rfl) (fun _ _ _ h => h) (Or.inl ⟨by rfl, ?_⟩) (by assumption) ?_
      rotate_left
      · intro W hSw
        try dsimp only at hSw
        go_simp
        try with_reducible rfl
      try simp only [Act.put, List.setIfInBounds_toArray, List.set_cons_zero, List.set_cons_succ]
      have n1 := blk_drew n0
      have B4 := B3.drew
      have K4 := blkP_drew K3
      clear n0 B3 K3
      generalize w3.drew = w4 at *
      refine wpAnyH_ready (rs := [1]) (by kernel_rfl) (by simp) ?_
      refine AllReadyH.cons (o := ⟨_, _, _, _, _, _⟩) rfl (fun K hK => ?_) AllReadyH.nil
      go_simp
      refine (lgreat_calls _ _).mono ?_
      rintro e w' ⟨rfl, rfl⟩
      go_simp
      refine hK.out _ _ trivial (fun hHeld => ?_)
      clear hK K
      try simp only [Act.put, List.setIfInBounds_toArray, List.set_cons_zero, List.set_cons_succ]
      have hcf := lcontains 16777216 (some ⟨gb, 0, none⟩) 32 32 f0 w4 (by omega) (by omega) hf0 (by omega) (slA_blk n1) HAI.out
      rw [show (f0.any fun x => decide (x < -16777216) || decide (16777216 < x)) = false from HGR.out] at hcf
      refine wpAnyH_ready (rs := [2]) (by kernel_rfl) (by simp) ?_
      refine AllReadyH.cons (o := ⟨_, _, _, _, _, _⟩) rfl (fun K hK => ?_) AllReadyH.nil
      go_simp
      refine hcf.mono ?_
      rintro e w5 ⟨rfl, hC⟩
      go_simp
      refine hK.out _ _ trivial (fun hHeld => ?_)
      clear hK K
      try simp only [Act.put, List.setIfInBounds_toArray, List.set_cons_zero, List.set_cons_succ]
      refine wpAnyH_done (by kernel_rfl) ?_ _
      have hA := (Below.refl _ w4).alloc (Nat.le_refl _) (.cells #[.int .i64 16777216] 3)
      have hC2 := bnext hA hC
      have n2 := blk_below n1 hC2 (blk_lt n1)
      have B5 := bnext B4 hC2
      have K5 := blkP_below K4 hC2 (blkP_lt K4)
      clear hcf hA hC hC2 n1 B4 K4
      go_wp2_with (first | (refine wpList_load_row rfl 44 _ rfl gb rfl 44 (ints f0) (0, 0) _ n2 Try.underlying44 rfl (by rw [ints_size, hf0]; kernel_rfl) ?_))
      refine (cw _).mono ?_
      rintro e w6 ⟨rfl, hC⟩
      have m0 := blkP_below K5 hC (blkP_lt K5)
      have m4 := bnext B5 hC
      clear hC K5 B5 cw n2
      have hs4 := m4.size
      go_wp2_with (first | (refine wpList_store_mid rfl 44 _ _ rfl gc (kk * 32) (ints x) rfl rfl (by rw [ints_size, hlx]; exact frameP_there m0 (by omega) rfl) (by rw [ints_size, hlx]; kernel_rfl) (ints_one _) ?_))
      have k1 := frameP_store (i := kk) m0 (by omega) hlx rfl
      have m5 := Lib.hid (below_grown m4 k1.2 hs4 hgc)
      have m1 := k1.1
      rw [HSU.out] at m1
      have m2 := Lib.hid m1
      clear m0 m4 k1 hs4 m1
      go_wp2_with fail
      go_roundg (n - (kk + 1))
      case measure => omega
      case rel => exact ⟨kk + 1, by omega, by omega, by go_num, m5.out, m2.out⟩
    · have hltz : ¬ (kk : Int) < (n : Int) := by omega
      obtain rfl : n = kk := by omega
      have K1 := K0.out
      rw [eachTo_all dbackL hfl] at K1
      have K2 := Lib.hid K1
      have hA1 := HalfA2
      have hB1 := HalfB2
      have hfl2 : (fs.map dbackL).length = n := by rw [List.length_map, hfl]
      have h32' : All32 (fs.map dbackL) := by
        intro i hi
        rw [hfl2] at hi
        rw [← eachTo_all dbackL hfl, eachTo_get dbackL (by omega), if_pos hi, dbackL_len]
        exact H32.out i (by omega)
      have hin' : ∀ i, AllIn 1073741824 ((fs.map dbackL).getD i []) := by
        intro i
        rcases Nat.lt_or_ge i n with hi | hi
        · rw [← eachTo_all dbackL hfl, eachTo_get dbackL (by omega), if_pos hi]
          exact (waves_in (H32.out i (by omega)) (HIN.out i)).2
        · rw [List.getD_eq_getElem?_getD, List.getElem?_eq_none (by omega)]
          intro z hz
          simp at hz
      have H33 := Lib.hid h32'
      have HIM := Lib.hid hin'
      clear K0 K1 hltz hgk hkk h32' hin' H32 HIN
      generalize fs.map dbackL = gs at *
      have hmx : max ((n : Int) - 1) 0 = n - 1 := by omega
      go_wp2_with fail
      go_loopg [33] (n - 1) (fun gg s33 wr => ∃ k2 : Nat, k2 ≤ n - 1 ∧ n - 1 - k2 ≤ gg ∧ s33 = .int .i64 k2 ∧ Aside (Below w.heap.size w wr) ∧ Aside (BlkP wr gc 44 (flat (seamTo unseam1 unseam2 gs k2))))
      case atStart => exact ⟨0, Nat.zero_le _, by omega, rfl, B.out, K2.out⟩
      case round =>
        clear K2 B hmx
        obtain ⟨kk, hkk, hgk, rfl, B, K0⟩ := hrel
        by_cases hlt : kk < n - 1
        · have hltz : (kk : Int) < (n : Int) - 1 := by omega
          have hk0 : 0 ≤ (kk : Int) := by omega
          have hk1 : (kk : Int) < n := by omega
          have hk2 : 0 ≤ (kk : Int) + 1 := by omega
          have hk3 : (kk : Int) + 1 < n := by omega
          have hk4 : ((kk : Int) + 1).toNat = kk + 1 := by omega
          have hw1 : IntKind.i64.wrap ((kk : Int) + 1) = kk + 1 := IntWalk.i64_in _ ⟨by omega, by omega⟩
          have hst : seamTo unseam1 unseam2 gs (kk + 1) = ((seamTo unseam1 unseam2 gs kk).set kk (unseam1 ((seamTo unseam1 unseam2 gs kk).getD kk []) ((seamTo unseam1 unseam2 gs kk).getD (kk + 1) []))).set (kk + 1) (unseam2 ((seamTo unseam1 unseam2 gs kk).getD kk []) ((seamTo unseam1 unseam2 gs kk).getD (kk + 1) [])) := rfl
          have hal := seamTo_all hA1 hB1 H33.out (k := kk) (by omega)
          have hsl := seamTo_len unseam1 unseam2 gs kk
          rw [hfl2] at hsl
          have hf0 := hal kk (by omega)
          have hf1 := hal (kk + 1) (by omega)
          have hi0 := seamed_in (by omega) HIM.out (fun a b => unseam1_in (by omega) a b) (fun a b => unseam2_in (by omega) a b) kk kk
          have hi1 := seamed_in (by omega) HIM.out (fun a b => unseam1_in (by omega) a b) (fun a b => unseam2_in (by omega) a b) kk (kk + 1)
          rw [← seams_is hA1 hB1 H33.out (by omega) (by omega)] at hi0 hi1
          have hr0 := frameP_range (o := kk * 32) (blkP_drew K0.out) (by omega) hf0 rfl
          have hr1 := frameP_range (o := (kk + 1) * 32) (blkP_drew K0.out) (by omega) hf1 rfl
          have hlx := unseam1_len ((seamTo unseam1 unseam2 gs kk).getD kk []) ((seamTo unseam1 unseam2 gs kk).getD (kk + 1) [])
          have hly := unseam2_len ((seamTo unseam1 unseam2 gs kk).getD kk []) ((seamTo unseam1 unseam2 gs kk).getD (kk + 1) [])
          have ct := fun W => unseam_calls _ _ W hf0 hf1 (allIn_mono hi0 (by omega)) (allIn_mono hi1 (by omega))
          rw [hf0] at hlx
          rw [hf1] at hly
          have HST := Lib.hid hst
          clear hst hi0 hi1 hal
          generalize hT : seamTo unseam1 unseam2 gs kk = T at *
          change ∀ W, Calls _ _ #[.agg (ints (T.getD kk [])), .agg (ints (T.getD (kk + 1) []))] W (fun e w' => e = .returned (.tuple #[.agg (ints (unseam1 (T.getD kk []) (T.getD (kk + 1) []))), .agg (ints (unseam2 (T.getD kk []) (T.getD (kk + 1) [])))]) ∧ Below W.heap.size W w') at ct
          generalize unseam1 (T.getD kk []) (T.getD (kk + 1) []) = x at *
          generalize unseam2 (T.getD kk []) (T.getD (kk + 1) []) = y at *
          generalize T.getD kk [] = f0 at *
          generalize T.getD (kk + 1) [] = f1 at *
          have hu := Try.underlying44
          have hi0 : (Try.prog.info? 44).map (·.size) = some (f0.map (Value.int .i64)).length := by rw [List.length_map, hf0]; kernel_rfl
          have hi1 : (Try.prog.info? 44).map (·.size) = some (f1.map (Value.int .i64)).length := by rw [List.length_map, hf1]; kernel_rfl
          clear hT
          simp only [ints] at ct
          go_wp2_with fail
          refine wp_region_held_drew (S := (fun _ => True)) (by kernel_rfl) trivial (fun hHeld => ?_)
          refine wpAnyH_take (i := 0) (oi := ⟨_, _, _, _, _, _⟩) (v := ?_) rfl (by kernel_rfl) (by kernel_rfl) (by kernel_rfl) (fun _ _ _ h => h) (Or.inl ⟨by rfl, ?_⟩) (by assumption) ?_
          rotate_left
          · intro W hSw
            try dsimp only at hSw
            go_simp
            try with_reducible rfl
          try simp only [Act.put, List.setIfInBounds_toArray, List.set_cons_zero, List.set_cons_succ]
          refine wpAnyH_take (i := 1) (oi := ⟨_, _, _, _, _, _⟩) (v := ?_) rfl (by kernel_rfl) (by kernel_rfl) (by kernel_rfl) (fun _ _ _ h => h) (Or.inl ⟨by rfl, ?_⟩) (by assumption) ?_
          rotate_left
          · intro W hSw
            try dsimp only at hSw
            go_simp
            try with_reducible rfl
          try simp only [Act.put, List.setIfInBounds_toArray, List.set_cons_zero, List.set_cons_succ]
          refine wpAnyH_take (i := 2) (oi := ⟨_, _, _, _, _, _⟩) (v := ?_) rfl (by kernel_rfl) (by kernel_rfl) (by kernel_rfl) (fun _ _ _ h => h) (Or.inl ⟨by rfl, ?_⟩) (by assumption) ?_
          rotate_left
          · intro W hSw
            try dsimp only at hSw
            go_simp
            try with_reducible rfl
          try simp only [Act.put, List.setIfInBounds_toArray, List.set_cons_zero, List.set_cons_succ]
          refine wpAnyH_take (i := 3) (oi := ⟨_, _, _, _, _, _⟩) (v := ?_) rfl (by kernel_rfl) (by kernel_rfl) (by kernel_rfl) (fun _ _ _ h => h) (Or.inl ⟨by rfl, ?_⟩) (by assumption) ?_
          rotate_left
          · intro W hSw
            try dsimp only at hSw
            go_simp
            try with_reducible rfl
          try simp only [Act.put, List.setIfInBounds_toArray, List.set_cons_zero, List.set_cons_succ]
          refine wpAnyH_take (i := 4) (oi := ⟨_, _, _, _, _, _⟩) (v := ?_) rfl (by kernel_rfl) (by kernel_rfl) (by kernel_rfl) (fun _ _ _ h => h) (Or.inl ⟨by rfl, ?_⟩) (by assumption) ?_
          rotate_left
          · intro W hSw
            try dsimp only at hSw
            go_simp
            try with_reducible rfl
          try simp only [Act.put, List.setIfInBounds_toArray, List.set_cons_zero, List.set_cons_succ]
          refine wpAnyH_take (i := 5) (oi := ⟨_, _, _, _, _, _⟩) (v := ?_) rfl (by kernel_rfl) (by kernel_rfl) (by kernel_rfl) (fun _ _ _ h => h) (Or.inl ⟨by rfl, ?_⟩) (by assumption) ?_
          rotate_left
          · intro W hSw
            try dsimp only at hSw
            go_simp
            try with_reducible rfl
          try simp only [Act.put, List.setIfInBounds_toArray, List.set_cons_zero, List.set_cons_succ]
          refine wpAnyH_take (i := 6) (oi := ⟨_, _, _, _, _, _⟩) (v := ?_) rfl (by kernel_rfl) (by kernel_rfl) (by kernel_rfl) (fun _ _ _ h => h) (Or.inl ⟨by rfl, ?_⟩) (by assumption) ?_
          rotate_left
          · intro W hSw
            try dsimp only at hSw
            go_simp
            try with_reducible rfl
          try simp only [Act.put, List.setIfInBounds_toArray, List.set_cons_zero, List.set_cons_succ]
          refine wpAnyH_take (i := 7) (oi := ⟨_, _, _, _, _, _⟩) (v := ?_) rfl (by kernel_rfl) (by kernel_rfl) (by kernel_rfl) (fun _ _ _ h => h) (Or.inl ⟨by rfl, ?_⟩) (by assumption) ?_
          rotate_left
          · intro W hSw
            try dsimp only at hSw
            go_simp
            try with_reducible rfl
          try simp only [Act.put, List.setIfInBounds_toArray, List.set_cons_zero, List.set_cons_succ]
          refine wpAnyH_take (i := 9) (oi := ⟨_, _, _, _, _, _⟩) (v := ?_) rfl (by kernel_rfl) (by kernel_rfl) (by kernel_rfl) (fun _ _ _ h => h) (Or.inl ⟨by rfl, ?_⟩) (by assumption) ?_
          rotate_left
          · intro W hSw
            try dsimp only at hSw
            go_simp
            try with_reducible rfl
          try simp only [Act.put, List.setIfInBounds_toArray, List.set_cons_zero, List.set_cons_succ]
          refine wpAnyH_take (i := 10) (oi := ⟨_, _, _, _, _, _⟩) (v := ?_) rfl (by kernel_rfl) (by kernel_rfl) (by kernel_rfl) (fun _ _ _ h => h) (Or.inl ⟨by rfl, ?_⟩) (by assumption) ?_
          rotate_left
          · intro W hSw
            try dsimp only at hSw
            go_simp
            try with_reducible rfl
          try simp only [Act.put, List.setIfInBounds_toArray, List.set_cons_zero, List.set_cons_succ]
          refine wpAnyH_take (i := 11) (oi := ⟨_, _, _, _, _, _⟩) (v := ?_) rfl (by kernel_rfl) (by kernel_rfl) (by kernel_rfl) (fun _ _ _ h => h) (Or.inl ⟨by rfl, ?_⟩) (by assumption) ?_
          rotate_left
          · intro W hSw
            try dsimp only at hSw
            go_simp
            try with_reducible rfl
          try simp only [Act.put, List.setIfInBounds_toArray, List.set_cons_zero, List.set_cons_succ]
          refine wpAnyH_take (i := 12) (oi := ⟨_, _, _, _, _, _⟩) (v := ?_) rfl (by kernel_rfl) (by kernel_rfl) (by kernel_rfl) (fun _ _ _ h => h) (Or.inl ⟨by rfl, ?_⟩) (by assumption) ?_
          rotate_left
          · intro W hSw
            try dsimp only at hSw
            go_simp
            try with_reducible rfl
          try simp only [Act.put, List.setIfInBounds_toArray, List.set_cons_zero, List.set_cons_succ]
          refine wpAnyH_ready (rs := [8, 13]) (by kernel_rfl) (by simp) ?_
          refine AllReadyH.cons (o := ⟨_, _, _, _, _, _⟩) rfl (fun K hK => ?_) (AllReadyH.cons (o := ⟨_, _, _, _, _, _⟩) rfl (fun K hK => ?_) AllReadyH.nil)
          · rw [if_pos (by rfl)]
            refine wp_load_mid 44 _ rfl gc (kk * 32) rfl (f0.map (Value.int .i64)) _ hr0 hu rfl hi0 ?_
            refine hK.out _ _ trivial (fun _ => ?_)
            clear hK K
            try simp only [Act.put, List.setIfInBounds_toArray, List.set_cons_zero, List.set_cons_succ]
            refine wpAnyH_ready (rs := [13]) (by kernel_rfl) (by simp) ?_
            refine AllReadyH.cons (o := ⟨_, _, _, _, _, _⟩) rfl (fun K hK => ?_) AllReadyH.nil
            rw [if_pos (by rfl)]
            refine wp_load_mid 44 _ rfl gc ((kk + 1) * 32) rfl (f1.map (Value.int .i64)) _ hr1 hu rfl hi1 ?_
            refine hK.out _ _ trivial (fun _ => ?_)
            clear hK K
            try simp only [Act.put, List.setIfInBounds_toArray, List.set_cons_zero, List.set_cons_succ]
            refine wpAnyH_ready (rs := [14]) (by kernel_rfl) (by simp) ?_
            refine AllReadyH.cons (o := ⟨_, _, _, _, _, _⟩) rfl (fun K hK => ?_) AllReadyH.nil
            go_simp
            refine (ct _).mono ?_
            rintro e w1 ⟨rfl, hC⟩
            go_simp
            have m0 := blkP_below (blkP_drew K0.out) hC (blkP_lt K0.out)
            have m4 := bnext B.out.drew hC
            refine hK.out _ _ trivial (fun _ => ?_)
            clear hK K
            try simp only [Act.put, List.setIfInBounds_toArray, List.set_cons_zero, List.set_cons_succ]
            refine wpAnyH_take (i := 15) (oi := ⟨_, _, _, _, _, _⟩) (v := ?_) rfl (by kernel_rfl) (by kernel_rfl) (by kernel_rfl) (fun _ _ _ h => h) (Or.inl ⟨by rfl, ?_⟩) (by assumption) ?_
            rotate_left
            · intro W hSw
              try dsimp only at hSw
              go_simp
              try with_reducible rfl
            try simp only [Act.put, List.setIfInBounds_toArray, List.set_cons_zero, List.set_cons_succ]
            refine wpAnyH_take (i := 16) (oi := ⟨_, _, _, _, _, _⟩) (v := ?_) rfl (by kernel_rfl) (by kernel_rfl) (by kernel_rfl) (fun _ _ _ h => h) (Or.inl ⟨by rfl, ?_⟩) (by assumption) ?_
            rotate_left
            · intro W hSw
              try dsimp only at hSw
              go_simp
              try with_reducible rfl
            try simp only [Act.put, List.setIfInBounds_toArray, List.set_cons_zero, List.set_cons_succ]
            refine wpAnyH_take (i := 17) (oi := ⟨_, _, _, _, _, _⟩) (v := ?_) rfl (by kernel_rfl) (by kernel_rfl) (by kernel_rfl) (fun _ _ _ h => h) (Or.inl ⟨by rfl, ?_⟩) (by assumption) ?_
            rotate_left
            · intro W hSw
              try dsimp only at hSw
              go_simp
              try with_reducible rfl
            try simp only [Act.put, List.setIfInBounds_toArray, List.set_cons_zero, List.set_cons_succ]
            refine wpAnyH_take (i := 18) (oi := ⟨_, _, _, _, _, _⟩) (v := ?_) rfl (by kernel_rfl) (by kernel_rfl) (by kernel_rfl) (fun _ _ _ h => h) (Or.inl ⟨by rfl, ?_⟩) (by assumption) ?_
            rotate_left
            · intro W hSw
              try dsimp only at hSw
              go_simp
              try with_reducible rfl
            try simp only [Act.put, List.setIfInBounds_toArray, List.set_cons_zero, List.set_cons_succ]
            refine wpAnyH_ready (rs := [19]) (by kernel_rfl) (by simp) ?_
            refine AllReadyH.cons (o := ⟨_, _, _, _, _, _⟩) rfl (fun K hK => ?_) AllReadyH.nil
            rw [if_pos (by rfl)]
            refine wp_store_mid 44 _ _ rfl gc (kk * 32) (ints x) rfl rfl (by rw [ints_size, hlx]; exact frameP_there m0 (by first | omega | (rw [List.length_set]; omega)) rfl) (by rw [ints_size, hlx]; kernel_rfl) (ints_one _) ?_
            have k1 := frameP_store (i := kk) m0 (by omega) hlx rfl
            have hs4 := m4.size
            have m5 := below_grown m4 k1.2 hs4 (by omega)
            have m1 := k1.1
            clear m0 m4 k1 hs4
            refine hK.out _ _ trivial (fun _ => ?_)
            clear hK K
            try simp only [Act.put, List.setIfInBounds_toArray, List.set_cons_zero, List.set_cons_succ]
            refine wpAnyH_take (i := 20) (oi := ⟨_, _, _, _, _, _⟩) (v := ?_) rfl (by kernel_rfl) (by kernel_rfl) (by kernel_rfl) (fun _ _ _ h => h) (Or.inl ⟨by rfl, ?_⟩) (by assumption) ?_
            rotate_left
            · intro W hSw
              try dsimp only at hSw
              go_simp
              try with_reducible rfl
            try simp only [Act.put, List.setIfInBounds_toArray, List.set_cons_zero, List.set_cons_succ]
            refine wpAnyH_ready (rs := [21]) (by kernel_rfl) (by simp) ?_
            refine AllReadyH.cons (o := ⟨_, _, _, _, _, _⟩) rfl (fun K hK => ?_) AllReadyH.nil
            rw [if_pos (by rfl)]
            refine wp_store_mid 44 _ _ rfl gc ((kk + 1) * 32) (ints y) rfl rfl (by rw [ints_size, hly]; exact frameP_there m1 (by first | omega | (rw [List.length_set]; omega)) rfl) (by rw [ints_size, hly]; kernel_rfl) (ints_one _) ?_
            have k1 := frameP_store (i := kk + 1) m1 (by rw [List.length_set]; omega) hly rfl
            have hs4 := m5.size
            have m6 := Lib.hid (below_grown m5 k1.2 hs4 (by omega))
            have m2 := Lib.hid k1.1
            clear m1 m5 k1 hs4
            refine hK.out _ _ trivial (fun _ => ?_)
            clear hK K
            try simp only [Act.put, List.setIfInBounds_toArray, List.set_cons_zero, List.set_cons_succ]
            refine wpAnyH_done (by kernel_rfl) ?_ _
            clear hw1 hk4 ct
            go_wp2_with fail
            go_roundg (n - 1 - (kk + 1))
            case measure => omega
            case rel => exact ⟨kk + 1, by omega, by omega, by go_num, m6.out, by rw [HST.out]; exact m2.out⟩
          · rw [if_pos (by rfl)]
            refine wp_load_mid 44 _ rfl gc ((kk + 1) * 32) rfl (f1.map (Value.int .i64)) _ hr1 hu rfl hi1 ?_
            refine hK.out _ _ trivial (fun _ => ?_)
            clear hK K
            try simp only [Act.put, List.setIfInBounds_toArray, List.set_cons_zero, List.set_cons_succ]
            refine wpAnyH_ready (rs := [8]) (by kernel_rfl) (by simp) ?_
            refine AllReadyH.cons (o := ⟨_, _, _, _, _, _⟩) rfl (fun K hK => ?_) AllReadyH.nil
            rw [if_pos (by rfl)]
            refine wp_load_mid 44 _ rfl gc (kk * 32) rfl (f0.map (Value.int .i64)) _ hr0 hu rfl hi0 ?_
            refine hK.out _ _ trivial (fun _ => ?_)
            clear hK K
            try simp only [Act.put, List.setIfInBounds_toArray, List.set_cons_zero, List.set_cons_succ]
            refine wpAnyH_ready (rs := [14]) (by kernel_rfl) (by simp) ?_
            refine AllReadyH.cons (o := ⟨_, _, _, _, _, _⟩) rfl (fun K hK => ?_) AllReadyH.nil
            go_simp
            refine (ct _).mono ?_
            rintro e w1 ⟨rfl, hC⟩
            go_simp
            have m0 := blkP_below (blkP_drew K0.out) hC (blkP_lt K0.out)
            have m4 := bnext B.out.drew hC
            refine hK.out _ _ trivial (fun _ => ?_)
            clear hK K
            try simp only [Act.put, List.setIfInBounds_toArray, List.set_cons_zero, List.set_cons_succ]
            refine wpAnyH_take (i := 15) (oi := ⟨_, _, _, _, _, _⟩) (v := ?_) rfl (by kernel_rfl) (by kernel_rfl) (by kernel_rfl) (fun _ _ _ h => h) (Or.inl ⟨by rfl, ?_⟩) (by assumption) ?_
            rotate_left
            · intro W hSw
              try dsimp only at hSw
              go_simp
              try with_reducible rfl
            try simp only [Act.put, List.setIfInBounds_toArray, List.set_cons_zero, List.set_cons_succ]
            refine wpAnyH_take (i := 16) (oi := ⟨_, _, _, _, _, _⟩) (v := ?_) rfl (by kernel_rfl) (by kernel_rfl) (by kernel_rfl) (fun _ _ _ h => h) (Or.inl ⟨by rfl, ?_⟩) (by assumption) ?_
            rotate_left
            · intro W hSw
              try dsimp only at hSw
              go_simp
              try with_reducible rfl
            try simp only [Act.put, List.setIfInBounds_toArray, List.set_cons_zero, List.set_cons_succ]
            refine wpAnyH_take (i := 17) (oi := ⟨_, _, _, _, _, _⟩) (v := ?_) rfl (by kernel_rfl) (by kernel_rfl) (by kernel_rfl) (fun _ _ _ h => h) (Or.inl ⟨by rfl, ?_⟩) (by assumption) ?_
            rotate_left
            · intro W hSw
              try dsimp only at hSw
              go_simp
              try with_reducible rfl
            try simp only [Act.put, List.setIfInBounds_toArray, List.set_cons_zero, List.set_cons_succ]
            refine wpAnyH_take (i := 18) (oi := ⟨_, _, _, _, _, _⟩) (v := ?_) rfl (by kernel_rfl) (by kernel_rfl) (by kernel_rfl) (fun _ _ _ h => h) (Or.inl ⟨by rfl, ?_⟩) (by assumption) ?_
            rotate_left
            · intro W hSw
              try dsimp only at hSw
              go_simp
              try with_reducible rfl
            try simp only [Act.put, List.setIfInBounds_toArray, List.set_cons_zero, List.set_cons_succ]
            refine wpAnyH_ready (rs := [19]) (by kernel_rfl) (by simp) ?_
            refine AllReadyH.cons (o := ⟨_, _, _, _, _, _⟩) rfl (fun K hK => ?_) AllReadyH.nil
            rw [if_pos (by rfl)]
            refine wp_store_mid 44 _ _ rfl gc (kk * 32) (ints x) rfl rfl (by rw [ints_size, hlx]; exact frameP_there m0 (by first | omega | (rw [List.length_set]; omega)) rfl) (by rw [ints_size, hlx]; kernel_rfl) (ints_one _) ?_
            have k1 := frameP_store (i := kk) m0 (by omega) hlx rfl
            have hs4 := m4.size
            have m5 := below_grown m4 k1.2 hs4 (by omega)
            have m1 := k1.1
            clear m0 m4 k1 hs4
            refine hK.out _ _ trivial (fun _ => ?_)
            clear hK K
            try simp only [Act.put, List.setIfInBounds_toArray, List.set_cons_zero, List.set_cons_succ]
            refine wpAnyH_take (i := 20) (oi := ⟨_, _, _, _, _, _⟩) (v := ?_) rfl (by kernel_rfl) (by kernel_rfl) (by kernel_rfl) (fun _ _ _ h => h) (Or.inl ⟨by rfl, ?_⟩) (by assumption) ?_
            rotate_left
            · intro W hSw
              try dsimp only at hSw
              go_simp
              try with_reducible rfl
            try simp only [Act.put, List.setIfInBounds_toArray, List.set_cons_zero, List.set_cons_succ]
            refine wpAnyH_ready (rs := [21]) (by kernel_rfl) (by simp) ?_
            refine AllReadyH.cons (o := ⟨_, _, _, _, _, _⟩) rfl (fun K hK => ?_) AllReadyH.nil
            rw [if_pos (by rfl)]
            refine wp_store_mid 44 _ _ rfl gc ((kk + 1) * 32) (ints y) rfl rfl (by rw [ints_size, hly]; exact frameP_there m1 (by first | omega | (rw [List.length_set]; omega)) rfl) (by rw [ints_size, hly]; kernel_rfl) (ints_one _) ?_
            have k1 := frameP_store (i := kk + 1) m1 (by rw [List.length_set]; omega) hly rfl
            have hs4 := m5.size
            have m6 := Lib.hid (below_grown m5 k1.2 hs4 (by omega))
            have m2 := Lib.hid k1.1
            clear m1 m5 k1 hs4
            refine hK.out _ _ trivial (fun _ => ?_)
            clear hK K
            try simp only [Act.put, List.setIfInBounds_toArray, List.set_cons_zero, List.set_cons_succ]
            refine wpAnyH_done (by kernel_rfl) ?_ _
            clear hw1 hk4 ct
            go_wp2_with fail
            go_roundg (n - 1 - (kk + 1))
            case measure => omega
            case rel => exact ⟨kk + 1, by omega, by omega, by go_num, m6.out, by rw [HST.out]; exact m2.out⟩
        · have hltz : ¬ (kk : Int) < (n : Int) - 1 := by omega
          obtain rfl : kk = n - 1 := by omega
          have hSl := seamTo_len unseam1 unseam2 gs (n - 1)
          rw [hfl2] at hSl
          have hal := seamTo_all hA1 hB1 H33.out (k := n - 1) (by omega)
          have K1 := Lib.hid K0.out
          have B1 := Lib.hid B.out
          have HAL := Lib.hid hal
          have HS2 := HSL
          clear K0 B hal hltz hgk hkk HSL
          generalize seamTo unseam1 unseam2 gs (n - 1) = T at *
          obtain ⟨inf, hinf, hzr, hsz, hby⟩ := info_parts (P := Try.prog) (e := 3) (z := .int .i64 0) (size := 1) (bytes := 8) (by kernel_rfl)
          go_wp2_with fail
          have hlt3 := blkP_lt K1.out
          have hb3 := B1.out.size
          have hst3 := Lib.hid (World.ownsRow_nil wr wr.heap.size 3 1)
          generalize hB3 : wr.heap.size = b3 at *
          have HB3 := Lib.hid hB3
          have hsz3 : b3 ≤ wr.heap.size := by omega
          have HSZ3 := Lib.hid hsz3
          clear hB3 hsz3
          go_loopg [7, 59] n (fun gg s7 s59 wr => ∃ kk : Nat, kk ≤ n ∧ n - kk ≤ gg ∧ s59 = .int .i64 kk ∧ Aside (Below w.heap.size w wr) ∧ Aside (BlkP wr gc 44 (flat T)) ∧ Aside (b3 ≤ wr.heap.size) ∧ Aside (wr.ownsRow b3 3 1 s7 (32 * kk) (((flat T).take (32 * kk)).map (Value.int .i64))))
          case atStart => exact ⟨0, Nat.zero_le _, by omega, rfl, B1.out, K1.out, HSZ3.out, hst3.out⟩
          case round =>
            clear K1 B1 hst3 HB3 HSZ3
            obtain ⟨kk, hkk, hgk, rfl, B, K0, hb, hO⟩ := hrel
            by_cases hlt : kk < n
            · have hltz : (kk : Int) < (n : Int) := by omega
              have hk0 : 0 ≤ (kk : Int) := by omega
              have hf0 := HAL.out kk (by omega)
              have hr0 := frameP_range (o := kk * 32) K0.out (i := kk) (by omega) hf0 rfl
              have HTK := Lib.hid (flat_take (fs := T) (k := kk) (by omega) hf0)
              generalize T.getD kk [] = f0 at *
              have nn := blk_new wr 44 #[Value.int .i64 0, Value.int .i64 0, Value.int .i64 0, Value.int .i64 0, Value.int .i64 0, Value.int .i64 0, Value.int .i64 0, Value.int .i64 0, Value.int .i64 0, Value.int .i64 0, Value.int .i64 0, Value.int .i64 0, Value.int .i64 0, Value.int .i64 0, Value.int .i64 0, Value.int .i64 0, Value.int .i64 0, Value.int .i64 0, Value.int .i64 0, Value.int .i64 0, Value.int .i64 0, Value.int .i64 0, Value.int .i64 0, Value.int .i64 0, Value.int .i64 0, Value.int .i64 0, Value.int .i64 0, Value.int .i64 0, Value.int .i64 0, Value.int .i64 0, Value.int .i64 0, Value.int .i64 0]
              have hsz4 := B.out.size
              have hlc := blkP_lt K0.out
              have hol := hO.out.lt
              have HR0 := Lib.hid hr0
              have HOL := Lib.hid hol
              clear hr0 hol
              go_wp2_with (first | (refine wpList_load_mid rfl 44 _ rfl gc (kk * 32) rfl (f0.map (Value.int .i64)) _ HR0.out Try.underlying44 rfl (by rw [List.length_map, hf0]; kernel_rfl) ?_) | (refine wpList_store_blk rfl 44 _ _ rfl wr.heap.size 44 _ (ints f0) rfl rfl nn (by rw [ints_size, hf0]; rfl) (by rw [ints_size, hf0]; kernel_rfl) (ints_one _) ?_; intro w3 n0 hg; have B3 := below_grown (B.out.alloc hsz4 (.cells #[Value.int .i64 0, Value.int .i64 0, Value.int .i64 0, Value.int .i64 0, Value.int .i64 0, Value.int .i64 0, Value.int .i64 0, Value.int .i64 0, Value.int .i64 0, Value.int .i64 0, Value.int .i64 0, Value.int .i64 0, Value.int .i64 0, Value.int .i64 0, Value.int .i64 0, Value.int .i64 0, Value.int .i64 0, Value.int .i64 0, Value.int .i64 0, Value.int .i64 0, Value.int .i64 0, Value.int .i64 0, Value.int .i64 0, Value.int .i64 0, Value.int .i64 0, Value.int .i64 0, Value.int .i64 0, Value.int .i64 0, Value.int .i64 0, Value.int .i64 0, Value.int .i64 0, Value.int .i64 0] 44)) hg (by simp; omega) hsz4; have K3 := blkP_grown (blkP_alloc K0.out (.cells #[Value.int .i64 0, Value.int .i64 0, Value.int .i64 0, Value.int .i64 0, Value.int .i64 0, Value.int .i64 0, Value.int .i64 0, Value.int .i64 0, Value.int .i64 0, Value.int .i64 0, Value.int .i64 0, Value.int .i64 0, Value.int .i64 0, Value.int .i64 0, Value.int .i64 0, Value.int .i64 0, Value.int .i64 0, Value.int .i64 0, Value.int .i64 0, Value.int .i64 0, Value.int .i64 0, Value.int .i64 0, Value.int .i64 0, Value.int .i64 0, Value.int .i64 0, Value.int .i64 0, Value.int .i64 0, Value.int .i64 0, Value.int .i64 0, Value.int .i64 0, Value.int .i64 0, Value.int .i64 0] 44)) hg (by simp; omega); have O3 := (hO.out.alloc (.cells #[Value.int .i64 0, Value.int .i64 0, Value.int .i64 0, Value.int .i64 0, Value.int .i64 0, Value.int .i64 0, Value.int .i64 0, Value.int .i64 0, Value.int .i64 0, Value.int .i64 0, Value.int .i64 0, Value.int .i64 0, Value.int .i64 0, Value.int .i64 0, Value.int .i64 0, Value.int .i64 0, Value.int .i64 0, Value.int .i64 0, Value.int .i64 0, Value.int .i64 0, Value.int .i64 0, Value.int .i64 0, Value.int .i64 0, Value.int .i64 0, Value.int .i64 0, Value.int .i64 0, Value.int .i64 0, Value.int .i64 0, Value.int .i64 0, Value.int .i64 0, Value.int .i64 0, Value.int .i64 0] 44)).kept hg (Or.inr (fun e => by have := (HOL.out _ e).2; omega)); have hb4 : b3 ≤ w3.heap.size := Nat.le_trans hb.out (Nat.le_trans (by simp) hg.size)) | (at_builtin; refine wpList_append_own _ rfl _ _ 52 rfl b3 3 inf (.int .i64 0) 1 8 Try.underlying52 hinf hzr hsz hby rfl (by decide) _ (32 * kk) _ rfl O3 ⟨wr.heap.size, 0, none⟩ 32 32 (f0.map (Value.int .i64)) rfl (by rw [List.length_map, hf0]) (fun j u hj => by rw [Addr.add_mid]; exact (range_whole n0) j u hj) (fun u hu => by obtain ⟨z, _, rfl⟩ := List.mem_map.1 hu; rfl) (by unfold maxLen; omega) (by omega) hb4 ?_; intro v' w5 hown' hgrow _))
              have B5 := Lib.hid (B3.grown hgrow B3.size (fun k e => by have := (O3.lt k e).1; omega))
              have K5 := Lib.hid (blkP_grown K3 hgrow (fun e => by have := (O3.lt _ e.symm).1; omega))
              have hb5 := Lib.hid (Nat.le_trans hb4 hgrow.size)
              rw [← List.map_append, ← HTK.out, show 32 * kk + 32 = 32 * (kk + 1) by omega] at hown'
              have O5 := Lib.hid hown'
              clear hown' hgrow O3 K3 B3 n0 hg hb4 nn HR0 HOL K0 B hb hO
              go_wp2_with fail
              go_roundg (n - (kk + 1))
              case measure => omega
              case rel => exact ⟨kk + 1, by omega, by omega, by go_num, B5.out, K5.out, hb5.out, O5.out⟩
            · have hltz : ¬ (kk : Int) < (n : Int) := by omega
              obtain rfl : n = kk := by omega
              go_wp2_with fail
              go_ret
              have hO' := hO.out
              rw [List.take_of_length_le (by rw [flat_len, hSl]; omega), ← HS2.out] at hO'
              obtain ⟨g', c', hv, _, hP⟩ := blkP_owns hO' (by omega)
              exact ⟨g', ⟨c', by rw [← hv]; rfl⟩, hP, B.out⟩
end Go.Proofs.Ytlfiaaoegeodnaa
