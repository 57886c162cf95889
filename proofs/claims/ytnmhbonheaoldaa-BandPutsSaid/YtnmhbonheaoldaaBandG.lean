/- The walk of layer 16's statement BandPuts. -/
import Derived.Test.YtnmhbonheaoldaaBandF
import Derived.Test.YtnmhbonheaoldaaBandD
namespace Go.Proofs.Ytnmhbonheaoldaa
open Go.RowKit
attribute [local go_sem ↓] Go.wp_at_zero Go.wp_at_succ

set_option maxHeartbeats 4000000 in
theorem puts_in (a0 a2 : List Int) (b : Nat) (l0 : a0.length = 32) (l2 : a2.length = 4) (hb : b < 8) (w : World) : Calls Try.prog 8 #[.agg (ints a0), .int .i64 b, .agg (ints a2)] w (LawTrue w) := by
  have b0 := blk_alloc (blk_new w 31 (ints a0)) (.cells (ints a2) 28)
  have b1 := blk_new (w.alloc (.cells (ints a0) 31)) 28 (ints a2)
  rw [show (w.alloc (.cells (ints a0) 31)).heap.size = w.heap.size + 1 by simp] at b1
  have hA : Below w.heap.size w ((w.alloc (.cells (ints a0) 31)).alloc (.cells (ints a2) 28)) := ((Below.refl _ w).alloc (Nat.le_refl _) _).alloc (by simp) _
  have hput := fun W => put_calls a0 a2 b W l0 l2 hb
  have hpl := (putL_len a0 b a2).trans l0
  have ofb := fun W => of_calls (putL a0 b a2) b W hpl hb
  rw [put_here l0 hb l2] at ofb
  have off := fun (k : Nat) (hk : k < 8) (hne : k ≠ b) W => of_calls (putL a0 b a2) k W hpl hk
  have off2 : ∀ (k : Nat) (hk : k < 8) (hne : k ≠ b) W, Calls Try.prog 25 #[.agg (ints (putL a0 b a2)), .int .i64 k] W fun e w' => e = .returned (.agg (ints (bandL a0 k))) ∧ Below W.heap.size W w' := fun k hk hne W => by
    have := off k hk hne W
    rw [put_far hne] at this
    exact this
  clear off
  have e2 := fun W => eq_fours l2 l2 W
  rw [decide_eq_true rfl] at e2
  generalize putL a0 b a2 = y at *
  have hbz : 0 ≤ (b : Int) := by omega
  have hbz2 : (b : Int) < 8 := by omega
  have hbz3 : (b : Int) ≤ 7 := by omega
  have E2 := Lib.hid e2
  have OFB := Lib.hid ofb
  have OFF := Lib.hid off2
  clear e2 ofb off2
  go_enter Try.func8, Try.ntmps8
  go_wp2_with fail
  refine (awake16_calls _).mono ?_
  rintro e w1 ⟨rfl, hB⟩
  have k0 := blk_below b0 hB (blk_lt b0)
  have k1 := blk_below b1 hB (blk_lt b1)
  have B0 := bnext hA hB
  clear b0 b1 hA hB
  go_wp2_with (first | (refine wpList_load_row rfl 31 _ rfl w.heap.size rfl 31 (ints a0) (0, 0) _ k0 Try.underlying31 rfl (by rw [ints_size, l0]; kernel_rfl) ?_) | (refine wpList_load_row rfl 28 _ rfl (w.heap.size + 1) rfl 28 (ints a2) (0, 0) _ k1 Try.underlying28 rfl (by rw [ints_size, l2]; kernel_rfl) ?_))
  refine (hput _).mono ?_
  rintro e w2 ⟨rfl, hC⟩
  have k2 := blk_below k0 hC (blk_lt k0)
  have k3 := blk_below k1 hC (blk_lt k1)
  have B1 := bnext B0 hC
  clear k0 k1 hC B0 hput
  go_wp2_with (first | (refine wpList_store_blk rfl 32 _ _ rfl w2.heap.size 32 _ (ints y) rfl rfl (blk_new w2 32 #[Value.int .i64 0, Value.int .i64 0, Value.int .i64 0, Value.int .i64 0, Value.int .i64 0, Value.int .i64 0, Value.int .i64 0, Value.int .i64 0, Value.int .i64 0, Value.int .i64 0, Value.int .i64 0, Value.int .i64 0, Value.int .i64 0, Value.int .i64 0, Value.int .i64 0, Value.int .i64 0, Value.int .i64 0, Value.int .i64 0, Value.int .i64 0, Value.int .i64 0, Value.int .i64 0, Value.int .i64 0, Value.int .i64 0, Value.int .i64 0, Value.int .i64 0, Value.int .i64 0, Value.int .i64 0, Value.int .i64 0, Value.int .i64 0, Value.int .i64 0, Value.int .i64 0, Value.int .i64 0]) (by rw [ints_size, hpl]; rfl) (by rw [ints_size, hpl]; kernel_rfl) (ints_one _) ?_; intro w3 n0 hg))
  have hs := B1.size
  have lt0 := blk_lt k2
  have lt1 := blk_lt k3
  have B2 := below_grown (B1.alloc hs (.cells #[Value.int .i64 0, Value.int .i64 0, Value.int .i64 0, Value.int .i64 0, Value.int .i64 0, Value.int .i64 0, Value.int .i64 0, Value.int .i64 0, Value.int .i64 0, Value.int .i64 0, Value.int .i64 0, Value.int .i64 0, Value.int .i64 0, Value.int .i64 0, Value.int .i64 0, Value.int .i64 0, Value.int .i64 0, Value.int .i64 0, Value.int .i64 0, Value.int .i64 0, Value.int .i64 0, Value.int .i64 0, Value.int .i64 0, Value.int .i64 0, Value.int .i64 0, Value.int .i64 0, Value.int .i64 0, Value.int .i64 0, Value.int .i64 0, Value.int .i64 0, Value.int .i64 0, Value.int .i64 0] 32)) hg (by simp; omega) (by omega)
  have r0 := range_whole (blk_grown (blk_alloc k2 (.cells #[Value.int .i64 0, Value.int .i64 0, Value.int .i64 0, Value.int .i64 0, Value.int .i64 0, Value.int .i64 0, Value.int .i64 0, Value.int .i64 0, Value.int .i64 0, Value.int .i64 0, Value.int .i64 0, Value.int .i64 0, Value.int .i64 0, Value.int .i64 0, Value.int .i64 0, Value.int .i64 0, Value.int .i64 0, Value.int .i64 0, Value.int .i64 0, Value.int .i64 0, Value.int .i64 0, Value.int .i64 0, Value.int .i64 0, Value.int .i64 0, Value.int .i64 0, Value.int .i64 0, Value.int .i64 0, Value.int .i64 0, Value.int .i64 0, Value.int .i64 0, Value.int .i64 0, Value.int .i64 0] 32)) hg (by simp; omega))
  have r1 := range_whole (blk_grown (blk_alloc k3 (.cells #[Value.int .i64 0, Value.int .i64 0, Value.int .i64 0, Value.int .i64 0, Value.int .i64 0, Value.int .i64 0, Value.int .i64 0, Value.int .i64 0, Value.int .i64 0, Value.int .i64 0, Value.int .i64 0, Value.int .i64 0, Value.int .i64 0, Value.int .i64 0, Value.int .i64 0, Value.int .i64 0, Value.int .i64 0, Value.int .i64 0, Value.int .i64 0, Value.int .i64 0, Value.int .i64 0, Value.int .i64 0, Value.int .i64 0, Value.int .i64 0, Value.int .i64 0, Value.int .i64 0, Value.int .i64 0, Value.int .i64 0, Value.int .i64 0, Value.int .i64 0, Value.int .i64 0, Value.int .i64 0] 32)) hg (by simp; omega))
  have r2 := range_whole n0
  have hgl := blk_lt n0
  clear k2 k3 B1 hg hs n0
  generalize w2.heap.size = g at *
  have hu0 := Try.underlying31
  have hu1 := Try.underlying32
  have hu2 := Try.underlying28
  have hi0 : (Try.prog.info? 31).map (·.size) = some (a0.map (Value.int .i64)).length := by rw [List.length_map, l0]; kernel_rfl
  have hi1 : (Try.prog.info? 32).map (·.size) = some (y.map (Value.int .i64)).length := by rw [List.length_map, hpl]; kernel_rfl
  have hi2 : (Try.prog.info? 28).map (·.size) = some (a2.map (Value.int .i64)).length := by rw [List.length_map, l2]; kernel_rfl
  have HI0 := Lib.hid hi0
  have HI1 := Lib.hid hi1
  have HI2 := Lib.hid hi2
  clear hi0 hi1 hi2
  have HHH := Lib.hid (show w3.rangeAt g 0 (y.map (Value.int .i64)) ∧ w3.rangeAt w.heap.size 0 (a0.map (Value.int .i64)) ∧ w3.rangeAt (w.heap.size + 1) 0 (a2.map (Value.int .i64)) ∧ Below w.heap.size w w3 ∧ g + 1 ≤ w3.heap.size from ⟨r2, r0, r1, B2, hgl⟩)
  clear r0 r1 r2 B2 hgl
  go_wp2_with fail
  go_loopg [8] 8 (fun gg s8 wr => ∃ kk : Nat, kk ≤ 8 ∧ 8 - kk ≤ gg ∧ s8 = .int .i64 kk ∧ Aside (wr.rangeAt g 0 (y.map (Value.int .i64)) ∧ wr.rangeAt w.heap.size 0 (a0.map (Value.int .i64)) ∧ wr.rangeAt (w.heap.size + 1) 0 (a2.map (Value.int .i64)) ∧ Below w.heap.size w wr ∧ g + 1 ≤ wr.heap.size))
  case atStart => exact ⟨0, Nat.zero_le _, by omega, rfl, HHH.out⟩
  case round =>
    clear HHH
    obtain ⟨kk, hkk, hgk, rfl, hH⟩ := hrel
    obtain ⟨r2, r0, r1, B2, hgl⟩ := hH.out
    clear hH
    have hi0 := HI0.out
    have hi1 := HI1.out
    have hi2 := HI2.out
    by_cases hlt : kk < 8
    · have hltz : (kk : Int) < 8 := by omega
      by_cases hkb : kk = b
      · subst hkb
        have e2 := E2.out
        have ofb := OFB.out
        simp only [ints] at e2 ofb
        go_wp2_with fail
        refine wp_region_held_drew (S := (fun W => W.rangeAt g 0 (y.map (Value.int .i64)) ∧ W.rangeAt w.heap.size 0 (a0.map (Value.int .i64)) ∧ W.rangeAt (w.heap.size + 1) 0 (a2.map (Value.int .i64)) ∧ Below w.heap.size w W ∧ g + 1 ≤ W.heap.size)) (by kernel_rfl) ⟨(World.rangeAt_drew _ _ _ _).2 r2, (World.rangeAt_drew _ _ _ _).2 r0, (World.rangeAt_drew _ _ _ _).2 r1, B2.drew, hgl⟩ (fun hHeld => ?_)
        refine wpAnyH_take (i := 0) (oi := ⟨_, _, _, _, _, _⟩) (v := ?_) rfl (by kernel_rfl) (by kernel_rfl) (by kernel_rfl) (fun _ _ _ h => h) (Or.inl ⟨by rfl, ?_⟩) (by assumption) ?_
        rotate_left
        · intro W hSw
          try dsimp only at hSw
          go_simp
          try with_reducible rfl
        try simp only [Act.put, List.setIfInBounds_toArray, List.set_cons_zero, List.set_cons_succ]
        refine wpAnyH_take (i := 1) (oi := ⟨_, _, _, _, _, _⟩) (v := ?_) rfl (by kernel_rfl) (by kernel_rfl) (by kernel_rfl) (fun _ _ _ h => h) (Or.inl ⟨by rfl, ?_⟩) (by assumption) ?_
        rotate_left
        · intro W hSw
          try dsimp only at hSw
          go_simp
          try with_reducible rfl
        try simp only [Act.put, List.setIfInBounds_toArray, List.set_cons_zero, List.set_cons_succ]
        refine wpAnyH_take (i := 2) (oi := ⟨_, _, _, _, _, _⟩) (v := ?_) rfl (by kernel_rfl) (by kernel_rfl) (by kernel_rfl) (fun _ _ _ h => h) (Or.inl ⟨by rfl, ?_⟩) (by assumption) ?_
        rotate_left
        · intro W hSw
          try dsimp only at hSw
          go_simp
          try with_reducible rfl
        try simp only [Act.put, List.setIfInBounds_toArray, List.set_cons_zero, List.set_cons_succ]
        refine wpAnyH_take (i := 3) (oi := ⟨_, _, _, _, _, _⟩) (v := ?_) rfl (by kernel_rfl) (by kernel_rfl) (by kernel_rfl) (fun _ _ _ h => h) (Or.inl ⟨by rfl, ?_⟩) (by assumption) ?_
        rotate_left
        · intro W hSw
          try dsimp only at hSw
          go_simp
          try with_reducible rfl
        try simp only [Act.put, List.setIfInBounds_toArray, List.set_cons_zero, List.set_cons_succ]
        refine wpAnyH_take (i := 4) (oi := ⟨_, _, _, _, _, _⟩) (v := _) rfl (by kernel_rfl) (by kernel_rfl) (by kernel_rfl) (fun _ _ _ h => h) (yieldsIf_load_mid (by rfl) _ _ rfl _ _ rfl _ _ (fun _ h => h.1) hu1 rfl hi1) (by assumption) ?_
        try simp only [Act.put, List.setIfInBounds_toArray, List.set_cons_zero, List.set_cons_succ]
        refine wpAnyH_take (i := 5) (oi := ⟨_, _, _, _, _, _⟩) (v := ?_) rfl (by kernel_rfl) (by kernel_rfl) (by kernel_rfl) (fun _ _ _ h => h) (Or.inl ⟨by rfl, ?_⟩) (by assumption) ?_
        rotate_left
        · intro W hSw
          try dsimp only at hSw
          go_simp
          try with_reducible rfl
        try simp only [Act.put, List.setIfInBounds_toArray, List.set_cons_zero, List.set_cons_succ]
        refine wpAnyH_take (i := 7) (oi := ⟨_, _, _, _, _, _⟩) (v := _) rfl (by kernel_rfl) (by kernel_rfl) (by kernel_rfl) (fun _ _ _ h => h) (yieldsIf_load_mid (by rfl) _ _ rfl _ _ rfl _ _ (fun _ h => h.2.2.1) hu2 rfl hi2) (by assumption) ?_
        try simp only [Act.put, List.setIfInBounds_toArray, List.set_cons_zero, List.set_cons_succ]
        refine wpAnyH_ready (rs := [6]) (by kernel_rfl) (by simp) ?_
        refine AllReadyH.cons (o := ⟨_, _, _, _, _, _⟩) rfl (fun K hK => ?_) AllReadyH.nil
        go_simp
        refine (ofb _).mono ?_
        rintro e w' ⟨rfl, hC⟩
        go_simp
        refine hK.out _ _ ⟨range_keep hHeld.1 hC (by omega), range_keep hHeld.2.1 hC (by omega), range_keep hHeld.2.2.1 hC (by omega), bnext hHeld.2.2.2.1 hC, Nat.le_trans hHeld.2.2.2.2 hC.size⟩ (fun hHeld => ?_)
        clear hK K
        try simp only [Act.put, List.setIfInBounds_toArray, List.set_cons_zero, List.set_cons_succ]
        refine wpAnyH_take (i := 8) (oi := ⟨_, _, _, _, _, _⟩) (v := ?_) rfl (by kernel_rfl) (by kernel_rfl) (by kernel_rfl) (fun _ _ _ h => h) (Or.inl ⟨by rfl, ?_⟩) (by assumption) ?_
        rotate_left
        · intro W hSw
          try dsimp only at hSw
          go_simp
          try with_reducible rfl
        try simp only [Act.put, List.setIfInBounds_toArray, List.set_cons_zero, List.set_cons_succ]
        refine wpAnyH_take (i := 9) (oi := ⟨_, _, _, _, _, _⟩) (v := ?_) rfl (by kernel_rfl) (by kernel_rfl) (by kernel_rfl) (fun _ _ _ h => h) (Or.inl ⟨by rfl, ?_⟩) (by assumption) ?_
        rotate_left
        · intro W hSw
          try dsimp only at hSw
          go_simp
          try with_reducible rfl
        try simp only [Act.put, List.setIfInBounds_toArray, List.set_cons_zero, List.set_cons_succ]
        refine wpAnyH_take (i := 10) (oi := ⟨_, _, _, _, _, _⟩) (v := ?_) rfl (by kernel_rfl) (by kernel_rfl) (by kernel_rfl) (fun _ _ _ h => h) (Or.inl ⟨by rfl, ?_⟩) (by assumption) ?_
        rotate_left
        · intro W hSw
          try dsimp only at hSw
          go_simp
          try with_reducible rfl
        try simp only [Act.put, List.setIfInBounds_toArray, List.set_cons_zero, List.set_cons_succ]
        refine wpAnyH_take (i := 11) (oi := ⟨_, _, _, _, _, _⟩) (v := ?_) rfl (by kernel_rfl) (by kernel_rfl) (by kernel_rfl) (fun _ _ _ h => h) (Or.inl ⟨by rfl, ?_⟩) (by assumption) ?_
        rotate_left
        · intro W hSw
          try dsimp only at hSw
          go_simp
          try with_reducible rfl
        try simp only [Act.put, List.setIfInBounds_toArray, List.set_cons_zero, List.set_cons_succ]
        refine wpAnyH_take (i := 12) (oi := ⟨_, _, _, _, _, _⟩) (v := ?_) rfl (by kernel_rfl) (by kernel_rfl) (by kernel_rfl) (fun _ _ _ h => h) (Or.inl ⟨by rfl, ?_⟩) (by assumption) ?_
        rotate_left
        · intro W hSw
          try dsimp only at hSw
          go_simp
          try with_reducible rfl
        try simp only [Act.put, List.setIfInBounds_toArray, List.set_cons_zero, List.set_cons_succ]
        refine wpAnyH_take (i := 13) (oi := ⟨_, _, _, _, _, _⟩) (v := ?_) rfl (by kernel_rfl) (by kernel_rfl) (by kernel_rfl) (fun _ _ _ h => h) (Or.inl ⟨by rfl, ?_⟩) (by assumption) ?_
        rotate_left
        · intro W hSw
          try dsimp only at hSw
          go_simp
          try with_reducible rfl
        try simp only [Act.put, List.setIfInBounds_toArray, List.set_cons_zero, List.set_cons_succ]
        refine wpAnyH_take (i := 14) (oi := ⟨_, _, _, _, _, _⟩) (v := ?_) rfl (by kernel_rfl) (by kernel_rfl) (by kernel_rfl) (fun _ _ _ h => h) (Or.inl ⟨by rfl, ?_⟩) (by assumption) ?_
        rotate_left
        · intro W hSw
          try dsimp only at hSw
          go_simp
          try with_reducible rfl
        try simp only [Act.put, List.setIfInBounds_toArray, List.set_cons_zero, List.set_cons_succ]
        refine wpAnyH_take (i := 15) (oi := ⟨_, _, _, _, _, _⟩) (v := undef) rfl (by kernel_rfl) (by kernel_rfl) (by kernel_rfl) (fun _ _ _ h => h) (Or.inr ⟨by rfl, rfl⟩) (by assumption) ?_
        try simp only [Act.put, List.setIfInBounds_toArray, List.set_cons_zero, List.set_cons_succ]
        refine wpAnyH_take (i := 16) (oi := ⟨_, _, _, _, _, _⟩) (v := undef) rfl (by kernel_rfl) (by kernel_rfl) (by kernel_rfl) (fun _ _ _ h => h) (Or.inr ⟨by rfl, rfl⟩) (by assumption) ?_
        try simp only [Act.put, List.setIfInBounds_toArray, List.set_cons_zero, List.set_cons_succ]
        refine wpAnyH_take (i := 17) (oi := ⟨_, _, _, _, _, _⟩) (v := undef) rfl (by kernel_rfl) (by kernel_rfl) (by kernel_rfl) (fun _ _ _ h => h) (Or.inr ⟨by rfl, rfl⟩) (by assumption) ?_
        try simp only [Act.put, List.setIfInBounds_toArray, List.set_cons_zero, List.set_cons_succ]
        refine wpAnyH_take (i := 18) (oi := ⟨_, _, _, _, _, _⟩) (v := undef) rfl (by kernel_rfl) (by kernel_rfl) (by kernel_rfl) (fun _ _ _ h => h) (Or.inr ⟨by rfl, rfl⟩) (by assumption) ?_
        try simp only [Act.put, List.setIfInBounds_toArray, List.set_cons_zero, List.set_cons_succ]
        refine wpAnyH_take (i := 19) (oi := ⟨_, _, _, _, _, _⟩) (v := undef) rfl (by kernel_rfl) (by kernel_rfl) (by kernel_rfl) (fun _ _ _ h => h) (Or.inr ⟨by rfl, rfl⟩) (by assumption) ?_
        try simp only [Act.put, List.setIfInBounds_toArray, List.set_cons_zero, List.set_cons_succ]
        refine wpAnyH_take (i := 20) (oi := ⟨_, _, _, _, _, _⟩) (v := undef) rfl (by kernel_rfl) (by kernel_rfl) (by kernel_rfl) (fun _ _ _ h => h) (Or.inr ⟨by rfl, rfl⟩) (by assumption) ?_
        try simp only [Act.put, List.setIfInBounds_toArray, List.set_cons_zero, List.set_cons_succ]
        refine wpAnyH_take (i := 21) (oi := ⟨_, _, _, _, _, _⟩) (v := undef) rfl (by kernel_rfl) (by kernel_rfl) (by kernel_rfl) (fun _ _ _ h => h) (Or.inr ⟨by rfl, rfl⟩) (by assumption) ?_
        try simp only [Act.put, List.setIfInBounds_toArray, List.set_cons_zero, List.set_cons_succ]
        refine wpAnyH_take (i := 22) (oi := ⟨_, _, _, _, _, _⟩) (v := ?_) rfl (by kernel_rfl) (by kernel_rfl) (by kernel_rfl) (fun _ _ _ h => h) (Or.inl ⟨by rfl, ?_⟩) (by assumption) ?_
        rotate_left
        · intro W hSw
          try dsimp only at hSw
          go_simp
          try with_reducible rfl
        try simp only [Act.put, List.setIfInBounds_toArray, List.set_cons_zero, List.set_cons_succ]
        refine wpAnyH_take (i := 23) (oi := ⟨_, _, _, _, _, _⟩) (v := ?_) rfl (by kernel_rfl) (by kernel_rfl) (by kernel_rfl) (fun _ _ _ h => h) (Or.inl ⟨by rfl, ?_⟩) (by assumption) ?_
        rotate_left
        · intro W hSw
          try dsimp only at hSw
          go_simp
          try with_reducible rfl
        try simp only [Act.put, List.setIfInBounds_toArray, List.set_cons_zero, List.set_cons_succ]
        refine wpAnyH_done (by kernel_rfl) ?_ _
        have hE := Lib.hid hHeld
        clear hHeld e2 ofb hi0 hi1 hi2 r0 r1 r2 B2 hgl
        go_wp2_with fail
        go_roundg (8 - (kk + 1))
        case measure => omega
        case rel => exact ⟨kk + 1, by omega, by omega, by go_num, hE.out⟩
      · have of1 := OFF.out kk hlt hkb
        have of2 := fun W => of_calls a0 kk W l0 hlt
        have e3 := fun W => eq_fours (bandL_len a0 kk) (bandL_len a0 kk) W
        rw [decide_eq_true rfl] at e3
        have hne : ((kk : Int) == (b : Int)) = false := by simp; omega
        have hne2 : ((kk : Int) != (b : Int)) = true := by simp; omega
        generalize bandL a0 kk = z at *
        simp only [ints] at e3 of1 of2
        go_wp2_with fail
        refine wp_region_held_drew (S := (fun W => W.rangeAt g 0 (y.map (Value.int .i64)) ∧ W.rangeAt w.heap.size 0 (a0.map (Value.int .i64)) ∧ W.rangeAt (w.heap.size + 1) 0 (a2.map (Value.int .i64)) ∧ Below w.heap.size w W ∧ g + 1 ≤ W.heap.size)) (by kernel_rfl) ⟨(World.rangeAt_drew _ _ _ _).2 r2, (World.rangeAt_drew _ _ _ _).2 r0, (World.rangeAt_drew _ _ _ _).2 r1, B2.drew, hgl⟩ (fun hHeld => ?_)
        refine wpAnyH_take (i := 0) (oi := ⟨_, _, _, _, _, _⟩) (v := ?_) rfl (by kernel_rfl) (by kernel_rfl) (by kernel_rfl) (fun _ _ _ h => h) (Or.inl ⟨by rfl, ?_⟩) (by assumption) ?_
        rotate_left
        · intro W hSw
          try dsimp only at hSw
          go_simp
          try with_reducible rfl
        try simp only [Act.put, List.setIfInBounds_toArray, List.set_cons_zero, List.set_cons_succ]
        refine wpAnyH_take (i := 1) (oi := ⟨_, _, _, _, _, _⟩) (v := ?_) rfl (by kernel_rfl) (by kernel_rfl) (by kernel_rfl) (fun _ _ _ h => h) (Or.inl ⟨by rfl, ?_⟩) (by assumption) ?_
        rotate_left
        · intro W hSw
          try dsimp only at hSw
          go_simp
          try with_reducible rfl
        try simp only [Act.put, List.setIfInBounds_toArray, List.set_cons_zero, List.set_cons_succ]
        refine wpAnyH_take (i := 2) (oi := ⟨_, _, _, _, _, _⟩) (v := ?_) rfl (by kernel_rfl) (by kernel_rfl) (by kernel_rfl) (fun _ _ _ h => h) (Or.inl ⟨by rfl, ?_⟩) (by assumption) ?_
        rotate_left
        · intro W hSw
          try dsimp only at hSw
          go_simp
          try with_reducible rfl
        try simp only [Act.put, List.setIfInBounds_toArray, List.set_cons_zero, List.set_cons_succ]
        refine wpAnyH_take (i := 3) (oi := ⟨_, _, _, _, _, _⟩) (v := ?_) rfl (by kernel_rfl) (by kernel_rfl) (by kernel_rfl) (fun _ _ _ h => h) (Or.inl ⟨by rfl, ?_⟩) (by assumption) ?_
        rotate_left
        · intro W hSw
          try dsimp only at hSw
          go_simp
          try with_reducible rfl
        try simp only [Act.put, List.setIfInBounds_toArray, List.set_cons_zero, List.set_cons_succ]
        refine wpAnyH_take (i := 4) (oi := ⟨_, _, _, _, _, _⟩) (v := undef) rfl (by kernel_rfl) (by kernel_rfl) (by kernel_rfl) (fun _ _ _ h => h) (Or.inr ⟨by rfl, rfl⟩) (by assumption) ?_
        try simp only [Act.put, List.setIfInBounds_toArray, List.set_cons_zero, List.set_cons_succ]
        refine wpAnyH_take (i := 5) (oi := ⟨_, _, _, _, _, _⟩) (v := undef) rfl (by kernel_rfl) (by kernel_rfl) (by kernel_rfl) (fun _ _ _ h => h) (Or.inr ⟨by rfl, rfl⟩) (by assumption) ?_
        try simp only [Act.put, List.setIfInBounds_toArray, List.set_cons_zero, List.set_cons_succ]
        refine wpAnyH_take (i := 6) (oi := ⟨_, _, _, _, _, _⟩) (v := undef) rfl (by kernel_rfl) (by kernel_rfl) (by kernel_rfl) (fun _ _ _ h => h) (Or.inr ⟨by rfl, rfl⟩) (by assumption) ?_
        try simp only [Act.put, List.setIfInBounds_toArray, List.set_cons_zero, List.set_cons_succ]
        refine wpAnyH_take (i := 7) (oi := ⟨_, _, _, _, _, _⟩) (v := undef) rfl (by kernel_rfl) (by kernel_rfl) (by kernel_rfl) (fun _ _ _ h => h) (Or.inr ⟨by rfl, rfl⟩) (by assumption) ?_
        try simp only [Act.put, List.setIfInBounds_toArray, List.set_cons_zero, List.set_cons_succ]
        refine wpAnyH_take (i := 8) (oi := ⟨_, _, _, _, _, _⟩) (v := undef) rfl (by kernel_rfl) (by kernel_rfl) (by kernel_rfl) (fun _ _ _ h => h) (Or.inr ⟨by rfl, rfl⟩) (by assumption) ?_
        try simp only [Act.put, List.setIfInBounds_toArray, List.set_cons_zero, List.set_cons_succ]
        refine wpAnyH_take (i := 9) (oi := ⟨_, _, _, _, _, _⟩) (v := ?_) rfl (by kernel_rfl) (by kernel_rfl) (by kernel_rfl) (fun _ _ _ h => h) (Or.inl ⟨by rfl, ?_⟩) (by assumption) ?_
        rotate_left
        · intro W hSw
          try dsimp only at hSw
          go_simp
          try with_reducible rfl
        try simp only [Act.put, List.setIfInBounds_toArray, List.set_cons_zero, List.set_cons_succ]
        refine wpAnyH_take (i := 10) (oi := ⟨_, _, _, _, _, _⟩) (v := ?_) rfl (by kernel_rfl) (by kernel_rfl) (by kernel_rfl) (fun _ _ _ h => h) (Or.inl ⟨by rfl, ?_⟩) (by assumption) ?_
        rotate_left
        · intro W hSw
          try dsimp only at hSw
          go_simp
          try with_reducible rfl
        try simp only [Act.put, List.setIfInBounds_toArray, List.set_cons_zero, List.set_cons_succ]
        refine wpAnyH_take (i := 11) (oi := ⟨_, _, _, _, _, _⟩) (v := ?_) rfl (by kernel_rfl) (by kernel_rfl) (by kernel_rfl) (fun _ _ _ h => h) (Or.inl ⟨by rfl, ?_⟩) (by assumption) ?_
        rotate_left
        · intro W hSw
          try dsimp only at hSw
          go_simp
          try with_reducible rfl
        try simp only [Act.put, List.setIfInBounds_toArray, List.set_cons_zero, List.set_cons_succ]
        refine wpAnyH_take (i := 12) (oi := ⟨_, _, _, _, _, _⟩) (v := ?_) rfl (by kernel_rfl) (by kernel_rfl) (by kernel_rfl) (fun _ _ _ h => h) (Or.inl ⟨by rfl, ?_⟩) (by assumption) ?_
        rotate_left
        · intro W hSw
          try dsimp only at hSw
          go_simp
          try with_reducible rfl
        try simp only [Act.put, List.setIfInBounds_toArray, List.set_cons_zero, List.set_cons_succ]
        refine wpAnyH_take (i := 13) (oi := ⟨_, _, _, _, _, _⟩) (v := ?_) rfl (by kernel_rfl) (by kernel_rfl) (by kernel_rfl) (fun _ _ _ h => h) (Or.inl ⟨by rfl, ?_⟩) (by assumption) ?_
        rotate_left
        · intro W hSw
          try dsimp only at hSw
          go_simp
          try with_reducible rfl
        try simp only [Act.put, List.setIfInBounds_toArray, List.set_cons_zero, List.set_cons_succ]
        refine wpAnyH_take (i := 14) (oi := ⟨_, _, _, _, _, _⟩) (v := ?_) rfl (by kernel_rfl) (by kernel_rfl) (by kernel_rfl) (fun _ _ _ h => h) (Or.inl ⟨by rfl, ?_⟩) (by assumption) ?_
        rotate_left
        · intro W hSw
          try dsimp only at hSw
          go_simp
          try with_reducible rfl
        try simp only [Act.put, List.setIfInBounds_toArray, List.set_cons_zero, List.set_cons_succ]
        refine wpAnyH_take (i := 15) (oi := ⟨_, _, _, _, _, _⟩) (v := _) rfl (by kernel_rfl) (by kernel_rfl) (by kernel_rfl) (fun _ _ _ h => h) (yieldsIf_load_mid (by rfl) _ _ rfl _ _ rfl _ _ (fun _ h => h.1) hu1 rfl hi1) (by assumption) ?_
        try simp only [Act.put, List.setIfInBounds_toArray, List.set_cons_zero, List.set_cons_succ]
        refine wpAnyH_take (i := 16) (oi := ⟨_, _, _, _, _, _⟩) (v := ?_) rfl (by kernel_rfl) (by kernel_rfl) (by kernel_rfl) (fun _ _ _ h => h) (Or.inl ⟨by rfl, ?_⟩) (by assumption) ?_
        rotate_left
        · intro W hSw
          try dsimp only at hSw
          go_simp
          try with_reducible rfl
        try simp only [Act.put, List.setIfInBounds_toArray, List.set_cons_zero, List.set_cons_succ]
        refine wpAnyH_take (i := 18) (oi := ⟨_, _, _, _, _, _⟩) (v := _) rfl (by kernel_rfl) (by kernel_rfl) (by kernel_rfl) (fun _ _ _ h => h) (yieldsIf_load_mid (by rfl) _ _ rfl _ _ rfl _ _ (fun _ h => h.2.1) hu0 rfl hi0) (by assumption) ?_
        try simp only [Act.put, List.setIfInBounds_toArray, List.set_cons_zero, List.set_cons_succ]
        refine wpAnyH_take (i := 19) (oi := ⟨_, _, _, _, _, _⟩) (v := ?_) rfl (by kernel_rfl) (by kernel_rfl) (by kernel_rfl) (fun _ _ _ h => h) (Or.inl ⟨by rfl, ?_⟩) (by assumption) ?_
        rotate_left
        · intro W hSw
          try dsimp only at hSw
          go_simp
          try with_reducible rfl
        try simp only [Act.put, List.setIfInBounds_toArray, List.set_cons_zero, List.set_cons_succ]
        refine wpAnyH_ready (rs := [17]) (by kernel_rfl) (by simp) ?_
        refine AllReadyH.cons (o := ⟨_, _, _, _, _, _⟩) rfl (fun K hK => ?_) AllReadyH.nil
        go_simp
        refine (of1 _).mono ?_
        rintro e w' ⟨rfl, hC⟩
        go_simp
        refine hK.out _ _ ⟨range_keep hHeld.1 hC (by omega), range_keep hHeld.2.1 hC (by omega), range_keep hHeld.2.2.1 hC (by omega), bnext hHeld.2.2.2.1 hC, Nat.le_trans hHeld.2.2.2.2 hC.size⟩ (fun hHeld => ?_)
        clear hK K
        try simp only [Act.put, List.setIfInBounds_toArray, List.set_cons_zero, List.set_cons_succ]
        refine wpAnyH_ready (rs := [20]) (by kernel_rfl) (by simp) ?_
        refine AllReadyH.cons (o := ⟨_, _, _, _, _, _⟩) rfl (fun K hK => ?_) AllReadyH.nil
        go_simp
        refine (of2 _).mono ?_
        rintro e w' ⟨rfl, hC⟩
        go_simp
        refine hK.out _ _ ⟨range_keep hHeld.1 hC (by omega), range_keep hHeld.2.1 hC (by omega), range_keep hHeld.2.2.1 hC (by omega), bnext hHeld.2.2.2.1 hC, Nat.le_trans hHeld.2.2.2.2 hC.size⟩ (fun hHeld => ?_)
        clear hK K
        try simp only [Act.put, List.setIfInBounds_toArray, List.set_cons_zero, List.set_cons_succ]
        refine wpAnyH_take (i := 21) (oi := ⟨_, _, _, _, _, _⟩) (v := ?_) rfl (by kernel_rfl) (by kernel_rfl) (by kernel_rfl) (fun _ _ _ h => h) (Or.inl ⟨by rfl, ?_⟩) (by assumption) ?_
        rotate_left
        · intro W hSw
          try dsimp only at hSw
          go_simp
          try with_reducible rfl
        try simp only [Act.put, List.setIfInBounds_toArray, List.set_cons_zero, List.set_cons_succ]
        refine wpAnyH_take (i := 22) (oi := ⟨_, _, _, _, _, _⟩) (v := ?_) rfl (by kernel_rfl) (by kernel_rfl) (by kernel_rfl) (fun _ _ _ h => h) (Or.inl ⟨by rfl, ?_⟩) (by assumption) ?_
        rotate_left
        · intro W hSw
          try dsimp only at hSw
          go_simp
          try with_reducible rfl
        try simp only [Act.put, List.setIfInBounds_toArray, List.set_cons_zero, List.set_cons_succ]
        refine wpAnyH_take (i := 23) (oi := ⟨_, _, _, _, _, _⟩) (v := ?_) rfl (by kernel_rfl) (by kernel_rfl) (by kernel_rfl) (fun _ _ _ h => h) (Or.inl ⟨by rfl, ?_⟩) (by assumption) ?_
        rotate_left
        · intro W hSw
          try dsimp only at hSw
          go_simp
          try with_reducible rfl
        try simp only [Act.put, List.setIfInBounds_toArray, List.set_cons_zero, List.set_cons_succ]
        refine wpAnyH_done (by kernel_rfl) ?_ _
        have hE := Lib.hid hHeld
        clear hHeld e3 of1 of2 hi0 hi1 hi2 r0 r1 r2 B2 hgl hne hne2
        go_wp2_with fail
        go_roundg (8 - (kk + 1))
        case measure => omega
        case rel => exact ⟨kk + 1, by omega, by omega, by go_num, hE.out⟩
    · have hltz : ¬ (kk : Int) < 8 := by omega
      go_wp2_with fail
      go_ret
      exact ⟨rfl, B2⟩

set_option maxHeartbeats 4000000 in
theorem puts_away (a0 a2 : List Int) (b : Int) (l0 : a0.length = 32) (l2 : a2.length = 4) (hb : (decide (0 ≤ b) && decide (b < 8)) = false) (w : World) : Calls Try.prog 8 #[.agg (ints a0), .int .i64 b, .agg (ints a2)] w (LawTrue w) := by
  have b0 := blk_alloc (blk_new w 31 (ints a0)) (.cells (ints a2) 28)
  have b1 := blk_new (w.alloc (.cells (ints a0) 31)) 28 (ints a2)
  rw [show (w.alloc (.cells (ints a0) 31)).heap.size = w.heap.size + 1 by simp] at b1
  have hA : Below w.heap.size w ((w.alloc (.cells (ints a0) 31)).alloc (.cells (ints a2) 28)) := ((Below.refl _ w).alloc (Nat.le_refl _) _).alloc (by simp) _
  have hput := fun W => put_away a0 a2 b W l0 hb
  have hof := fun W => of_away a0 b W hb
  have e1 := fun W => eq_frames l0 l0 W
  rw [decide_eq_true rfl] at e1
  have e2 := fun W => eq_fours (xs := [0, 0, 0, 0]) (ys := [0, 0, 0, 0]) rfl rfl W
  rw [decide_eq_true rfl] at e2
  rw [show ints [0, 0, 0, 0] = #[Value.int .i64 0, Value.int .i64 0, Value.int .i64 0, Value.int .i64 0] from rfl] at e2 hof
  have E1 := Lib.hid e1
  have E2 := Lib.hid e2
  clear e1 e2
  have hbb : b < 0 ∨ 7 < b := by simp at hb; omega
  clear hb
  rcases hbb with hb | hb
  all_goals
    go_enter Try.func8, Try.ntmps8
    go_wp2_with fail
    refine (awake16_calls _).mono ?_
    rintro e w1 ⟨rfl, hB⟩
    have k0 := blk_below b0 hB (blk_lt b0)
    have k1 := blk_below b1 hB (blk_lt b1)
    have B0 := bnext hA hB
    clear b0 b1 hA hB
    go_wp2_with (first | (refine wpList_load_row rfl 31 _ rfl w.heap.size rfl 31 (ints a0) (0, 0) _ k0 Try.underlying31 rfl (by rw [ints_size, l0]; kernel_rfl) ?_) | (refine wpList_load_row rfl 28 _ rfl (w.heap.size + 1) rfl 28 (ints a2) (0, 0) _ k1 Try.underlying28 rfl (by rw [ints_size, l2]; kernel_rfl) ?_))
    refine (hput _).mono ?_
    rintro e w2 ⟨rfl, hC⟩
    have k2 := blk_below k0 hC (blk_lt k0)
    have B1 := bnext B0 hC
    clear k0 k1 hC B0 hput
    have e1 := E1.out
    have e2 := E2.out
    have hs := B1.size
    have lt0 := blk_lt k2
    have nn := blk_new w2 32 #[Value.int .i64 0, Value.int .i64 0, Value.int .i64 0, Value.int .i64 0, Value.int .i64 0, Value.int .i64 0, Value.int .i64 0, Value.int .i64 0, Value.int .i64 0, Value.int .i64 0, Value.int .i64 0, Value.int .i64 0, Value.int .i64 0, Value.int .i64 0, Value.int .i64 0, Value.int .i64 0, Value.int .i64 0, Value.int .i64 0, Value.int .i64 0, Value.int .i64 0, Value.int .i64 0, Value.int .i64 0, Value.int .i64 0, Value.int .i64 0, Value.int .i64 0, Value.int .i64 0, Value.int .i64 0, Value.int .i64 0, Value.int .i64 0, Value.int .i64 0, Value.int .i64 0, Value.int .i64 0]
    go_wp2_with (first | (refine wpList_store_blk rfl 32 _ _ rfl w2.heap.size 32 _ (ints a0) rfl rfl nn (by rw [ints_size, l0]; rfl) (by rw [ints_size, l0]; kernel_rfl) (ints_one _) ?_; intro w3 n0 hg; have k3 := blk_grown (blk_alloc k2 (.cells #[Value.int .i64 0, Value.int .i64 0, Value.int .i64 0, Value.int .i64 0, Value.int .i64 0, Value.int .i64 0, Value.int .i64 0, Value.int .i64 0, Value.int .i64 0, Value.int .i64 0, Value.int .i64 0, Value.int .i64 0, Value.int .i64 0, Value.int .i64 0, Value.int .i64 0, Value.int .i64 0, Value.int .i64 0, Value.int .i64 0, Value.int .i64 0, Value.int .i64 0, Value.int .i64 0, Value.int .i64 0, Value.int .i64 0, Value.int .i64 0, Value.int .i64 0, Value.int .i64 0, Value.int .i64 0, Value.int .i64 0, Value.int .i64 0, Value.int .i64 0, Value.int .i64 0, Value.int .i64 0] 32)) hg (by simp; omega)) | (refine wpList_load_row rfl 32 _ rfl w2.heap.size rfl 32 (ints a0) (0, 0) _ n0 Try.underlying32 rfl (by rw [ints_size, l0]; kernel_rfl) ?_) | (refine wpList_load_wanted (by rfl) 31 _ rfl w.heap.size rfl 31 a0 _ k3 Try.underlying31 rfl (by rw [l0]; kernel_rfl) ?_))
    refine (hof _).mono ?_
    rintro e w4 ⟨rfl, hC⟩
    have B2 := bnext (below_grown (B1.alloc hs (.cells #[Value.int .i64 0, Value.int .i64 0, Value.int .i64 0, Value.int .i64 0, Value.int .i64 0, Value.int .i64 0, Value.int .i64 0, Value.int .i64 0, Value.int .i64 0, Value.int .i64 0, Value.int .i64 0, Value.int .i64 0, Value.int .i64 0, Value.int .i64 0, Value.int .i64 0, Value.int .i64 0, Value.int .i64 0, Value.int .i64 0, Value.int .i64 0, Value.int .i64 0, Value.int .i64 0, Value.int .i64 0, Value.int .i64 0, Value.int .i64 0, Value.int .i64 0, Value.int .i64 0, Value.int .i64 0, Value.int .i64 0, Value.int .i64 0, Value.int .i64 0, Value.int .i64 0, Value.int .i64 0] 32)) hg (by simp; omega) (by omega)) hC
    go_wp2_with fail
    go_ret
    exact ⟨rfl, B2⟩

theorem bandPuts_walk (a0 : List Int) (a1 : Int) (a2 : List Int) (l0 : a0.length = 32) (_w0 : ∀ z ∈ a0, (Lit.int .i64 z).wf = true) (_w1 : (Lit.int .i64 a1).wf = true) (l2 : a2.length = 4) (_w2 : ∀ z ∈ a2, (Lit.int .i64 z).wf = true) (w : World) : Calls Try.prog 8 #[.agg (a0.map (Value.int .i64)).toArray, .int .i64 a1, .agg (a2.map (Value.int .i64)).toArray] w (LawTrue w) := by
  by_cases h : 0 ≤ a1 ∧ a1 < 8
  · obtain ⟨b, rfl⟩ : ∃ b : Nat, a1 = b := ⟨a1.toNat, by omega⟩
    exact puts_in a0 a2 b l0 l2 (by omega) w
  · exact puts_away a0 a2 a1 l0 l2 (by simp; omega) w
end Go.Proofs.Ytnmhbonheaoldaa
