/- Contracts of layer 17: whether pulses may become others; the example; right steps. -/
import Derived.Test.YtnmhbonheaoldaaMaskB
namespace Go.Proofs.Ytnmhbonheaoldaa
open Go.RowKit
attribute [local go_sem ↓] Go.wp_at_zero Go.wp_at_succ

def mayL (s : List Int) (b : Nat) (y z : List Int) : Bool := decide (0 ≤ farL y z) && decide (farL y z ≤ movesL s b)

set_option maxHeartbeats 1000000 in
theorem may_calls (s : List Int) (b : Nat) (ys zs : List Int) (w : World) (hl : s.length = 8) (hr : rightB s = true) (hb : b < 8) (hly : ys.length = 4) (hlz : zs.length = 4) (hiy : ∀ z ∈ ys, -9223372036854775808 ≤ z ∧ z ≤ 9223372036854775807) (hiz : ∀ z ∈ zs, -9223372036854775808 ≤ z ∧ z ≤ 9223372036854775807) :
    Calls Try.prog 39 #[.agg (ints s), .int .i64 b, .agg (ints ys), .agg (ints zs)] w fun e w' => e = .returned (.bool (mayL s b ys zs)) ∧ Below w.heap.size w w' := by
  have b0 := blk_alloc (blk_alloc (blk_new w 37 (ints s)) (.cells (ints ys) 69)) (.cells (ints zs) 69)
  have b1 := blk_alloc (blk_new (w.alloc (.cells (ints s) 37)) 69 (ints ys)) (.cells (ints zs) 69)
  have b2 := blk_new ((w.alloc (.cells (ints s) 37)).alloc (.cells (ints ys) 69)) 69 (ints zs)
  rw [show (w.alloc (.cells (ints s) 37)).heap.size = w.heap.size + 1 by simp] at b1
  rw [show ((w.alloc (.cells (ints s) 37)).alloc (.cells (ints ys) 69)).heap.size = w.heap.size + 2 by simp] at b2
  have hA : Below w.heap.size w (((w.alloc (.cells (ints s) 37)).alloc (.cells (ints ys) 69)).alloc (.cells (ints zs) 69)) := (((Below.refl _ w).alloc (Nat.le_refl _) _).alloc (by simp) _).alloc (by simp; omega) _
  have cf := fun W => far_calls ys zs W hly hlz hiy hiz
  have cm := fun W => maskMay_calls s b W hl (right_in hr)
  rw [hr, show (true && decide (0 ≤ (b : Int)) && decide ((b : Int) < 8)) = true by simp; omega] at cm
  have cv := fun W => moves_calls s b W hl hr hb
  unfold mayL
  generalize farL ys zs = n at *
  generalize movesL s b = m at *
  clear hr hiy hiz
  go_enter Try.func39, Try.ntmps39
  go_wp2_with (first | (refine wpList_load_row rfl 69 _ rfl (w.heap.size + 1) rfl 69 (ints ys) (0, 0) _ b1 Try.underlying69 rfl (by rw [ints_size, hly]; kernel_rfl) ?_) | (refine wpList_load_row rfl 69 _ rfl (w.heap.size + 2) rfl 69 (ints zs) (0, 0) _ b2 Try.underlying69 rfl (by rw [ints_size, hlz]; kernel_rfl) ?_))
  refine (cf _).mono ?_
  rintro e w1 ⟨rfl, hB⟩
  have hE := bnext hA hB
  have k0 := blk_below b0 hB (blk_lt b0)
  clear hA hB b0 b1 b2 cf
  go_wp2_with (first | (refine wpList_load_row rfl 37 _ rfl w.heap.size rfl 37 (ints s) (0, 0) _ k0 Try.underlying37 rfl (by rw [ints_size, hl]; kernel_rfl) ?_))
  refine (cm _).mono ?_
  rintro e w2 ⟨rfl, hB⟩
  have hE2 := bnext hE hB
  have k1 := blk_below k0 hB (blk_lt k0)
  clear hE hB k0 cm
  by_cases h1 : 0 ≤ n
  · go_wp2_with (first | (refine wpList_load_wanted (by rfl) 37 _ rfl w.heap.size rfl 37 s _ k1 Try.underlying37 rfl (by rw [hl]; kernel_rfl) ?_))
    refine (cv _).mono ?_
    rintro e w3 ⟨rfl, hB⟩
    have hE3 := bnext hE2 hB
    clear hE2 hB k1 cv
    by_cases h2 : n ≤ m
    · go_wp2_with fail
      go_ret
      exact ⟨by simp [h1, h2], hE3⟩
    · go_wp2_with fail
      go_ret
      exact ⟨by simp; omega, hE3⟩
  · go_wp2_with fail
    go_ret
    exact ⟨by simp; omega, hE2⟩

set_option maxHeartbeats 1000000 in
theorem may_away (s : List Int) (b : Int) (ys zs : List Int) (w : World) (hl : s.length = 8) (hi : ∀ z ∈ s, -9223372036854775808 ≤ z ∧ z ≤ 9223372036854775807) (hr : (rightB s && decide (0 ≤ b) && decide (b < 8)) = false) (hly : ys.length = 4) (hlz : zs.length = 4) (hiy : ∀ z ∈ ys, -9223372036854775808 ≤ z ∧ z ≤ 9223372036854775807) (hiz : ∀ z ∈ zs, -9223372036854775808 ≤ z ∧ z ≤ 9223372036854775807) :
    Calls Try.prog 39 #[.agg (ints s), .int .i64 b, .agg (ints ys), .agg (ints zs)] w fun e w' => e = .returned (.bool false) ∧ Below w.heap.size w w' := by
  have b0 := blk_alloc (blk_alloc (blk_new w 37 (ints s)) (.cells (ints ys) 69)) (.cells (ints zs) 69)
  have b1 := blk_alloc (blk_new (w.alloc (.cells (ints s) 37)) 69 (ints ys)) (.cells (ints zs) 69)
  have b2 := blk_new ((w.alloc (.cells (ints s) 37)).alloc (.cells (ints ys) 69)) 69 (ints zs)
  rw [show (w.alloc (.cells (ints s) 37)).heap.size = w.heap.size + 1 by simp] at b1
  rw [show ((w.alloc (.cells (ints s) 37)).alloc (.cells (ints ys) 69)).heap.size = w.heap.size + 2 by simp] at b2
  have hA : Below w.heap.size w (((w.alloc (.cells (ints s) 37)).alloc (.cells (ints ys) 69)).alloc (.cells (ints zs) 69)) := (((Below.refl _ w).alloc (Nat.le_refl _) _).alloc (by simp) _).alloc (by simp; omega) _
  have cf := fun W => far_calls ys zs W hly hlz hiy hiz
  have cm := fun W => maskMay_calls s b W hl hi
  rw [hr] at cm
  generalize farL ys zs = n at *
  clear hr hiy hiz hi
  go_enter Try.func39, Try.ntmps39
  go_wp2_with (first | (refine wpList_load_row rfl 69 _ rfl (w.heap.size + 1) rfl 69 (ints ys) (0, 0) _ b1 Try.underlying69 rfl (by rw [ints_size, hly]; kernel_rfl) ?_) | (refine wpList_load_row rfl 69 _ rfl (w.heap.size + 2) rfl 69 (ints zs) (0, 0) _ b2 Try.underlying69 rfl (by rw [ints_size, hlz]; kernel_rfl) ?_))
  refine (cf _).mono ?_
  rintro e w1 ⟨rfl, hB⟩
  have hE := bnext hA hB
  have k0 := blk_below b0 hB (blk_lt b0)
  clear hA hB b0 b1 b2 cf
  go_wp2_with (first | (refine wpList_load_row rfl 37 _ rfl w.heap.size rfl 37 (ints s) (0, 0) _ k0 Try.underlying37 rfl (by rw [ints_size, hl]; kernel_rfl) ?_))
  refine (cm _).mono ?_
  rintro e w2 ⟨rfl, hB⟩
  have hE2 := bnext hE hB
  clear hE hB k0 cm
  go_wp2_with fail
  go_ret
  exact ⟨rfl, hE2⟩

theorem eq_sides {xs ys : List Int} (hx : xs.length = 8) (hy : ys.length = 8) (w : World) : (Op.equalIn 10000 37 (.agg (ints xs)) (.agg (ints ys))).run Try.prog w = .ok (decide (xs = ys)) w := by
  obtain ⟨i, hi⟩ := info_of_underlying (P := Try.prog) (t := 3) Try.underlying3
  exact eqI_of Try.underlying37 Try.underlying3 hi (by kernel_rfl) 9998 hx hy w

theorem buds_eg : budsL [8, 0, 0, 0, 0, 0, 0, 0] = [1024, 512, 256, 128, 64, 32, 16, 8] := by decide +kernel
theorem awake17_calls (w : World) : Calls Try.prog 26 #[] w fun e w' => e = .returned (.bool true) ∧ Below w.heap.size w w' := by
  have h1 := fun w => all_calls [8, 0, 0, 0, 0, 0, 0, 0] w rfl (by decide +kernel)
  rw [buds_eg] at h1
  have e1 := fun W => eq_sides (xs := [1024, 512, 256, 128, 64, 32, 16, 8]) (ys := [1024, 512, 256, 128, 64, 32, 16, 8]) rfl rfl W
  rw [decide_eq_true rfl] at e1
  simp only [ints, List.map_cons, List.map_nil] at e1
  go_enter Try.func26, Try.ntmps26
  go_wp2_with fail
  refine (h1 _).mono ?_
  rintro e w1 ⟨rfl, hB⟩
  simp only [ints, List.map_cons, List.map_nil]
  go_wp2_with fail
  go_ret
  exact ⟨rfl, hB⟩

theorem and_15 (s : Int) : bits BinOp.and IntKind.i64 s 15 = s % 16 := by
  show IntKind.i64.wrap ((BitVec.ofInt 64 s &&& BitVec.ofInt 64 (15 : Int)).toNat : Int) = _
  rw [BitVec.toNat_and, BitVec.toNat_ofInt, show (BitVec.ofInt 64 15).toNat = 2 ^ 4 - 1 from rfl, Nat.and_two_pow_sub_one_eq_mod, IntKind.wrap_i64]
  omega

set_option maxHeartbeats 1000000 in
theorem held17_calls (zs : List Int) (w : World) (hl : zs.length = 8) (hi : ∀ z ∈ zs, -9223372036854775808 ≤ z ∧ z ≤ 9223372036854775807) :
    Calls Try.prog 28 #[.agg (ints zs)] w fun e w' => e = .returned (.agg (ints (zs.map (· % 16)))) ∧ Below w.heap.size w w' := by
  have b0 := blk_alloc (blk_new w 36 (ints zs)) (.cells #[Value.int .i64 0, Value.int .i64 0, Value.int .i64 0, Value.int .i64 0, Value.int .i64 0, Value.int .i64 0, Value.int .i64 0, Value.int .i64 0] 37)
  have b1 := blk_new (w.alloc (.cells (ints zs) 36)) 37 (ints (List.replicate 8 0))
  rw [show (w.alloc (.cells (ints zs) 36)).heap.size = w.heap.size + 1 by simp] at b1
  have hA : Below w.heap.size w ((w.alloc (.cells (ints zs) 36)).alloc (.cells #[Value.int .i64 0, Value.int .i64 0, Value.int .i64 0, Value.int .i64 0, Value.int .i64 0, Value.int .i64 0, Value.int .i64 0, Value.int .i64 0] 37)) := ((Below.refl _ w).alloc (Nat.le_refl _) _).alloc (by simp) _
  have B0 := Lib.hid b0
  have B1 := Lib.hid b1
  have HI := Lib.hid hi
  clear b0 b1 hi
  go_enter Try.func28, Try.ntmps28
  go_wp2_with fail
  go_loopg [3] 8 (fun gg s3 wr => ∃ kk : Nat, kk ≤ 8 ∧ 8 - kk ≤ gg ∧ s3 = .int .i64 kk ∧ Aside (Below w.heap.size w wr) ∧ Aside (Blk wr w.heap.size 36 (ints (overTo (fun i => zs.getD i 0 % 16) zs kk))) ∧ Aside (Blk wr (w.heap.size + 1) 37 (ints (List.replicate 8 0))))
  case atStart => exact ⟨0, Nat.zero_le _, by omega, rfl, hA, by rw [overTo_zero]; exact B0.out, B1.out⟩
  case round =>
    obtain ⟨kk, hkk, hg, rfl, B, K0, K1⟩ := hrel
    by_cases hlt : kk < 8
    · have hltz : (kk : Int) < 8 := by omega
      have hlo := overTo_len (fun i => zs.getD i 0 % 16) zs kk
      have c0 := blk_int K0.out (i := kk) (by omega)
      rw [overTo_get (by omega), if_neg (by omega)] at c0
      have f0 := blk_free K0.out kk
      have hw := HI.out (zs.getD kk 0) (by rw [List.getD_eq_getElem?_getD, List.getElem?_eq_getElem (by omega)]; exact List.getElem_mem (by omega))
      generalize hs : zs.getD kk 0 = s at *
      have HS := Lib.hid hs
      clear hs hlo
      have ha := and_15 s
      go_wp2_with fail
      go_roundg (8 - (kk + 1))
      case measure => omega
      case rel =>
        refine ⟨kk + 1, by omega, by omega, by go_num, B.out.setCell (p := ⟨_, _, none⟩) (Nat.le_refl _) _, ?_, blk_far K1.out (by omega) _⟩
        have h := blk_set_int K0.out kk (s % 16)
        rw [overTo_succ (by rw [← HS.out]) (by omega)] at h
        exact h
    · have hltz : ¬ (kk : Int) < 8 := by omega
      have : kk = 8 := by omega
      subst this
      have k0 := K0.out
      have k1 := K1.out
      rw [overTo_all hl, range_map_get (f := (· % 16)) hl] at k0
      have hls : (zs.map (· % 16)).length = 8 := by rw [List.length_map, hl]
      have hsz := B.out.size
      clear K0 K1
      go_wp2_with (first | (refine wpList_load_row rfl 36 _ rfl w.heap.size rfl 36 (ints (zs.map (· % 16))) (0, 0) _ k0 Try.underlying36 rfl (by rw [ints_size, hls]; kernel_rfl) ?_) | (refine wpList_store_blk rfl 37 _ _ rfl (w.heap.size + 1) 37 _ (ints (zs.map (· % 16))) rfl rfl k1 (by rw [ints_size, ints_size, hls]; simp) (by rw [ints_size, hls]; kernel_rfl) (ints_one _) ?_; intro w2 n0 hg))
      exact bodyPost_ret (results_cell_row rfl _ _ (w.heap.size + 1) 37 (ints (zs.map (· % 16))) (0, 0) _ rfl n0 Try.underlying37 rfl (by rw [ints_size, hls]; kernel_rfl)) rfl ⟨rfl, below_grown B.out hg hsz (by omega)⟩
end Go.Proofs.Ytnmhbonheaoldaa
