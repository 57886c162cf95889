/- The contract of dct.Back. -/
import Derived.Test.YtlfiaaoegeodnaaDctH
import Derived.Test.YtlfiaaoegeodnaaDctS
import Derived.Deep.LoopGhost
import Derived.Deep.RegionWith
import Derived.Deep.DrawnRows
import Derived.StillTailTactics
namespace Go.Proofs.Ytlfiaaoegeodnaa
open Go.RowKit
attribute [local go_sem ↓] Go.wp_at_zero Go.wp_at_succ

set_option maxHeartbeats 4000000 in
theorem dback_away (zs : List Int) (w : World) (hl : zs.length = 32) (hi : ∀ z ∈ zs, -9223372036854775808 ≤ z ∧ z ≤ 9223372036854775807) (hh : heldB zs = false) :
    Calls Try.prog 47 #[.agg (ints zs)] w fun e w' => e = .returned (.agg (ints (zs))) ∧ Below w.heap.size w w' := by
  have hzf : (#[Value.int .i64 0, Value.int .i64 0, Value.int .i64 0, Value.int .i64 0, Value.int .i64 0, Value.int .i64 0, Value.int .i64 0, Value.int .i64 0, Value.int .i64 0, Value.int .i64 0, Value.int .i64 0, Value.int .i64 0, Value.int .i64 0, Value.int .i64 0, Value.int .i64 0, Value.int .i64 0, Value.int .i64 0, Value.int .i64 0, Value.int .i64 0, Value.int .i64 0, Value.int .i64 0, Value.int .i64 0, Value.int .i64 0, Value.int .i64 0, Value.int .i64 0, Value.int .i64 0, Value.int .i64 0, Value.int .i64 0, Value.int .i64 0, Value.int .i64 0, Value.int .i64 0, Value.int .i64 0]) = ints (List.replicate 32 0) := by kernel_rfl
  have b0 : Blk ((w.alloc (.cells (ints zs) 44)).alloc (.cells (#[Value.int .i64 0, Value.int .i64 0, Value.int .i64 0, Value.int .i64 0, Value.int .i64 0, Value.int .i64 0, Value.int .i64 0, Value.int .i64 0, Value.int .i64 0, Value.int .i64 0, Value.int .i64 0, Value.int .i64 0, Value.int .i64 0, Value.int .i64 0, Value.int .i64 0, Value.int .i64 0, Value.int .i64 0, Value.int .i64 0, Value.int .i64 0, Value.int .i64 0, Value.int .i64 0, Value.int .i64 0, Value.int .i64 0, Value.int .i64 0, Value.int .i64 0, Value.int .i64 0, Value.int .i64 0, Value.int .i64 0, Value.int .i64 0, Value.int .i64 0, Value.int .i64 0, Value.int .i64 0]) 44)) w.heap.size 44 (ints zs) := blk_alloc (blk_new w 44 (ints zs)) _
  have b1 : Blk ((w.alloc (.cells (ints zs) 44)).alloc (.cells (#[Value.int .i64 0, Value.int .i64 0, Value.int .i64 0, Value.int .i64 0, Value.int .i64 0, Value.int .i64 0, Value.int .i64 0, Value.int .i64 0, Value.int .i64 0, Value.int .i64 0, Value.int .i64 0, Value.int .i64 0, Value.int .i64 0, Value.int .i64 0, Value.int .i64 0, Value.int .i64 0, Value.int .i64 0, Value.int .i64 0, Value.int .i64 0, Value.int .i64 0, Value.int .i64 0, Value.int .i64 0, Value.int .i64 0, Value.int .i64 0, Value.int .i64 0, Value.int .i64 0, Value.int .i64 0, Value.int .i64 0, Value.int .i64 0, Value.int .i64 0, Value.int .i64 0, Value.int .i64 0]) 44)) (w.heap.size + 1) 44 (ints (List.replicate 32 0)) := by
    have h := blk_new (w.alloc (.cells (ints zs) 44)) 44 (#[Value.int .i64 0, Value.int .i64 0, Value.int .i64 0, Value.int .i64 0, Value.int .i64 0, Value.int .i64 0, Value.int .i64 0, Value.int .i64 0, Value.int .i64 0, Value.int .i64 0, Value.int .i64 0, Value.int .i64 0, Value.int .i64 0, Value.int .i64 0, Value.int .i64 0, Value.int .i64 0, Value.int .i64 0, Value.int .i64 0, Value.int .i64 0, Value.int .i64 0, Value.int .i64 0, Value.int .i64 0, Value.int .i64 0, Value.int .i64 0, Value.int .i64 0, Value.int .i64 0, Value.int .i64 0, Value.int .i64 0, Value.int .i64 0, Value.int .i64 0, Value.int .i64 0, Value.int .i64 0])
    rw [hzf] at h ⊢
    simpa using h
  have hA : Below w.heap.size w ((w.alloc (.cells (ints zs) 44)).alloc (.cells (#[Value.int .i64 0, Value.int .i64 0, Value.int .i64 0, Value.int .i64 0, Value.int .i64 0, Value.int .i64 0, Value.int .i64 0, Value.int .i64 0, Value.int .i64 0, Value.int .i64 0, Value.int .i64 0, Value.int .i64 0, Value.int .i64 0, Value.int .i64 0, Value.int .i64 0, Value.int .i64 0, Value.int .i64 0, Value.int .i64 0, Value.int .i64 0, Value.int .i64 0, Value.int .i64 0, Value.int .i64 0, Value.int .i64 0, Value.int .i64 0, Value.int .i64 0, Value.int .i64 0, Value.int .i64 0, Value.int .i64 0, Value.int .i64 0, Value.int .i64 0, Value.int .i64 0, Value.int .i64 0]) 44)) := ((Below.refl _ w).alloc (Nat.le_refl _) _).alloc (by simp) _
  go_enter Try.func47, Try.ntmps47
  go_wp2_with (first | (refine wpList_load_row rfl 44 _ rfl w.heap.size rfl 44 (ints zs) (0, 0) _ b0 Try.underlying44 rfl (by rw [ints_size, hl]; kernel_rfl) ?_))
  refine (held_calls zs _ hl hi).mono ?_
  rintro e w1 ⟨rfl, hB⟩
  have k0 := blk_below b0 hB (blk_lt b0)
  have k1 := blk_below b1 hB (blk_lt b1)
  have kA := bnext hA hB
  have ks : w.heap.size + 2 ≤ w1.heap.size := by have := hB.size; simp at this; omega
  clear b0 b1 hA hB hzf
  rw [hh]
  have hs := kA.size
  clear ks hi hh
  go_wp2_with (first | (refine wpList_load_row rfl 44 _ rfl w.heap.size rfl 44 (ints zs) (0, 0) _ k0 Try.underlying44 rfl (by rw [ints_size, hl]; kernel_rfl) ?_) | (refine wpList_store_blk rfl 44 _ _ rfl (w.heap.size + 1) 44 _ (ints zs) rfl rfl k1 (by rw [ints_size, ints_size, hl]; simp) (by rw [ints_size, hl]; kernel_rfl) (ints_one _) ?_; intro w2 n0 hg))
  exact bodyPost_ret (results_cell_row rfl _ _ (w.heap.size + 1) 44 (ints zs) (0, 0) _ rfl n0 Try.underlying44 rfl (by rw [ints_size, hl]; kernel_rfl)) rfl ⟨rfl, below_grown kA hg hs (by omega)⟩

set_option maxHeartbeats 8000000 in
theorem dback_calls (zs : List Int) (w : World) (hl : zs.length = 32) (hi : ∀ z ∈ zs, -9223372036854775808 ≤ z ∧ z ≤ 9223372036854775807) (hh : heldB zs = true) (hf : BackFit zs) :
    Calls Try.prog 47 #[.agg (ints zs)] w fun e w' => e = .returned (.agg (ints (dbackL zs))) ∧ Below w.heap.size w w' := by
  have hzf : (#[Value.int .i64 0, Value.int .i64 0, Value.int .i64 0, Value.int .i64 0, Value.int .i64 0, Value.int .i64 0, Value.int .i64 0, Value.int .i64 0, Value.int .i64 0, Value.int .i64 0, Value.int .i64 0, Value.int .i64 0, Value.int .i64 0, Value.int .i64 0, Value.int .i64 0, Value.int .i64 0, Value.int .i64 0, Value.int .i64 0, Value.int .i64 0, Value.int .i64 0, Value.int .i64 0, Value.int .i64 0, Value.int .i64 0, Value.int .i64 0, Value.int .i64 0, Value.int .i64 0, Value.int .i64 0, Value.int .i64 0, Value.int .i64 0, Value.int .i64 0, Value.int .i64 0, Value.int .i64 0]) = ints (List.replicate 32 0) := by kernel_rfl
  have b0 : Blk ((w.alloc (.cells (ints zs) 44)).alloc (.cells (#[Value.int .i64 0, Value.int .i64 0, Value.int .i64 0, Value.int .i64 0, Value.int .i64 0, Value.int .i64 0, Value.int .i64 0, Value.int .i64 0, Value.int .i64 0, Value.int .i64 0, Value.int .i64 0, Value.int .i64 0, Value.int .i64 0, Value.int .i64 0, Value.int .i64 0, Value.int .i64 0, Value.int .i64 0, Value.int .i64 0, Value.int .i64 0, Value.int .i64 0, Value.int .i64 0, Value.int .i64 0, Value.int .i64 0, Value.int .i64 0, Value.int .i64 0, Value.int .i64 0, Value.int .i64 0, Value.int .i64 0, Value.int .i64 0, Value.int .i64 0, Value.int .i64 0, Value.int .i64 0]) 44)) w.heap.size 44 (ints zs) := blk_alloc (blk_new w 44 (ints zs)) _
  have b1 : Blk ((w.alloc (.cells (ints zs) 44)).alloc (.cells (#[Value.int .i64 0, Value.int .i64 0, Value.int .i64 0, Value.int .i64 0, Value.int .i64 0, Value.int .i64 0, Value.int .i64 0, Value.int .i64 0, Value.int .i64 0, Value.int .i64 0, Value.int .i64 0, Value.int .i64 0, Value.int .i64 0, Value.int .i64 0, Value.int .i64 0, Value.int .i64 0, Value.int .i64 0, Value.int .i64 0, Value.int .i64 0, Value.int .i64 0, Value.int .i64 0, Value.int .i64 0, Value.int .i64 0, Value.int .i64 0, Value.int .i64 0, Value.int .i64 0, Value.int .i64 0, Value.int .i64 0, Value.int .i64 0, Value.int .i64 0, Value.int .i64 0, Value.int .i64 0]) 44)) (w.heap.size + 1) 44 (ints (List.replicate 32 0)) := by
    have h := blk_new (w.alloc (.cells (ints zs) 44)) 44 (#[Value.int .i64 0, Value.int .i64 0, Value.int .i64 0, Value.int .i64 0, Value.int .i64 0, Value.int .i64 0, Value.int .i64 0, Value.int .i64 0, Value.int .i64 0, Value.int .i64 0, Value.int .i64 0, Value.int .i64 0, Value.int .i64 0, Value.int .i64 0, Value.int .i64 0, Value.int .i64 0, Value.int .i64 0, Value.int .i64 0, Value.int .i64 0, Value.int .i64 0, Value.int .i64 0, Value.int .i64 0, Value.int .i64 0, Value.int .i64 0, Value.int .i64 0, Value.int .i64 0, Value.int .i64 0, Value.int .i64 0, Value.int .i64 0, Value.int .i64 0, Value.int .i64 0, Value.int .i64 0])
    rw [hzf] at h ⊢
    simpa using h
  have hA : Below w.heap.size w ((w.alloc (.cells (ints zs) 44)).alloc (.cells (#[Value.int .i64 0, Value.int .i64 0, Value.int .i64 0, Value.int .i64 0, Value.int .i64 0, Value.int .i64 0, Value.int .i64 0, Value.int .i64 0, Value.int .i64 0, Value.int .i64 0, Value.int .i64 0, Value.int .i64 0, Value.int .i64 0, Value.int .i64 0, Value.int .i64 0, Value.int .i64 0, Value.int .i64 0, Value.int .i64 0, Value.int .i64 0, Value.int .i64 0, Value.int .i64 0, Value.int .i64 0, Value.int .i64 0, Value.int .i64 0, Value.int .i64 0, Value.int .i64 0, Value.int .i64 0, Value.int .i64 0, Value.int .i64 0, Value.int .i64 0, Value.int .i64 0, Value.int .i64 0]) 44)) := ((Below.refl _ w).alloc (Nat.le_refl _) _).alloc (by simp) _
  have eg : ∀ args w, (callFunc 73 args).run Try.prog w = .ok (.enter 73 args) w := enters_at Try.func73 (by kernel_rfl) rfl
  have hH := held_in.1 hh
  obtain ⟨hF1, hF2, hF3, hF4, hF5, hF6⟩ := hf
  have F1 := Lib.hid hF1
  have F2 := Lib.hid hF2
  have F3 := Lib.hid hF3
  have F4 := Lib.hid hF4
  have F5 := Lib.hid hF5
  obtain ⟨st, hst⟩ : ∃ st, st = bmid4 (binTo zs 16) := ⟨_, rfl⟩
  unfold dbackL
  rw [← hst] at hF6 ⊢
  have F6 := Lib.hid hF6
  have HST := Lib.hid hst
  have HH := Lib.hid hH
  have EG := Lib.hid eg
  clear hF1 hF2 hF3 hF4 hF5 hF6 hH eg hst
  go_enter Try.func47, Try.ntmps47
  go_wp2_with (first | (refine wpList_load_row rfl 44 _ rfl w.heap.size rfl 44 (ints zs) (0, 0) _ b0 Try.underlying44 rfl (by rw [ints_size, hl]; kernel_rfl) ?_))
  refine (held_calls zs _ hl hi).mono ?_
  rintro e w1 ⟨rfl, hB⟩
  have k0 := blk_below b0 hB (blk_lt b0)
  have k1 := blk_below b1 hB (blk_lt b1)
  have kA := bnext hA hB
  have ks : w.heap.size + 2 ≤ w1.heap.size := by have := hB.size; simp at this; omega
  clear b0 b1 hA hB hzf
  rw [hh]
  go_wp2_with fail
  have hz : (#[Value.int .i64 0, Value.int .i64 0, Value.int .i64 0, Value.int .i64 0, Value.int .i64 0, Value.int .i64 0, Value.int .i64 0, Value.int .i64 0, Value.int .i64 0, Value.int .i64 0, Value.int .i64 0, Value.int .i64 0, Value.int .i64 0, Value.int .i64 0, Value.int .i64 0, Value.int .i64 0, Value.int .i64 0, Value.int .i64 0, Value.int .i64 0, Value.int .i64 0, Value.int .i64 0, Value.int .i64 0, Value.int .i64 0, Value.int .i64 0, Value.int .i64 0, Value.int .i64 0, Value.int .i64 0, Value.int .i64 0, Value.int .i64 0, Value.int .i64 0, Value.int .i64 0, Value.int .i64 0]) = ints (List.replicate 32 0) := by kernel_rfl
  have g0 : Blk (w1.alloc (.cells (#[Value.int .i64 0, Value.int .i64 0, Value.int .i64 0, Value.int .i64 0, Value.int .i64 0, Value.int .i64 0, Value.int .i64 0, Value.int .i64 0, Value.int .i64 0, Value.int .i64 0, Value.int .i64 0, Value.int .i64 0, Value.int .i64 0, Value.int .i64 0, Value.int .i64 0, Value.int .i64 0, Value.int .i64 0, Value.int .i64 0, Value.int .i64 0, Value.int .i64 0, Value.int .i64 0, Value.int .i64 0, Value.int .i64 0, Value.int .i64 0, Value.int .i64 0, Value.int .i64 0, Value.int .i64 0, Value.int .i64 0, Value.int .i64 0, Value.int .i64 0, Value.int .i64 0, Value.int .i64 0]) 75)) w1.heap.size 75 (ints (List.replicate 32 0)) := by
    have h := blk_new w1 75 (#[Value.int .i64 0, Value.int .i64 0, Value.int .i64 0, Value.int .i64 0, Value.int .i64 0, Value.int .i64 0, Value.int .i64 0, Value.int .i64 0, Value.int .i64 0, Value.int .i64 0, Value.int .i64 0, Value.int .i64 0, Value.int .i64 0, Value.int .i64 0, Value.int .i64 0, Value.int .i64 0, Value.int .i64 0, Value.int .i64 0, Value.int .i64 0, Value.int .i64 0, Value.int .i64 0, Value.int .i64 0, Value.int .i64 0, Value.int .i64 0, Value.int .i64 0, Value.int .i64 0, Value.int .i64 0, Value.int .i64 0, Value.int .i64 0, Value.int .i64 0, Value.int .i64 0, Value.int .i64 0])
    rw [hz] at h ⊢
    exact h
  have K0 := Lib.hid (blk_alloc k0 (.cells (#[Value.int .i64 0, Value.int .i64 0, Value.int .i64 0, Value.int .i64 0, Value.int .i64 0, Value.int .i64 0, Value.int .i64 0, Value.int .i64 0, Value.int .i64 0, Value.int .i64 0, Value.int .i64 0, Value.int .i64 0, Value.int .i64 0, Value.int .i64 0, Value.int .i64 0, Value.int .i64 0, Value.int .i64 0, Value.int .i64 0, Value.int .i64 0, Value.int .i64 0, Value.int .i64 0, Value.int .i64 0, Value.int .i64 0, Value.int .i64 0, Value.int .i64 0, Value.int .i64 0, Value.int .i64 0, Value.int .i64 0, Value.int .i64 0, Value.int .i64 0, Value.int .i64 0, Value.int .i64 0]) 75))
  have K1 := Lib.hid (blk_alloc k1 (.cells (#[Value.int .i64 0, Value.int .i64 0, Value.int .i64 0, Value.int .i64 0, Value.int .i64 0, Value.int .i64 0, Value.int .i64 0, Value.int .i64 0, Value.int .i64 0, Value.int .i64 0, Value.int .i64 0, Value.int .i64 0, Value.int .i64 0, Value.int .i64 0, Value.int .i64 0, Value.int .i64 0, Value.int .i64 0, Value.int .i64 0, Value.int .i64 0, Value.int .i64 0, Value.int .i64 0, Value.int .i64 0, Value.int .i64 0, Value.int .i64 0, Value.int .i64 0, Value.int .i64 0, Value.int .i64 0, Value.int .i64 0, Value.int .i64 0, Value.int .i64 0, Value.int .i64 0, Value.int .i64 0]) 75))
  have KA := Lib.hid (kA.alloc kA.size (.cells (#[Value.int .i64 0, Value.int .i64 0, Value.int .i64 0, Value.int .i64 0, Value.int .i64 0, Value.int .i64 0, Value.int .i64 0, Value.int .i64 0, Value.int .i64 0, Value.int .i64 0, Value.int .i64 0, Value.int .i64 0, Value.int .i64 0, Value.int .i64 0, Value.int .i64 0, Value.int .i64 0, Value.int .i64 0, Value.int .i64 0, Value.int .i64 0, Value.int .i64 0, Value.int .i64 0, Value.int .i64 0, Value.int .i64 0, Value.int .i64 0, Value.int .i64 0, Value.int .i64 0, Value.int .i64 0, Value.int .i64 0, Value.int .i64 0, Value.int .i64 0, Value.int .i64 0, Value.int .i64 0]) 75))
  have G0 := Lib.hid g0
  clear k0 k1 kA g0 hi hh
  generalize hg : w1.heap.size = g at *
  go_loopg [4, 11] 16 (fun gg _ a wr => ∃ n : Nat, n ≤ 16 ∧ 16 - n ≤ gg ∧ a = .int .i64 n ∧ Aside (Blk wr w.heap.size 44 (ints zs)) ∧ Aside (Blk wr (w.heap.size + 1) 44 (ints (List.replicate 32 0))) ∧ Aside (Blk wr g 75 (ints (binTo zs n))) ∧ Aside (Below w.heap.size w wr))
  case atStart => exact ⟨0, by omega, by omega, rfl, K0.out, K1.out, by first | exact G0.out | exact hg ▸ G0.out, KA.out⟩
  case round =>
    obtain ⟨n, hn, hgg, rfl, R0, R1, RG, RB⟩ := hrel
    clear K0 K1 KA G0 hg
    by_cases hlt : n < 16
    · have hx := allIn_get HH.out (2 * n)
      have hy := allIn_get HH.out (31 - 2 * n)
      have a0 := blk_int R0.out (i := 2 * n) (by omega)
      have a1 := blk_int R0.out (i := 31 - 2 * n) (by omega)
      have hlI := binTo_len zs n
      have hfl := flip_lt n
      have p0 := blk_int RG.out (i := flipN n * 2) (by omega)
      have p1 := blk_int RG.out (i := flipN n * 2 + 1) (by omega)
      have q0 := blk_free RG.out (flipN n * 2)
      have q1 := blk_free RG.out (flipN n * 2 + 1)
      have e31 : ((31 - 2 * n : Nat) : Int) = 31 - 2 * (n : Int) := by omega
      generalize hX : zs.getD (2 * n) 0 = x at *
      generalize hY : zs.getD (31 - 2 * n) 0 = y at *
      have X := Lib.hid hX
      have Y := Lib.hid hY
      have hw1 : IntKind.i64.wrap (2 * (n : Int)) = 2 * n := IntWalk.i64_in _ (by omega)
      have hw2 : IntKind.i64.wrap (31 - 2 * (n : Int)) = 31 - 2 * n := IntWalk.i64_in _ (by omega)
      have hw3 : IntKind.i64.wrap (-y) = -y := IntWalk.i64_in _ (by omega)
      have hi1 : 0 ≤ 2 * (n : Int) := by omega
      have hi2 : 2 * (n : Int) < 32 := by omega
      have hi3 : 0 ≤ 31 - 2 * (n : Int) := by omega
      have hi9 : 2 * (n : Int) ≤ 31 := by omega
      have hi10 : 31 < 32 + 2 * (n : Int) := by omega
      have hi4 : 31 - 2 * (n : Int) < 32 := by omega
      have hi5 : (2 * (n : Int)).toNat = 2 * n := by omega
      have hi6 : (31 - 2 * (n : Int)).toNat = 31 - 2 * n := by omega
      have hi7 : 0 ≤ (flipN n : Int) := by omega
      have hi8 : (flipN n : Int) < 16 := by omega
      clear hX hY
      go_wp2_with fail
      refine wp_region_still_tail 14 (by kernel_rfl) (by kernel_rfl) ?_
      simp only [List.take_succ_cons, List.take_zero, List.drop_succ_cons, List.drop_zero]
      repeat still_step
      still_call ((flip_calls n _ hlt).mono fun _ _ hh => ⟨hh.1, hh.2.symm⟩)
      repeat still_step
      refine wpStill_nil ?_
      go_wp2_with fail
      refine (flip_calls n _ hlt).mono ?_
      rintro e w2 ⟨rfl, rfl⟩
      go_wp2_with fail
      refine (edge_calls n _ hlt).mono ?_
      rintro e w2 ⟨rfl, rfl⟩
      go_wp2_with fail
      have B2 := blk_set_int (blk_set_int RG.out (flipN n * 2) x) (flipN n * 2 + 1) (-y)
      have hfs : AllIn 1099511627776 (((binTo zs n).set (flipN n * 2) x).set (flipN n * 2 + 1) (-y)) := allIn_set (allIn_set (allIn_mono (F1.out n hn) (by omega)) _ (by omega) (by omega)) _ (by omega) (by omega)
      have c := wback_calls g (flipN n) (edgeN n) _ _ (blk_drew B2) (by simp [hlI]) hfl hfs (by unfold edgeN; omega) (by unfold edgeN; omega)
      rw [wBack_sets hlI hfl] at c
      refine c.mono ?_
      rintro e w3 ⟨rfl, b3, g3⟩
      have R0' := blk_grown (blk_drew (blk_far (blk_far R0.out (b := g) (i := flipN n * 2) (by omega) (.int .i64 x)) (b := g) (i := flipN n * 2 + 1) (by omega) (.int .i64 (-y)))) g3 (by simp; omega)
      have R1' := blk_grown (blk_drew (blk_far (blk_far R1.out (b := g) (i := flipN n * 2) (by omega) (.int .i64 x)) (b := g) (i := flipN n * 2 + 1) (by omega) (.int .i64 (-y)))) g3 (by simp; omega)
      have RB' := below_grown (((RB.out.setCell (p := ⟨g, flipN n * 2, none⟩) (by simp; omega) (.int .i64 x)).setCell (p := ⟨g, flipN n * 2 + 1, none⟩) (by simp; omega) (.int .i64 (-y))).drew) g3 (by have := RB.out.size; simp; omega) (by omega)
      clear R0 R1 RG RB B2 c hw1 hw2 hw3 hi1 hi2 hi3 hi4 hi5 hi6 hi7 hi8 hi9 hi10
      go_wp2_with fail
      go_roundg (16 - (n + 1))
      case measure => omega
      case rel =>
        refine ⟨n + 1, by omega, by omega, by go_num, R0', R1', ?_, RB'⟩
        rw [binTo, X.out, Y.out]
        exact b3
    · obtain rfl : n = 16 := by omega
      clear hlt hn hgg
      go_wp2_with fail
      refine wp_loop_rounds 5 ?_
      rw [rounds_succ]
      go_wp2_with fail
      refine (stage_2 73 wBehind g _ _ (RG.out) (binTo_len zs 16) EG.out (fun i j k zs w => behind_calls g i j k zs w) wBehind_len F2.out).mono ?_
      rintro e w1 ⟨rfl, b1, g1⟩
      have l1 := (stageTo_len wBehind_len 2 8 (binTo zs 16)).trans (binTo_len zs 16)
      go_wp2_with fail
      rw [rounds_succ]
      go_wp2_with fail
      refine (stage_4 73 wBehind g _ _ (b1) (l1) EG.out (fun i j k zs w => behind_calls g i j k zs w) wBehind_len F3.out).mono ?_
      rintro e w2 ⟨rfl, b2, g2⟩
      have l2 := (stageTo_len wBehind_len 4 4 (stageTo wBehind 2 8 (binTo zs 16))).trans (l1)
      go_wp2_with fail
      rw [rounds_succ]
      go_wp2_with fail
      refine (stage_8 73 wBehind g _ _ (b2) (l2) EG.out (fun i j k zs w => behind_calls g i j k zs w) wBehind_len F4.out).mono ?_
      rintro e w3 ⟨rfl, b3, g3⟩
      have l3 := (stageTo_len wBehind_len 8 2 (stageTo wBehind 4 4 (stageTo wBehind 2 8 (binTo zs 16)))).trans (l2)
      go_wp2_with fail
      rw [rounds_succ]
      go_wp2_with fail
      refine (stage_16 73 wBehind g _ _ (b3) (l3) EG.out (fun i j k zs w => behind_calls g i j k zs w) wBehind_len F5.out).mono ?_
      rintro e w4 ⟨rfl, b4, g4⟩
      have l4 := (stageTo_len wBehind_len 16 1 (stageTo wBehind 8 2 (stageTo wBehind 4 4 (stageTo wBehind 2 8 (binTo zs 16))))).trans (l3)
      go_wp2_with fail
      rw [rounds_succ]
      go_wp2_with fail
      have G := grown_trans (grown_trans (grown_trans g1 g2) g3) g4
      have C0 := blk_grown R0.out G (by simp; omega)
      have C1 := blk_grown R1.out G (by simp; omega)
      have CB := below_grown RB.out G (by have := RB.out.size; omega) (by omega)
      have hst : stageTo wBehind 16 1 (stageTo wBehind 8 2 (stageTo wBehind 4 4 (stageTo wBehind 2 8 (binTo zs 16)))) = st := HST.out.symm
      rw [hst] at b4 l4
      have K0 := Lib.hid C0
      have K1 := Lib.hid C1
      have KB := Lib.hid CB
      have KG := Lib.hid b4
      clear hst R0 R1 RB RG b1 b2 b3 b4 g1 g2 g3 g4 l1 l2 l3 G C0 C1 CB F1 F2 F3 F4 F5 EG
      go_loopg [6, 40] 16 (fun gg _ a wr => ∃ n : Nat, n ≤ 16 ∧ 16 - n ≤ gg ∧ a = .int .i64 n ∧ Aside (Blk wr w.heap.size 44 (ints (boutTo st zs n))) ∧ Aside (Blk wr (w.heap.size + 1) 44 (ints (List.replicate 32 0))) ∧ Aside (Blk wr g 75 (ints (backTo st n))) ∧ Aside (Below w.heap.size w wr))
      case atStart => exact ⟨0, by omega, by omega, rfl, K0.out, K1.out, KG.out, KB.out⟩
      case round =>
        obtain ⟨n, hn, hgg, rfl, R0, R1, RG, RB⟩ := hrel
        clear K0 K1 KB KG
        by_cases hlt : n < 16
        · go_wp2_with fail
          refine (edge_calls n _ hlt).mono ?_
          rintro e w2 ⟨rfl, rfl⟩
          go_wp2_with fail
          have c := wback_calls g n (edgeN n) _ _ RG.out ((backTo_len st n).trans l4) hlt (allIn_mono (F6.out n hn) (by omega)) (by unfold edgeN; omega) (by unfold edgeN; omega)
          refine c.mono ?_
          rintro e w3 ⟨rfl, b3, g3⟩
          have S0 := blk_grown R0.out g3 (by simp; omega)
          have S1 := blk_grown R1.out g3 (by simp; omega)
          have SB := below_grown RB.out g3 (by have := RB.out.size; omega) (by omega)
          have hf' := F6.out (n + 1) (by omega)
          have hl' := (backTo_len st (n + 1)).trans l4
          have hst : wBack n (edgeN n) (backTo st n) = backTo st (n + 1) := rfl
          rw [hst] at b3
          clear R0 R1 RG RB c g3 hst
          have c0 := blk_int b3 (i := n * 2) (by omega)
          have c1 := blk_int b3 (i := n * 2 + 1) (by omega)
          have hx := allIn_get hf' (n * 2)
          have hy := allIn_get hf' (n * 2 + 1)
          generalize hX : (backTo st (n + 1)).getD (n * 2) 0 = x at *
          generalize hY : (backTo st (n + 1)).getD (n * 2 + 1) 0 = y at *
          have X := Lib.hid hX
          have Y := Lib.hid hY
          clear hX hY
          have hlo := (boutTo_len st zs n).trans hl
          have d0 := blk_int S0 (i := 2 * n) (by omega)
          have d1 := blk_int S0 (i := 31 - 2 * n) (by omega)
          have f0 := blk_free S0 (2 * n)
          have f1 := blk_free S0 (31 - 2 * n)
          go_wp2_with fail
          go_region
          go_wp2_with fail
          go_roundg (16 - (n + 1))
          case measure => omega
          case rel =>
            refine ⟨n + 1, by omega, by omega, by go_num, ?_, ?_, ?_, ?_⟩
            · have h := blk_set_int (blk_set_int S0 (2 * n) x) (31 - 2 * n) y
              rw [boutTo, X.out, Y.out]
              exact h
            · exact blk_far (blk_far S1 (by omega) _) (by omega) _
            · exact blk_far (blk_far b3 (by omega) _) (by omega) _
            · exact ((SB.setCell (p := ⟨w.heap.size, _, none⟩) (by simp) _).setCell (p := ⟨w.heap.size, _, none⟩) (by simp) _).drew
        · obtain rfl : n = 16 := by omega
          have hs := RB.out.size
          have r0 := R0.out
          have r1 := R1.out
          have hlo := (boutTo_len st zs 16).trans hl
          clear hlt hn hgg R0 R1 RG
          go_wp2_with (first | (refine wpList_load_row rfl 44 _ rfl w.heap.size rfl 44 (ints (boutTo st zs 16)) (0, 0) _ r0 Try.underlying44 rfl (by rw [ints_size, hlo]; kernel_rfl) ?_) | (refine wpList_store_blk rfl 44 _ _ rfl (w.heap.size + 1) 44 _ (ints (boutTo st zs 16)) rfl rfl r1 (by rw [ints_size, ints_size, hlo]; simp) (by rw [ints_size, hlo]; kernel_rfl) (ints_one _) ?_; intro w2 n0 hg))
          exact bodyPost_ret (results_cell_row rfl _ _ (w.heap.size + 1) 44 (ints (boutTo st zs 16)) (0, 0) _ rfl n0 Try.underlying44 rfl (by rw [ints_size, hlo]; kernel_rfl)) rfl ⟨rfl, below_grown RB.out hg hs (by omega)⟩
end Go.Proofs.Ytlfiaaoegeodnaa
