/- The walk of layer 10's statement DctSize, DctSmall. -/
import Derived.Test.YtlfiaaoegeodnaaDctM
import Derived.Test.YtlfiaaoegeodnaaDctLB
namespace Go.Proofs.Ytlfiaaoegeodnaa
open Go.RowKit
attribute [local go_sem ↓] Go.wp_at_zero Go.wp_at_succ

set_option maxHeartbeats 4000000 in
theorem dctSize_walk (a0 : List Int) (l0 : a0.length = 32) (w0 : ∀ z ∈ a0, (Lit.int .i64 z).wf = true) (w : World) : Calls Try.prog 18 #[.agg (a0.map (Value.int .i64)).toArray] w (LawTrue w) := by
  have hh := fun W => lawheld_calls a0 W l0 (wf_i64 w0)
  have hl := modL_len a0
  have hin := modL_in a0
  have hwi := waves_in hl hin
  have hsm := waves_small hl
  have hT := T_le hin (by omega)
  have hT0 := T_nonneg (modL a0)
  have hsz := waves_size hl
  have hT1 := T_nonneg (wavesL (modL a0))
  have hyl := (wavesL_len (modL a0)).trans hl
  have hzl := (dbackL_len (modL a0)).trans hl
  have hy8 : AllIn 268435456 (wavesL (modL a0)) := in_of_T hyl (by omega) (by omega)
  have hz8 : AllIn 268435456 (dbackL (modL a0)) := in_of_T hzl (by omega) (by omega)
  have hm := mostN_le hin (by omega) 32
  have hm0 := mostN_nonneg (modL a0) 32
  have hM := T_le (mostN_in hl) hm0
  have c1 := fun W => waves_of hl (allIn_mono hin (by omega)) W
  have c2 := fun W => dback_of hl (allIn_mono hin (by omega)) W
  have s0 := fun W => squares_calls _ W hl (allIn_mono hin (by omega))
  have s1 := fun W => squares_calls _ W hyl hy8
  have s2 := fun W => squares_calls _ W hzl hz8
  have k1 : T (wavesL (modL a0)) ≤ T (modL a0) + (T (modL a0) / 8 + 4096 * mostN (modL a0) 32 + 16777216) := by omega
  have k2 : T (modL a0) ≤ T (wavesL (modL a0)) + (T (modL a0) / 8 + 4096 * mostN (modL a0) 32 + 16777216) := by omega
  have k3 : T (wavesL (modL a0)) ≤ 4611686018427387904 := by omega
  have b0 := blk_new w 43 (ints a0)
  have hA := (Below.refl _ w).alloc (Nat.le_refl _) (.cells (ints a0) 43)
  generalize wavesL (modL a0) = y at *
  generalize dbackL (modL a0) = z at *
  generalize modL a0 = x at *
  clear hin hwi hsm hsz hy8 hz8 w0 hM
  rw [show (a0.map (Value.int .i64)).toArray = ints a0 from rfl]
  go_enter Try.func18, Try.ntmps18
  go_wp2_with fail
  refine (awake10_calls _).mono ?_
  rintro e w1 ⟨rfl, hB⟩
  have b1 := blk_below b0 hB (blk_lt b0)
  replace hB := bnext hA hB
  have B1 := Lib.hid b1
  clear b0 hA b1
  go_wp2_with (first | (refine wpList_load_row rfl 43 _ rfl w.heap.size rfl 43 (ints a0) (0, 0) _ B1.out Try.underlying43 rfl (by rw [ints_size, l0]; kernel_rfl) ?_))
  refine (hh _).mono ?_
  rintro e w2 ⟨rfl, hC⟩
  replace hB := bnext hB hC
  clear hC B1 hh
  go_wp2_with (first | (refine wpList_store_blk rfl 44 _ _ rfl w2.heap.size 44 _ (ints x) rfl rfl (blk_new w2 44 (#[Value.int .i64 0, Value.int .i64 0, Value.int .i64 0, Value.int .i64 0, Value.int .i64 0, Value.int .i64 0, Value.int .i64 0, Value.int .i64 0, Value.int .i64 0, Value.int .i64 0, Value.int .i64 0, Value.int .i64 0, Value.int .i64 0, Value.int .i64 0, Value.int .i64 0, Value.int .i64 0, Value.int .i64 0, Value.int .i64 0, Value.int .i64 0, Value.int .i64 0, Value.int .i64 0, Value.int .i64 0, Value.int .i64 0, Value.int .i64 0, Value.int .i64 0, Value.int .i64 0, Value.int .i64 0, Value.int .i64 0, Value.int .i64 0, Value.int .i64 0, Value.int .i64 0, Value.int .i64 0])) (by rw [ints_size, hl]; rfl) (by rw [ints_size, hl]; kernel_rfl) (ints_one _) ?_; intro w3 n0 hg) | (refine wpList_load_row rfl 44 _ rfl w2.heap.size rfl 44 (ints x) (0, 0) _ n0 Try.underlying44 rfl (by rw [ints_size, hl]; kernel_rfl) ?_))
  refine (s0 _).mono ?_
  rintro e w4 ⟨rfl, hC⟩
  have hs := hB.size
  have hB2 := bnext (below_grown (hB.alloc hs (.cells (#[Value.int .i64 0, Value.int .i64 0, Value.int .i64 0, Value.int .i64 0, Value.int .i64 0, Value.int .i64 0, Value.int .i64 0, Value.int .i64 0, Value.int .i64 0, Value.int .i64 0, Value.int .i64 0, Value.int .i64 0, Value.int .i64 0, Value.int .i64 0, Value.int .i64 0, Value.int .i64 0, Value.int .i64 0, Value.int .i64 0, Value.int .i64 0, Value.int .i64 0, Value.int .i64 0, Value.int .i64 0, Value.int .i64 0, Value.int .i64 0, Value.int .i64 0, Value.int .i64 0, Value.int .i64 0, Value.int .i64 0, Value.int .i64 0, Value.int .i64 0, Value.int .i64 0, Value.int .i64 0]) 44)) hg (by simp; omega) (by omega)) hC
  have n1 := blk_below n0 hC (blk_lt n0)
  clear hB hg n0 hC s0 hs
  generalize w2.heap.size = g at *
  have N1 := Lib.hid n1
  clear n1
  go_wp2_with (first | (refine wpList_load_row rfl 44 _ rfl g rfl 44 (ints x) (0, 0) _ N1.out Try.underlying44 rfl (by rw [ints_size, hl]; kernel_rfl) ?_))
  refine (c1 _).mono ?_
  rintro e w5 ⟨rfl, hC⟩
  have hB3 := bnext hB2 hC
  have N2 := Lib.hid (blk_below N1.out hC (blk_lt N1.out))
  clear hC hB2 N1 c1
  go_wp2_with fail
  refine (s1 _).mono ?_
  rintro e w6 ⟨rfl, hC⟩
  have hB4 := bnext hB3 hC
  have N3 := Lib.hid (blk_below N2.out hC (blk_lt N2.out))
  clear hC hB3 N2 s1
  clear N3 c2 s2
  generalize mostN x 32 = m at *
  generalize mostN y 32 = m' at *
  generalize T x = a at *
  generalize T y = b at *
  go_wp2_with fail
  all_goals (go_ret; refine ⟨ret_true ?_, hB4⟩; first | rfl | (simp; omega))

set_option maxHeartbeats 4000000 in
theorem dctSmall_walk (a0 : List Int) (l0 : a0.length = 32) (w0 : ∀ z ∈ a0, (Lit.int .i64 z).wf = true) (w : World) : Calls Try.prog 20 #[.agg (a0.map (Value.int .i64)).toArray] w (LawTrue w) := by
  have hh := fun W => lawheld_calls a0 W l0 (wf_i64 w0)
  have hl := modL_len a0
  have hin := modL_in a0
  have hwi := waves_in hl hin
  have hsm := waves_small hl
  have hT := T_le hin (by omega)
  have hT0 := T_nonneg (modL a0)
  have hsz := waves_size hl
  have hT1 := T_nonneg (wavesL (modL a0))
  have hyl := (wavesL_len (modL a0)).trans hl
  have hzl := (dbackL_len (modL a0)).trans hl
  have hy8 : AllIn 268435456 (wavesL (modL a0)) := in_of_T hyl (by omega) (by omega)
  have hz8 : AllIn 268435456 (dbackL (modL a0)) := in_of_T hzl (by omega) (by omega)
  have hm := mostN_le hin (by omega) 32
  have hm0 := mostN_nonneg (modL a0) 32
  have hM := T_le (mostN_in hl) hm0
  have c1 := fun W => waves_of hl (allIn_mono hin (by omega)) W
  have c2 := fun W => dback_of hl (allIn_mono hin (by omega)) W
  have s0 := fun W => squares_calls _ W hl (allIn_mono hin (by omega))
  have s1 := fun W => squares_calls _ W hyl hy8
  have s2 := fun W => squares_calls _ W hzl hz8
  have ee : (8 * mostN (modL a0) 32 + 256 + 1) * (8 * mostN (modL a0) 32 + 256 + 1) = 64 * (mostN (modL a0) 32 * mostN (modL a0) 32) + 4112 * mostN (modL a0) 32 + 66049 := by grind
  have k1 := mostN_le (in_of_T (c := 8 * mostN (modL a0) 32 + 256) hyl (by omega) (by omega)) (by omega) 32
  have k2 := mostN_le (in_of_T (c := 8 * mostN (modL a0) 32 + 256) hzl (by omega) (by omega)) (by omega) 32
  clear ee
  have b0 := blk_new w 43 (ints a0)
  have hA := (Below.refl _ w).alloc (Nat.le_refl _) (.cells (ints a0) 43)
  generalize wavesL (modL a0) = y at *
  generalize dbackL (modL a0) = z at *
  generalize modL a0 = x at *
  clear hin hwi hsm hsz hy8 hz8 w0 hM
  rw [show (a0.map (Value.int .i64)).toArray = ints a0 from rfl]
  go_enter Try.func20, Try.ntmps20
  go_wp2_with fail
  refine (awake10_calls _).mono ?_
  rintro e w1 ⟨rfl, hB⟩
  have b1 := blk_below b0 hB (blk_lt b0)
  replace hB := bnext hA hB
  have B1 := Lib.hid b1
  clear b0 hA b1
  go_wp2_with (first | (refine wpList_load_row rfl 43 _ rfl w.heap.size rfl 43 (ints a0) (0, 0) _ B1.out Try.underlying43 rfl (by rw [ints_size, l0]; kernel_rfl) ?_))
  refine (hh _).mono ?_
  rintro e w2 ⟨rfl, hC⟩
  replace hB := bnext hB hC
  clear hC B1 hh
  go_wp2_with (first | (refine wpList_store_blk rfl 44 _ _ rfl w2.heap.size 44 _ (ints x) rfl rfl (blk_new w2 44 (#[Value.int .i64 0, Value.int .i64 0, Value.int .i64 0, Value.int .i64 0, Value.int .i64 0, Value.int .i64 0, Value.int .i64 0, Value.int .i64 0, Value.int .i64 0, Value.int .i64 0, Value.int .i64 0, Value.int .i64 0, Value.int .i64 0, Value.int .i64 0, Value.int .i64 0, Value.int .i64 0, Value.int .i64 0, Value.int .i64 0, Value.int .i64 0, Value.int .i64 0, Value.int .i64 0, Value.int .i64 0, Value.int .i64 0, Value.int .i64 0, Value.int .i64 0, Value.int .i64 0, Value.int .i64 0, Value.int .i64 0, Value.int .i64 0, Value.int .i64 0, Value.int .i64 0, Value.int .i64 0])) (by rw [ints_size, hl]; rfl) (by rw [ints_size, hl]; kernel_rfl) (ints_one _) ?_; intro w3 n0 hg) | (refine wpList_load_row rfl 44 _ rfl w2.heap.size rfl 44 (ints x) (0, 0) _ n0 Try.underlying44 rfl (by rw [ints_size, hl]; kernel_rfl) ?_))
  refine (s0 _).mono ?_
  rintro e w4 ⟨rfl, hC⟩
  have hs := hB.size
  have hB2 := bnext (below_grown (hB.alloc hs (.cells (#[Value.int .i64 0, Value.int .i64 0, Value.int .i64 0, Value.int .i64 0, Value.int .i64 0, Value.int .i64 0, Value.int .i64 0, Value.int .i64 0, Value.int .i64 0, Value.int .i64 0, Value.int .i64 0, Value.int .i64 0, Value.int .i64 0, Value.int .i64 0, Value.int .i64 0, Value.int .i64 0, Value.int .i64 0, Value.int .i64 0, Value.int .i64 0, Value.int .i64 0, Value.int .i64 0, Value.int .i64 0, Value.int .i64 0, Value.int .i64 0, Value.int .i64 0, Value.int .i64 0, Value.int .i64 0, Value.int .i64 0, Value.int .i64 0, Value.int .i64 0, Value.int .i64 0, Value.int .i64 0]) 44)) hg (by simp; omega) (by omega)) hC
  have n1 := blk_below n0 hC (blk_lt n0)
  clear hB hg n0 hC s0 hs
  generalize w2.heap.size = g at *
  have N1 := Lib.hid n1
  clear n1
  go_wp2_with (first | (refine wpList_load_row rfl 44 _ rfl g rfl 44 (ints x) (0, 0) _ N1.out Try.underlying44 rfl (by rw [ints_size, hl]; kernel_rfl) ?_))
  refine (c1 _).mono ?_
  rintro e w5 ⟨rfl, hC⟩
  have hB3 := bnext hB2 hC
  have N2 := Lib.hid (blk_below N1.out hC (blk_lt N1.out))
  clear hC hB2 N1 c1
  go_wp2_with fail
  refine (s1 _).mono ?_
  rintro e w6 ⟨rfl, hC⟩
  have hB4 := bnext hB3 hC
  have N3 := Lib.hid (blk_below N2.out hC (blk_lt N2.out))
  clear hC hB3 N2 s1
  go_wp2_with (first | (refine wpList_load_row rfl 44 _ rfl g rfl 44 (ints x) (0, 0) _ N3.out Try.underlying44 rfl (by rw [ints_size, hl]; kernel_rfl) ?_))
  refine (c2 _).mono ?_
  rintro e w7 ⟨rfl, hC⟩
  have hB5 := bnext hB4 hC
  clear hC hB4 N3 c2
  go_wp2_with fail
  refine (s2 _).mono ?_
  rintro e w8 ⟨rfl, hC⟩
  have hB6 := bnext hB5 hC
  clear hC hB5 s2
  generalize mostN x 32 = m at *
  generalize mostN y 32 = m1 at *
  generalize mostN z 32 = m2 at *
  generalize T x = a at *
  generalize T y = b at *
  generalize T z = c at *
  go_wp2_with fail
  all_goals (go_ret; refine ⟨ret_true ?_, hB6⟩; first | rfl | (simp; omega))

end Go.Proofs.Ytlfiaaoegeodnaa
