/- The walk of layer 17's statement MaskLeast. -/
import Derived.Test.YtnmhbonheaoldaaMaskD
import Derived.Test.YtnmhbonheaoldaaMaskE
namespace Go.Proofs.Ytnmhbonheaoldaa
open Go.RowKit
attribute [local go_sem ↓] Go.wp_at_zero Go.wp_at_succ

theorem moves_four (s : List Int) {b : Nat} (hb : b < 8) : 4 ≤ movesL s b := by
  unfold movesL
  exact (Int.le_ediv_iff_mul_le (pow_pos' _)).2 (own_budget s hb)
theorem set_right {s : List Int} (h : rightB s = true) (i : Nat) {v : Int} (h0 : 0 ≤ v) (h1 : v ≤ 15) : rightB (s.set i v) = true := by
  simp only [rightB, Bool.not_eq_true', List.any_eq_false, Bool.not_eq_true, Bool.or_eq_false_iff, decide_eq_false_iff_not, Int.not_lt] at h ⊢
  intro x hx
  rcases List.mem_or_eq_of_mem_set hx with hx | rfl
  · exact h x hx
  · omega
theorem set_budget {s : List Int} (i b : Nat) {v : Int} (h : s.getD i 0 ≤ v) : budL s b ≤ budL (s.set i v) b := by
  refine budget_mono (fun j => ?_) b
  rw [set_getD]
  by_cases e : i = j ∧ i < s.length
  · rw [if_pos e, ← e.1]; omega
  · rw [if_neg e]; omega

set_option maxHeartbeats 4000000 in
theorem maskLeast_walk (a0 : List Int) (a1 a2 : Int) (l0 : a0.length = 8) (w0 : ∀ z ∈ a0, (Lit.int .i64 z).wf = true) (w1 : (Lit.int .u8 a1).wf = true) (w2 : (Lit.int .u8 a2).wf = true) (w : World) : Calls Try.prog 12 #[.agg (a0.map (Value.int .i64)).toArray, .int .u8 a1, .int .u8 a2] w (LawTrue w) := by
  have u1 : 0 ≤ a1 ∧ a1 ≤ 255 := by simp [Lit.wf, IntKind.min, IntKind.max, IntKind.signed, IntKind.bits] at w1; omega
  have u2 : 0 ≤ a2 ∧ a2 ≤ 255 := by simp [Lit.wf, IntKind.min, IntKind.max, IntKind.signed, IntKind.bits] at w2; omega
  obtain ⟨k, hk⟩ : ∃ k : Nat, a1 % 8 = k := ⟨(a1 % 8).toNat, by omega⟩
  obtain ⟨j, hj⟩ : ∃ j : Nat, a2 % 8 = j := ⟨(a2 % 8).toNat, by omega⟩
  have hk8 : k < 8 := by omega
  have hj8 : j < 8 := by omega
  have b0 := blk_new w 36 (ints a0)
  have hA := (Below.refl _ w).alloc (Nat.le_refl _) (.cells (ints a0) 36)
  have ch := fun W => held17_calls a0 W l0 (i64_all w0)
  rw [show a0.map (· % 16) = modL16 a0 from rfl] at ch
  have hr := mod16_right (zs := a0)
  have hl := mod16_len l0
  rw [show (a0.map (Value.int .i64)).toArray = ints a0 from rfl]
  clear w0 w1 w2
  generalize modL16 a0 = s at *
  have cb := fun W => budget_calls s k W hl hr hk8
  have cm := fun W => moves_calls s k W hl hr hk8
  have h4 := own_budget s hk8
  have m4 := moves_four s hk8
  have gk := right_get hr k
  have gj := right_get hr j
  obtain ⟨n, hn⟩ : ∃ n : Nat, s.getD k 0 = n := ⟨(s.getD k 0).toNat, by omega⟩
  have hn15 : n ≤ 15 := by omega
  rw [hn, Int.toNat_natCast] at h4
  have hbl := budL_le (right_le hr) k
  have CN := Lib.hid (show ∀ W, Blk W w.heap.size 37 (ints s) → True from fun _ _ => trivial)
  have hset := set_budget (s := s) j k (v := min (s.getD j 0 + 1) 15) (by omega)
  have hrs := set_right hr j (v := min (s.getD j 0 + 1) 15) (by omega) (by omega)
  have cb2 := fun W => budget_calls (s.set j (min (s.getD j 0 + 1) 15)) k W (by simp [hl]) hrs hk8
  have SN := Lib.hid hn
  have KK := Lib.hid hk
  have JJ := Lib.hid hj
  clear CN hn hrs
  generalize hss : s.set j (min (s.getD j 0 + 1) 15) = s2 at *
  have SS := Lib.hid hss
  clear hss
  generalize budL s k = bud at *
  generalize budL s2 k = bud2 at *
  generalize movesL s k = mv at *
  clear hr
  go_enter Try.func12, Try.ntmps12
  go_wp2_with fail
  refine (awake17_calls _).mono ?_
  rintro e w1 ⟨rfl, hB⟩
  have k0 := blk_below b0 hB (blk_lt b0)
  have B0 := bnext hA hB
  clear b0 hA hB
  go_wp2_with (first | (refine wpList_load_row rfl 36 _ rfl w.heap.size rfl 36 (ints a0) (0, 0) _ k0 Try.underlying36 rfl (by rw [ints_size, l0]; kernel_rfl) ?_))
  refine (ch _).mono ?_
  rintro e w2 ⟨rfl, hC⟩
  have B1 := bnext B0 hC
  clear k0 hC B0 ch
  have nn := blk_new w2 37 #[Value.int .i64 0, Value.int .i64 0, Value.int .i64 0, Value.int .i64 0, Value.int .i64 0, Value.int .i64 0, Value.int .i64 0, Value.int .i64 0]
  have hk := KK.out
  go_wp2_with (first | (refine wpList_store_blk rfl 37 _ _ rfl w2.heap.size 37 _ (ints s) rfl rfl nn (by rw [ints_size, hl]; rfl) (by rw [ints_size, hl]; kernel_rfl) (ints_one _) ?_; intro w4 n0 hg) | (refine wpList_load_row rfl 37 _ rfl w2.heap.size rfl 37 (ints s) (0, 0) _ n0 Try.underlying37 rfl (by rw [ints_size, hl]; kernel_rfl) ?_))
  have hs := B1.size
  have B2 := below_grown (B1.alloc hs (.cells #[Value.int .i64 0, Value.int .i64 0, Value.int .i64 0, Value.int .i64 0, Value.int .i64 0, Value.int .i64 0, Value.int .i64 0, Value.int .i64 0] 37)) hg (by simp; omega) (by omega)
  clear nn hg B1
  generalize w2.heap.size = g at *
  refine (cb _).mono ?_
  rintro e w3 ⟨rfl, hC⟩
  have k1 := blk_below n0 hC (blk_lt n0)
  have B3 := bnext B2 hC
  clear n0 hC B2 cb
  have c0 := blk_int k1 (i := k) (by omega)
  have hkz : (k : Int) < 8 := by omega
  have hjz : (j : Int) < 8 := by omega
  rw [SN.out] at c0
  have hp := pow_le15 hn15
  go_wp2_with fail
  refine (refGain_calls n _ hn15).mono ?_
  rintro e w' ⟨rfl, rfl⟩
  generalize (2 : Int) ^ n = p at *
  clear c0
  have hd1 : decide (bud < 4 * p) = false := by simpa using h4
  have hd2 : decide (mv < 4) = false := by simpa using m4
  go_wp2_with (first | (refine wpList_load_wanted (by rfl) 37 _ rfl g rfl 37 s _ k1 Try.underlying37 rfl (by rw [hl]; kernel_rfl) ?_))
  refine (cm _).mono ?_
  rintro e w5 ⟨rfl, hC⟩
  have k2 := blk_below k1 hC (blk_lt k1)
  have B4 := bnext B3 hC
  clear k1 hC B3 cm
  have c0 := blk_int k2 (i := j) (by omega)
  have f0 := blk_free k2 j
  have hjj := JJ.out
  have k3 := blk_set_int k2 j (min (s.getD j 0 + 1) 15)
  rw [SS.out] at k3
  have hl2 : s2.length = 8 := by rw [← SS.out]; simp [hl]
  have hgl := blk_lt k2
  clear SS SN k2
  generalize s.getD j 0 = t at *
  have K3 := Lib.hid k3
  clear k3
  go_wp2_with (first | (refine wpList_load_row rfl 37 _ rfl g rfl 37 (ints s2) (0, 0) _ K3.out Try.underlying37 rfl (by rw [ints_size, hl2]; kernel_rfl) ?_))
  refine (cb2 _).mono ?_
  rintro e w6 ⟨rfl, hC⟩
  have B5 := bnext (B4.setCell (p := ⟨g, j, none⟩) (by omega) (.int .i64 (min (t + 1) 15))) hC
  go_wp2_with fail
  go_ret
  exact ⟨ret_true (by simp), B5⟩
end Go.Proofs.Ytnmhbonheaoldaa
