/- The walks of layer 17's statements MaskSlopes and MaskLeast. -/
import Derived.Test.YtnmhbonheaoldaaMaskC
namespace Go.Proofs.Ytnmhbonheaoldaa
open Go.RowKit
attribute [local go_sem ↓] Go.wp_at_zero Go.wp_at_succ

def modL16 (zs : List Int) : List Int := zs.map (· % 16)
theorem mod16_right {zs : List Int} : rightB (modL16 zs) = true := by
  simp only [rightB, modL16, Bool.not_eq_true', List.any_eq_false, Bool.not_eq_true, Bool.or_eq_false_iff, decide_eq_false_iff_not]
  intro x hx
  obtain ⟨z, _, rfl⟩ := List.mem_map.1 hx
  omega
theorem mod16_len {zs : List Int} (h : zs.length = 8) : (modL16 zs).length = 8 := by simp [modL16, h]

set_option maxHeartbeats 4000000 in
theorem maskSlopes_walk (a0 : List Int) (l0 : a0.length = 8) (w0 : ∀ z ∈ a0, (Lit.int .i64 z).wf = true) (w : World) : Calls Try.prog 9 #[.agg (a0.map (Value.int .i64)).toArray] w (LawTrue w) := by
  have b0 := blk_new w 36 (ints a0)
  have hA := (Below.refl _ w).alloc (Nat.le_refl _) (.cells (ints a0) 36)
  have ch := fun W => held17_calls a0 W l0 (i64_all w0)
  have ca := fun W => all_calls (modL16 a0) W (mod16_len l0) mod16_right
  rw [show a0.map (· % 16) = modL16 a0 from rfl] at ch
  have hlb := budsL_len (modL16 a0)
  have HG := Lib.hid (fun k hk => budsL_get (modL16 a0) (k := k) hk)
  have H1 := Lib.hid (slopes_half (modL16 a0))
  have H2 := Lib.hid (slopes_quarter (modL16 a0))
  have H3 := Lib.hid (fun b => budL_le (right_le (mod16_right (zs := a0))) b)
  have H4 := Lib.hid (fun b => budTo_nonneg (modL16 a0) b 8)
  rw [show (a0.map (Value.int .i64)).toArray = ints a0 from rfl]
  clear w0
  generalize modL16 a0 = s at *
  go_enter Try.func9, Try.ntmps9
  go_wp2_with fail
  refine (awake17_calls _).mono ?_
  rintro e w1 ⟨rfl, hB⟩
  have k0 := blk_below b0 hB (blk_lt b0)
  have B0 := bnext hA hB
  clear b0 hA hB
  go_wp2_with (first | (refine wpList_load_row rfl 36 _ rfl w.heap.size rfl 36 (ints a0) (0, 0) _ k0 Try.underlying36 rfl (by rw [ints_size, l0]; kernel_rfl) ?_))
  refine (ch _).mono ?_
  rintro e w2 ⟨rfl, hC⟩
  have B1 := bnext B0 hC
  clear k0 hC B0 ch
  go_wp2_with fail
  refine (ca _).mono ?_
  rintro e w3 ⟨rfl, hC⟩
  have B2 := bnext B1 hC
  clear hC B1 ca
  generalize hbs : budsL s = x at *
  have nn := blk_new w3 37 #[Value.int .i64 0, Value.int .i64 0, Value.int .i64 0, Value.int .i64 0, Value.int .i64 0, Value.int .i64 0, Value.int .i64 0, Value.int .i64 0]
  go_wp2_with (first | (refine wpList_store_blk rfl 37 _ _ rfl w3.heap.size 37 _ (ints x) rfl rfl nn (by rw [ints_size, hlb]; rfl) (by rw [ints_size, hlb]; kernel_rfl) (ints_one _) ?_; intro w4 n0 hg))
  have hs := B2.size
  have B3 := below_grown (B2.alloc hs (.cells #[Value.int .i64 0, Value.int .i64 0, Value.int .i64 0, Value.int .i64 0, Value.int .i64 0, Value.int .i64 0, Value.int .i64 0, Value.int .i64 0] 37)) hg (by simp; omega) (by omega)
  clear nn hg hs B2
  generalize w3.heap.size = g at *
  have N0 := Lib.hid n0
  have HB := Lib.hid B3
  clear n0 B3
  go_wp2_with fail
  go_loopg [4] 7 (fun gg s4 wr => ∃ kk : Nat, kk ≤ 7 ∧ 7 - kk ≤ gg ∧ s4 = .int .i64 kk ∧ Aside (Blk wr g 37 (ints x)) ∧ Aside (Below w.heap.size w wr))
  case atStart => exact ⟨0, Nat.zero_le _, by omega, rfl, N0.out, HB.out⟩
  case round =>
    clear N0 HB
    obtain ⟨kk, hkk, hgk, rfl, K, B⟩ := hrel
    by_cases hlt : kk < 7
    · have hltz : (kk : Int) < 7 := by omega
      have hk0 : 0 ≤ (kk : Int) := by omega
      have hk1 : 0 ≤ (kk : Int) + 1 := by omega
      have hk2 : (kk : Int) + 1 < 8 := by omega
      have hk4 : (kk : Int) < 8 := by omega
      have hw3 : IntKind.i64.wrap ((kk : Int) + 1) = (kk : Int) + 1 := IntWalk.i64_in _ ⟨by omega, by omega⟩
      have hk3 : ((kk : Int) + 1).toNat = kk + 1 := by omega
      have c0 := blk_int K.out (i := kk) (by omega)
      have c1 := blk_int K.out (i := kk + 1) (by omega)
      rw [HG.out kk (by omega)] at c0
      rw [HG.out (kk + 1) (by omega)] at c1
      have h1 := H1.out kk
      have h2 := H2.out kk
      have h3 := H3.out kk
      have h4 := H3.out (kk + 1)
      have h5 := H4.out kk
      have h6 := H4.out (kk + 1)
      rw [show budTo s kk 8 = budL s kk from rfl] at h5
      rw [show budTo s (kk + 1) 8 = budL s (kk + 1) from rfl] at h6
      generalize budL s kk = p at *
      generalize budL s (kk + 1) = q at *
      have e1 : p.tdiv 2 = p / 2 := Int.tdiv_eq_ediv_of_nonneg h5
      have e2 : q.tdiv 4 = q / 4 := Int.tdiv_eq_ediv_of_nonneg h6
      have hw1 : IntKind.i64.wrap (p / 2) = p / 2 := IntWalk.i64_in _ ⟨by omega, by omega⟩
      have hw2 : IntKind.i64.wrap (q / 4) = q / 4 := IntWalk.i64_in _ ⟨by omega, by omega⟩
      have hd1 : decide (q < p / 2) = false := by simpa using h1
      have hd2 : decide (p < q / 4) = false := by simpa using h2
      go_wp2_with fail
      go_quiet (fail)
      have KK := Lib.hid (blk_draws K.out nq)
      have BB := Lib.hid (below_draws B.out nq)
      clear K B c0 c1 hw1 hw2 hw3 hk3 e1 e2 hd1 hd2
      go_wp2_with fail
      go_roundg (7 - (kk + 1))
      case measure => omega
      case rel => exact ⟨kk + 1, by omega, by omega, by go_num, KK.out, BB.out⟩
    · have hltz : ¬ (kk : Int) < 7 := by omega
      go_wp2_with fail
      go_ret
      exact ⟨rfl, B.out⟩
end Go.Proofs.Ytnmhbonheaoldaa
