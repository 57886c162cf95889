/- Contracts of the package mask: whether there is a budget, slopes, budgets. -/
import Derived.Test.YtnmhbonheaoldaaMaskP
namespace Go.Proofs.Ytnmhbonheaoldaa
open Go.RowKit

theorem maskMay_calls (s : List Int) (b : Int) (w : World) (hl : s.length = 8) (hi : ∀ z ∈ s, -9223372036854775808 ≤ z ∧ z ≤ 9223372036854775807) :
    Calls Try.prog 52 #[.agg (ints s), .int .i64 b] w fun e w' => e = .returned (.bool (rightB s && decide (0 ≤ b) && decide (b < 8))) ∧ Below w.heap.size w w' := by
  have b0 := blk_new w 37 (ints s)
  have hA := (Below.refl _ w).alloc (Nat.le_refl _) (.cells (ints s) 37)
  have cr := fun W => right_calls s W hl hi
  generalize rightB s = r at *
  clear hi
  cases r
  · go_enter Try.func52, Try.ntmps52
    go_wp2_with (first | (refine wpList_load_row rfl 37 _ rfl w.heap.size rfl 37 (ints s) (0, 0) _ b0 Try.underlying37 rfl (by rw [ints_size, hl]; kernel_rfl) ?_))
    refine (cr _).mono ?_
    rintro e w1 ⟨rfl, hB⟩
    have hE := bnext hA hB
    go_wp2_with fail
    go_ret
    exact ⟨rfl, hE⟩
  · by_cases h : 0 ≤ b
    · by_cases h2 : b < 8
      · go_enter Try.func52, Try.ntmps52
        go_wp2_with (first | (refine wpList_load_row rfl 37 _ rfl w.heap.size rfl 37 (ints s) (0, 0) _ b0 Try.underlying37 rfl (by rw [ints_size, hl]; kernel_rfl) ?_))
        refine (cr _).mono ?_
        rintro e w1 ⟨rfl, hB⟩
        have hE := bnext hA hB
        go_wp2_with fail
        go_ret
        exact ⟨by simp [h, h2], hE⟩
      · go_enter Try.func52, Try.ntmps52
        go_wp2_with (first | (refine wpList_load_row rfl 37 _ rfl w.heap.size rfl 37 (ints s) (0, 0) _ b0 Try.underlying37 rfl (by rw [ints_size, hl]; kernel_rfl) ?_))
        refine (cr _).mono ?_
        rintro e w1 ⟨rfl, hB⟩
        have hE := bnext hA hB
        go_wp2_with fail
        go_ret
        exact ⟨by simp; omega, hE⟩
    · go_enter Try.func52, Try.ntmps52
      go_wp2_with (first | (refine wpList_load_row rfl 37 _ rfl w.heap.size rfl 37 (ints s) (0, 0) _ b0 Try.underlying37 rfl (by rw [ints_size, hl]; kernel_rfl) ?_))
      refine (cr _).mono ?_
      rintro e w1 ⟨rfl, hB⟩
      have hE := bnext hA hB
      go_wp2_with fail
      go_ret
      exact ⟨by simp; omega, hE⟩

theorem slope_calls (n : Int) (w : World) : Calls Try.prog 53 #[.int .i64 n] w fun e w' => e = .returned (.func (.func 59) #[] #[.pointer (some ⟨w.heap.size, 0, none⟩)]) ∧ w.alloc (.cells #[.int .i64 n] 3) = w' := by
  go_enter Try.func53, Try.ntmps53
  go_wp2
  go_ret
  exact ⟨rfl, rfl⟩

theorem slopef_calls (x k n : Int) (b : Nat) (w : World) (hc : w.cell? ⟨b, 0, none⟩ = some (.int .i64 n)) (h0 : 0 ≤ k) (h1 : k ≤ 16) (h2 : 0 ≤ n) (h3 : n ≤ 2) :
    Calls Try.prog 59 #[.int .i64 x, .int .i64 k, .pointer (some ⟨b, 0, none⟩)] w fun e w' => e = .returned (.int .i64 (x / 2 ^ (n * k).toNat)) ∧ Below w.heap.size w w' := by
  have hn : n = 0 ∨ n = 1 ∨ n = 2 := by omega
  rcases hn with rfl | rfl | rfl
  all_goals
    go_enter Try.func59, Try.ntmps59
    go_wp2
    go_ret
    exact ⟨by simp, by first | exact Below.refl _ _ | exact (Below.refl _ _).drew | exact below_draws (Below.refl _ _) _⟩

theorem budget_away (s : List Int) (b : Int) (w : World) (hl : s.length = 8) (hi : ∀ z ∈ s, -9223372036854775808 ≤ z ∧ z ≤ 9223372036854775807) (hr : (rightB s && decide (0 ≤ b) && decide (b < 8)) = false) :
    Calls Try.prog 35 #[.agg (ints s), .int .i64 b] w fun e w' => e = .returned (.int .i64 0) ∧ Below w.heap.size w w' := by
  have b0 := blk_new w 37 (ints s)
  have hA := (Below.refl _ w).alloc (Nat.le_refl _) (.cells (ints s) 37)
  have cm := fun W => maskMay_calls s b W hl hi
  rw [hr] at cm
  clear hr hi
  go_enter Try.func35, Try.ntmps35
  go_wp2_with (first | (refine wpList_load_row rfl 37 _ rfl w.heap.size rfl 37 (ints s) (0, 0) _ b0 Try.underlying37 rfl (by rw [ints_size, hl]; kernel_rfl) ?_))
  refine (cm _).mono ?_
  rintro e w1 ⟨rfl, hB⟩
  have hE := bnext hA hB
  go_wp2_with fail
  go_ret
  exact ⟨rfl, hE⟩

set_option maxHeartbeats 2000000 in
theorem budget_calls (s : List Int) (b : Nat) (w : World) (hl : s.length = 8) (hr : rightB s = true) (hb : b < 8) :
    Calls Try.prog 35 #[.agg (ints s), .int .i64 b] w fun e w' => e = .returned (.int .i64 (budL s b)) ∧ Below w.heap.size w w' := by
  have b0 := blk_new w 37 (ints s)
  have hA := (Below.refl _ w).alloc (Nat.le_refl _) (.cells (ints s) 37)
  have hi : ∀ z ∈ s, -9223372036854775808 ≤ z ∧ z ≤ 9223372036854775807 := by
    intro z hz
    obtain ⟨i, hi, rfl⟩ := List.mem_iff_getElem.1 hz
    have := right_get hr i
    rw [List.getD_eq_getElem?_getD, List.getElem?_eq_getElem hi, Option.getD_some] at this
    omega
  have cm := fun W => maskMay_calls s b W hl hi
  rw [hr, show (true && decide (0 ≤ (b : Int)) && decide ((b : Int) < 8)) = true by simp; omega] at cm
  obtain ⟨inf, hinf⟩ := info_of_underlying (P := Try.prog) (t := 3) Try.underlying3
  have hsz1 : inf.size = 1 := by have h : (Try.prog.info? 3).map (·.size) = some 1 := by kernel_rfl
                                 rw [hinf] at h; simpa using h
  have hx := fun i hlt w => run_index_ints (P := Try.prog) (t := 37) Try.underlying37 Try.underlying3 hinf hsz1 s hl i hlt w
  have HX := Lib.hid hx
  have HG := Lib.hid (right_get hr)
  have eg : ∀ args w, (callFunc 59 args).run Try.prog w = .ok (.enter 59 args) w := enters_at Try.func59 (by kernel_rfl) rfl
  clear hx hinf hsz1 hi hr
  go_enter Try.func35, Try.ntmps35
  go_wp2_with (first | (refine wpList_load_row rfl 37 _ rfl w.heap.size rfl 37 (ints s) (0, 0) _ b0 Try.underlying37 rfl (by rw [ints_size, hl]; kernel_rfl) ?_))
  refine (cm _).mono ?_
  rintro e w1 ⟨rfl, hB⟩
  have hE := bnext hA hB
  have k0 := blk_below b0 hB (blk_lt b0)
  clear hA hB b0 cm
  go_wp2_with fail
  refine (slope_calls 1 _).mono ?_
  rintro e w' ⟨rfl, rfl⟩
  go_wp2_with fail
  refine (slope_calls 2 _).mono ?_
  rintro e w' ⟨rfl, rfl⟩
  have hs := hE.size
  have hE2 := (hE.alloc hs (.cells #[.int .i64 1] 3)).alloc (by simp; omega) (.cells #[.int .i64 2] 3)
  have k1 := blk_alloc (blk_alloc k0 (.cells #[.int .i64 1] 3)) (.cells #[.int .i64 2] 3)
  have c1 : ((w1.alloc (.cells #[.int .i64 1] 3)).alloc (.cells #[.int .i64 2] 3)).cell? ⟨w1.heap.size, 0, none⟩ = some (.int .i64 1) := (blk_cell (blk_alloc (blk_new w1 3 #[.int .i64 1]) (.cells #[.int .i64 2] 3)) 0).trans rfl
  have c2 : ((w1.alloc (.cells #[.int .i64 1] 3)).alloc (.cells #[.int .i64 2] 3)).cell? ⟨(w1.alloc (.cells #[.int .i64 1] 3)).heap.size, 0, none⟩ = some (.int .i64 2) := (blk_cell (blk_new (w1.alloc (.cells #[.int .i64 1] 3)) 3 #[.int .i64 2]) 0).trans rfl
  rw [show (w1.alloc (.cells #[.int .i64 1] 3)).heap.size = w1.heap.size + 1 by simp] at c2
  have hlt2 : w1.heap.size + 1 < ((w1.alloc (.cells #[.int .i64 1] 3)).alloc (.cells #[.int .i64 2] 3)).heap.size := by simp
  clear k0 hE
  generalize (w1.alloc (.cells #[.int .i64 1] 3)).alloc (.cells #[.int .i64 2] 3) = w2 at *
  have K1 := Lib.hid k1
  have E2 := Lib.hid hE2
  clear hE2
  go_wp2_with (first | (refine wpList_load_row rfl 37 _ rfl w.heap.size rfl 37 (ints s) (0, 0) _ k1 Try.underlying37 rfl (by rw [ints_size, hl]; kernel_rfl) ?_))
  clear k1
  go_loopg [7, 18] 8 (fun gg s7 s18 wr => ∃ kk : Nat, kk ≤ 8 ∧ 8 - kk ≤ gg ∧ s18 = .int .i64 kk ∧ s7 = .int .i64 (budTo s b kk) ∧ Aside (Below w.heap.size w wr) ∧ Aside (wr.cell? ⟨w1.heap.size, 0, none⟩ = some (.int .i64 1) ∧ wr.cell? ⟨w1.heap.size + 1, 0, none⟩ = some (.int .i64 2) ∧ w1.heap.size + 1 < wr.heap.size))
  case atStart => exact ⟨0, Nat.zero_le _, by omega, rfl, rfl, E2.out, ⟨c1, c2, hlt2⟩⟩
  case round =>
    clear c1 c2 hlt2 E2 K1
    obtain ⟨kk, hkk, hgk, rfl, rfl, B, C⟩ := hrel
    by_cases hlt : kk < 8
    · have hltz : (kk : Int) < 8 := by omega
      have hxx := HX.out kk hlt
      have hg := HG.out kk
      have hbu := Lib.hid (show budTo s b (kk + 1) = max (budTo s b kk) (termL s b kk) from rfl)
      have htl := Lib.hid (show termL s b kk = 4 * 2 ^ (s.getD kk 0).toNat / 2 ^ shN b kk from rfl)
      obtain ⟨n, hn⟩ : ∃ n : Nat, s.getD kk 0 = n := ⟨(s.getD kk 0).toNat, by omega⟩
      rw [hn] at hg hxx
      have htl2 := Lib.hid (show termL s b kk = 4 * 2 ^ n / 2 ^ shN b kk by rw [htl.out, hn]; rfl)
      clear htl hn
      have hp := pow_le15 (s := n) (by omega)
      have hn0 : 0 ≤ (n : Int) := by omega
      have hw : wrap64 (4 * 2 ^ n) = 4 * 2 ^ n := IntWalk.wrap64_in _ ⟨by omega, by omega⟩
      have hw2 : IntKind.i64.wrap (4 * 2 ^ n) = 4 * 2 ^ n := IntWalk.i64_in _ ⟨by omega, by omega⟩
      clear hp
      by_cases hjb : kk ≤ b
      · have hjbz : (kk : Int) ≤ (b : Int) := by omega
        go_wp2_with fail
        refine (slopef_calls (4 * 2 ^ n) (b - kk) 1 w1.heap.size _ C.out.1 (by omega) (by omega) (by omega) (by omega)).mono ?_
        rintro e w3 ⟨rfl, hC⟩
        have hE3 := bnext B.out hC
        have hC3 := Lib.hid (show w3.cell? ⟨w1.heap.size, 0, none⟩ = some (.int .i64 1) ∧ w3.cell? ⟨w1.heap.size + 1, 0, none⟩ = some (.int .i64 2) ∧ w1.heap.size + 1 < w3.heap.size from ⟨(hC.cell (p := ⟨w1.heap.size, 0, none⟩) (Nat.lt_of_succ_lt C.out.2.2)).trans C.out.1, (hC.cell (p := ⟨w1.heap.size + 1, 0, none⟩) C.out.2.2).trans C.out.2.1, Nat.lt_of_lt_of_le C.out.2.2 hC.size⟩)
        have hE4 := Lib.hid hE3
        clear B C hC hE3
        have hsh : (1 * ((b : Int) - (kk : Int))).toNat = shN b kk := by unfold shN; rw [if_pos hjb]; omega
        rw [hsh, ← htl2.out]
        clear hsh
        go_wp2_with fail
        go_roundg (8 - (kk + 1))
        case measure => omega
        case rel => exact ⟨kk + 1, by omega, by omega, by go_num, by rw [hbu.out], hE4.out, hC3.out⟩
      · have hjbz : ¬ (kk : Int) ≤ (b : Int) := by omega
        go_wp2_with fail
        refine (slopef_calls (4 * 2 ^ n) (kk - b) 2 (w1.heap.size + 1) _ C.out.2.1 (by omega) (by omega) (by omega) (by omega)).mono ?_
        rintro e w3 ⟨rfl, hC⟩
        have hE3 := bnext B.out hC
        have hC3 := Lib.hid (show w3.cell? ⟨w1.heap.size, 0, none⟩ = some (.int .i64 1) ∧ w3.cell? ⟨w1.heap.size + 1, 0, none⟩ = some (.int .i64 2) ∧ w1.heap.size + 1 < w3.heap.size from ⟨(hC.cell (p := ⟨w1.heap.size, 0, none⟩) (Nat.lt_of_succ_lt C.out.2.2)).trans C.out.1, (hC.cell (p := ⟨w1.heap.size + 1, 0, none⟩) C.out.2.2).trans C.out.2.1, Nat.lt_of_lt_of_le C.out.2.2 hC.size⟩)
        have hE4 := Lib.hid hE3
        clear B C hC hE3
        have hsh : (2 * ((kk : Int) - (b : Int))).toNat = shN b kk := by unfold shN; rw [if_neg (by omega)]; omega
        rw [hsh, ← htl2.out]
        clear hsh
        go_wp2_with fail
        go_roundg (8 - (kk + 1))
        case measure => omega
        case rel => exact ⟨kk + 1, by omega, by omega, by go_num, by rw [hbu.out], hE4.out, hC3.out⟩
    · have hltz : ¬ (kk : Int) < 8 := by omega
      obtain rfl : kk = 8 := by omega
      go_wp2_with fail
      go_ret
      exact ⟨rfl, B.out⟩
end Go.Proofs.Ytnmhbonheaoldaa
