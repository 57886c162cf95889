/- The contract of trig.below. -/
import Derived.Test.YtlfiaaoegeodnaaTrig
import Derived.Test.YtlfiaaoegeodnaaLiftPlain
import Derived.Outline
import Derived.Deep.QuietTactic
import Derived.BigQuiet
namespace Go.Proofs.Ytlfiaaoegeodnaa
open Go.RowKit

theorem and_one {a : Int} (h : 0 ≤ a) (h2 : a < 9223372036854775808) : bits BinOp.and IntKind.i64 a 1 = a % 2 := by
  obtain ⟨n, rfl⟩ := Int.eq_ofNat_of_zero_le h
  show IntKind.i64.wrap ((BitVec.ofInt 64 (n : Int) &&& BitVec.ofInt 64 (1 : Int)).toNat : Int) = _
  rw [BitVec.toNat_and, BitVec.ofInt_natCast, BitVec.toNat_ofNat, Nat.mod_eq_of_lt (by omega)]
  rw [show (BitVec.ofInt 64 1).toNat = 1 from rfl, Nat.and_one_is_mod, IntKind.wrap_i64]
  omega

theorem bit_yes {k d : Int} (h0 : 0 ≤ k) (h1 : k < 128) (hd : 0 < d) (h : k / d % 2 = 1) : (bits BinOp.and IntKind.i64 (k / d) 1 == 1) = true := by
  have a : 0 ≤ k / d := Int.ediv_nonneg h0 (by omega)
  have b : k / d ≤ k := Int.ediv_le_self _ h0
  rw [and_one a (by omega), beq_iff_eq]; exact h
theorem bit_no {k d : Int} (h0 : 0 ≤ k) (h1 : k < 128) (hd : 0 < d) (h : ¬ k / d % 2 = 1) : (bits BinOp.and IntKind.i64 (k / d) 1 == 1) = false := by
  have a : 0 ≤ k / d := Int.ediv_nonneg h0 (by omega)
  have b : k / d ≤ k := Int.ediv_le_self _ h0
  rw [and_one a (by omega), beq_eq_false_iff_ne]; exact h

def BelAt (k : Int) (n : Nat) (x y : Int) : Prop := bel k n = (x, y)
theorem belAt_yes {k : Int} {n : Nat} {x y : Int} (h : BelAt k n x y) (hb : k / hd n % 2 = 1) : BelAt k (n + 1) ((x * hc n - y * hs n + 536870912) / 1073741824) ((x * hs n + y * hc n + 536870912) / 1073741824) := by
  unfold BelAt at *
  simp only [bel, h, if_pos hb]
theorem belAt_no {k : Int} {n : Nat} {x y : Int} (h : BelAt k n x y) (hb : ¬ k / hd n % 2 = 1) : BelAt k (n + 1) x y := by
  unfold BelAt at *
  simp only [bel, h, if_neg hb]
theorem belAt_bd {k : Int} {n : Nat} {x y : Int} (h : BelAt k n x y) (h0 : 0 ≤ k) (h1 : k < 128) (hn : n ≤ 7) : 0 ≤ x ∧ x ≤ 1073741824 ∧ 0 ≤ y ∧ y ≤ 1073741824 := by
  have hb := bel_bd h0 h1 hn
  unfold BelAt at h
  rw [h] at hb
  exact hb

set_option maxHeartbeats 4000000 in
set_option maxRecDepth 100000 in
theorem below_calls (k : Int) (w : World) (h0 : 0 ≤ k) (h1 : k < 128) :
    Calls Try.prog 62 #[.int .i64 k, .agg halfCells] w fun e w' => e = .returned (.agg #[.int .i64 (bel k 7).1, .int .i64 (bel k 7).2]) ∧ Below w.heap.size w w' := by
  unfold halfCells
  go_enter Try.func62, Try.ntmps62
  go_wp2
  go_loopw [5, 6, 7] (fun a b c wr => ∃ (n : Nat) (x y : Int) (m : Nat), n ≤ 7 ∧ 0 ≤ x ∧ x ≤ 1073741824 ∧ 0 ≤ y ∧ y ≤ 1073741824 ∧ a = .int .i64 x ∧ b = .int .i64 y ∧ c = .int .i64 (6 - n) ∧ BelAt k n x y ∧
      wr = ((w.alloc (.cells (#[.int .i64 1073660972, .int .i64 13176485, .int .i64 1073418432, .int .i64 26350953, .int .i64 1072448454, .int .i64 52686017, .int .i64 1068571463, .int .i64 105245105, .int .i64 1053110175, .int .i64 209476638, .int .i64 992008094, .int .i64 410903207, .int .i64 759250124, .int .i64 759250124] : Array Value) 70)).alloc (.cells #[.int .i64 0, .int .i64 0] 32)).drewN m) (fun _ _ c _ => (intOf c + 1).toNat)
  case atStart => exact ⟨0, 1073741824, 0, 0, by omega, by omega, by omega, by omega, by omega, rfl, rfl, rfl, rfl, rfl⟩
  case round =>
    obtain ⟨n, x, y, m, hn, hx0, hx1, hy0, hy1, rfl, rfl, rfl, hat, rfl⟩ := hrel
    have cases : n = 0 ∨ n = 1 ∨ n = 2 ∨ n = 3 ∨ n = 4 ∨ n = 5 ∨ n = 6 ∨ n = 7 := by omega
    rcases cases with rfl | rfl | rfl | rfl | rfl | rfl | rfl | rfl
    · by_cases hb : k / hd 0 % 2 = 1
      · have hn := belAt_yes hat hb
        have hbd := belAt_bd hn h0 h1 (by omega)
        have hbit := bit_yes h0 h1 (by decide) hb
        have H := Lib.hid hn
        simp only [hc, hs, hd] at hbd hbit
        clear hn hat hb
        go_wp2
        all_goals go_quiet (fail)
        all_goals go_wp2
        exact ⟨⟨1, _, _, _, by omega, hbd.1, hbd.2.1, hbd.2.2.1, hbd.2.2.2, rfl, rfl, rfl, H.out, rfl⟩, by decide⟩
      · have hn := belAt_no hat hb
        have hbit := bit_no h0 h1 (by decide) hb
        have H := Lib.hid hn
        simp only [hd] at hbit
        clear hn hat hb
        go_wp2
        exact ⟨⟨1, _, _, _, by omega, hx0, hx1, hy0, hy1, rfl, rfl, rfl, H.out, rfl⟩, by decide⟩
    · by_cases hb : k / hd 1 % 2 = 1
      · have hn := belAt_yes hat hb
        have hbd := belAt_bd hn h0 h1 (by omega)
        have hbit := bit_yes h0 h1 (by decide) hb
        have H := Lib.hid hn
        simp only [hc, hs, hd] at hbd hbit
        clear hn hat hb
        go_wp2
        all_goals go_quiet (fail)
        all_goals go_wp2
        exact ⟨⟨2, _, _, _, by omega, hbd.1, hbd.2.1, hbd.2.2.1, hbd.2.2.2, rfl, rfl, rfl, H.out, rfl⟩, by decide⟩
      · have hn := belAt_no hat hb
        have hbit := bit_no h0 h1 (by decide) hb
        have H := Lib.hid hn
        simp only [hd] at hbit
        clear hn hat hb
        go_wp2
        exact ⟨⟨2, _, _, _, by omega, hx0, hx1, hy0, hy1, rfl, rfl, rfl, H.out, rfl⟩, by decide⟩
    · by_cases hb : k / hd 2 % 2 = 1
      · have hn := belAt_yes hat hb
        have hbd := belAt_bd hn h0 h1 (by omega)
        have hbit := bit_yes h0 h1 (by decide) hb
        have H := Lib.hid hn
        simp only [hc, hs, hd] at hbd hbit
        clear hn hat hb
        go_wp2
        all_goals go_quiet (fail)
        all_goals go_wp2
        exact ⟨⟨3, _, _, _, by omega, hbd.1, hbd.2.1, hbd.2.2.1, hbd.2.2.2, rfl, rfl, rfl, H.out, rfl⟩, by decide⟩
      · have hn := belAt_no hat hb
        have hbit := bit_no h0 h1 (by decide) hb
        have H := Lib.hid hn
        simp only [hd] at hbit
        clear hn hat hb
        go_wp2
        exact ⟨⟨3, _, _, _, by omega, hx0, hx1, hy0, hy1, rfl, rfl, rfl, H.out, rfl⟩, by decide⟩
    · by_cases hb : k / hd 3 % 2 = 1
      · have hn := belAt_yes hat hb
        have hbd := belAt_bd hn h0 h1 (by omega)
        have hbit := bit_yes h0 h1 (by decide) hb
        have H := Lib.hid hn
        simp only [hc, hs, hd] at hbd hbit
        clear hn hat hb
        go_wp2
        all_goals go_quiet (fail)
        all_goals go_wp2
        exact ⟨⟨4, _, _, _, by omega, hbd.1, hbd.2.1, hbd.2.2.1, hbd.2.2.2, rfl, rfl, rfl, H.out, rfl⟩, by decide⟩
      · have hn := belAt_no hat hb
        have hbit := bit_no h0 h1 (by decide) hb
        have H := Lib.hid hn
        simp only [hd] at hbit
        clear hn hat hb
        go_wp2
        exact ⟨⟨4, _, _, _, by omega, hx0, hx1, hy0, hy1, rfl, rfl, rfl, H.out, rfl⟩, by decide⟩
    · by_cases hb : k / hd 4 % 2 = 1
      · have hn := belAt_yes hat hb
        have hbd := belAt_bd hn h0 h1 (by omega)
        have hbit := bit_yes h0 h1 (by decide) hb
        have H := Lib.hid hn
        simp only [hc, hs, hd] at hbd hbit
        clear hn hat hb
        go_wp2
        all_goals go_quiet (fail)
        all_goals go_wp2
        exact ⟨⟨5, _, _, _, by omega, hbd.1, hbd.2.1, hbd.2.2.1, hbd.2.2.2, rfl, rfl, rfl, H.out, rfl⟩, by decide⟩
      · have hn := belAt_no hat hb
        have hbit := bit_no h0 h1 (by decide) hb
        have H := Lib.hid hn
        simp only [hd] at hbit
        clear hn hat hb
        go_wp2
        exact ⟨⟨5, _, _, _, by omega, hx0, hx1, hy0, hy1, rfl, rfl, rfl, H.out, rfl⟩, by decide⟩
    · by_cases hb : k / hd 5 % 2 = 1
      · have hn := belAt_yes hat hb
        have hbd := belAt_bd hn h0 h1 (by omega)
        have hbit := bit_yes h0 h1 (by decide) hb
        have H := Lib.hid hn
        simp only [hc, hs, hd] at hbd hbit
        clear hn hat hb
        go_wp2
        all_goals go_quiet (fail)
        all_goals go_wp2
        exact ⟨⟨6, _, _, _, by omega, hbd.1, hbd.2.1, hbd.2.2.1, hbd.2.2.2, rfl, rfl, rfl, H.out, rfl⟩, by decide⟩
      · have hn := belAt_no hat hb
        have hbit := bit_no h0 h1 (by decide) hb
        have H := Lib.hid hn
        simp only [hd] at hbit
        clear hn hat hb
        go_wp2
        exact ⟨⟨6, _, _, _, by omega, hx0, hx1, hy0, hy1, rfl, rfl, rfl, H.out, rfl⟩, by decide⟩
    · by_cases hb : k / hd 6 % 2 = 1
      · have hn := belAt_yes hat hb
        have hbd := belAt_bd hn h0 h1 (by omega)
        have hbit := bit_yes h0 h1 (by decide) hb
        have H := Lib.hid hn
        simp only [hc, hs, hd, Int.ediv_one] at hbd hbit
        clear hn hat hb
        go_wp2
        all_goals go_quiet (fail)
        all_goals go_wp2
        exact ⟨⟨7, _, _, _, by omega, hbd.1, hbd.2.1, hbd.2.2.1, hbd.2.2.2, rfl, rfl, rfl, H.out, rfl⟩, by decide⟩
      · have hn := belAt_no hat hb
        have hbit := bit_no h0 h1 (by decide) hb
        have H := Lib.hid hn
        simp only [hd, Int.ediv_one] at hbit
        clear hn hat hb
        go_wp2
        exact ⟨⟨7, _, _, _, by omega, hx0, hx1, hy0, hy1, rfl, rfl, rfl, H.out, rfl⟩, by decide⟩
    · have H := Lib.hid hat
      clear hat
      go_wp2
      refine bodyPost_ret (v := .agg #[.int .i64 x, .int .i64 y]) (by simp [results, Try.results62, go_sem]) rfl ⟨?_, ?_⟩
      · rw [show bel k 7 = (x, y) from H.out]
      · repeat' (first | exact Below.refl _ _ | refine below_draws ?_ _ | refine below_set ?_ (by simp) _ | refine below_new ?_ (by simp) _)
end Go.Proofs.Ytlfiaaoegeodnaa
