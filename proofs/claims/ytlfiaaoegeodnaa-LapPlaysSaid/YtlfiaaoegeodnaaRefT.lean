/- Contracts of the document's roots and turns (layer 8). -/
import Derived.Test.YtlfiaaoegeodnaaChecked
import Derived.Test.YtlfiaaoegeodnaaFrame
import Derived.Test.YtlfiaaoegeodnaaLiftPlain
import Derived.Test.YtlfiaaoegeodnaaTrigC
namespace Go.Proofs.Ytlfiaaoegeodnaa
open Go.RowKit

theorem rroot_mid {l h : Int} (h0 : 0 ≤ l) (h1 : l ≤ h) (h2 : h ≤ 2147483648) : 0 ≤ (l + h + 1) / 2 * ((l + h + 1) / 2) ∧ (l + h + 1) / 2 * ((l + h + 1) / 2) ≤ 4611686018427387904 := by
  have a : 0 ≤ (l + h + 1) / 2 := by omega
  have b : (l + h + 1) / 2 ≤ 2147483648 := by omega
  exact ⟨Int.mul_nonneg a a, Int.mul_le_mul b b a (by omega)⟩

def RRootInv (n l h : Int) : Prop := l * l ≤ n ∧ n < (h + 1) * (h + 1)
def RRootOk (n : Int) (w : World) (e : Ending) (w' : World) : Prop := ∃ r, IsRoot n r ∧ e = .returned (.int .i64 r) ∧ w = w'

theorem rroot_no {n l h : Int} (_h0 : 0 ≤ l) (_h1 : l < h) (hi : RRootInv n l h) (hc : ¬ (l + h + 1) / 2 * ((l + h + 1) / 2) ≤ n) : RRootInv n l ((l + h + 1) / 2 - 1) := by
  refine ⟨hi.1, ?_⟩
  rw [show (l + h + 1) / 2 - 1 + 1 = (l + h + 1) / 2 by omega]
  omega

set_option maxHeartbeats 400000 in
theorem rroot_calls (n : Int) (w : World) (h0 : 0 ≤ n) (h1 : n ≤ 4611686018427387904) :
    Calls Try.prog 35 #[.int .i64 n] w (RRootOk n w) := by
  go_enter Try.func35, Try.ntmps35
  go_wp2
  go_loop [3, 4] (fun a b => ∃ (l h : Int), 0 ≤ l ∧ l ≤ h ∧ h ≤ 2147483648 ∧ a = .int .i64 l ∧ b = .int .i64 h ∧ RRootInv n l h) (fun a b => (intOf b - intOf a).toNat)
  case atStart => exact ⟨0, 2147483648, by omega, by omega, by omega, rfl, rfl, by omega, by omega⟩
  case round =>
    obtain ⟨l, h, hl, hlh, hh, rfl, rfl, hinv⟩ := hrel
    have hm := rroot_mid hl hlh hh
    by_cases hlt : l < h
    · by_cases hc : (l + h + 1) / 2 * ((l + h + 1) / 2) ≤ n
      · have K := Lib.hid (show RRootInv n ((l + h + 1) / 2) h from ⟨hc, hinv.2⟩)
        clear hinv
        go_wp2
        refine ⟨⟨(l + h + 1) / 2, h, by omega, by omega, by omega, rfl, rfl, K.out⟩, ?_⟩
        simp only [intOf]; omega
      · have K := Lib.hid (rroot_no hl hlt hinv hc)
        clear hinv
        go_wp2
        refine ⟨⟨l, (l + h + 1) / 2 - 1, by omega, by omega, by omega, rfl, rfl, K.out⟩, ?_⟩
        simp only [intOf]; omega
    · obtain rfl : l = h := by omega
      have K := Lib.hid (show IsRoot n l from ⟨hl, hinv.1, hinv.2⟩)
      clear hinv
      go_wp2
      go_ret
      exact ⟨l, K.out, rfl, rfl⟩

theorem rroot_at (n r : Int) (w : World) (hr : IsRoot n r) (h0 : 0 ≤ n) (h1 : n ≤ 4611686018427387904) :
    Calls Try.prog 35 #[.int .i64 n] w fun e w' => e = .returned (.int .i64 r) ∧ w = w' :=
  (rroot_calls n w h0 h1).mono fun _ _ ⟨_, h, he, hw⟩ => ⟨by rw [he, isRoot_unique h hr], hw⟩

theorem tdiv_of_neg {n m : Int} (h : n ≤ 0) (_hm : 0 < m) : n.tdiv m = -((-n) / m) ∧ n.tmod m = -((-n) % m) := by
  constructor
  · rw [← Int.tdiv_eq_ediv_of_nonneg (by omega), Int.neg_tdiv, Int.neg_neg]
  · rw [← Int.tmod_eq_emod_of_nonneg (by omega), Int.neg_tmod, Int.neg_neg]

theorem down_calls (n : Int) (w : World) (h0 : -4611686018427387904 ≤ n) (h1 : n ≤ 4611686018427387904) :
    Calls Try.prog 64 #[.int .i64 n] w fun e w' => e = .returned (.int .i64 (n / 1073741824)) ∧ w = w' := by
  by_cases h : 0 ≤ n
  · go_enter Try.func64, Try.ntmps64
    go_wp2
    go_ret
    exact ⟨rfl, rfl⟩
  · obtain ⟨e1, e2⟩ := tdiv_of_neg (n := n) (m := 1073741824) (by omega) (by omega)
    by_cases hr : (-n) % 1073741824 = 0
    · have hz : n / 1073741824 = n.tdiv 1073741824 := by omega
      have hb : -4294967296 ≤ n.tdiv 1073741824 ∧ n.tdiv 1073741824 ≤ 0 := by omega
      have hc : 0 ≤ n.tmod 1073741824 ∧ n.tmod 1073741824 ≤ 0 := by omega
      rw [hz]
      clear e1 e2 hz hr
      go_enter Try.func64, Try.ntmps64
      go_wp2
      go_ret
      exact ⟨rfl, rfl⟩
    · have hz : n / 1073741824 = n.tdiv 1073741824 - 1 := by omega
      have hb : -4294967296 ≤ n.tdiv 1073741824 ∧ n.tdiv 1073741824 ≤ 0 := by omega
      have hc : -1073741824 ≤ n.tmod 1073741824 ∧ n.tmod 1073741824 < 0 := by omega
      rw [hz]
      clear e1 e2 hz hr
      go_enter Try.func64, Try.ntmps64
      go_wp2
      go_ret
      exact ⟨rfl, rfl⟩

/-- the angle of the n-th round, and the cosine of the one ahead -/
def rang : Nat → Int
  | 0 => 64
  | 1 => 32
  | 2 => 16
  | 3 => 8
  | 4 => 4
  | 5 => 2
  | 6 => 1
  | _ => 0
def rhalf : Nat → Int
  | 0 => 0
  | 1 => 759250124
  | 2 => 992008094
  | 3 => 1053110175
  | 4 => 1068571463
  | 5 => 1072448454
  | 6 => 1073418432
  | 7 => 1073660972
  | _ => 0

def RBel (k : Int) (n : Nat) (x y r : Int) : Prop := BelAt k n x y ∧ r = k % (2 ^ (7 - n))
theorem rbel_bd {k : Int} {n : Nat} {x y r : Int} (h : RBel k n x y r) (h0 : 0 ≤ k) (h1 : k < 128) (hn : n ≤ 7) : 0 ≤ x ∧ x ≤ 1073741824 ∧ 0 ≤ y ∧ y ≤ 1073741824 := by
  exact belAt_bd h.1 h0 h1 hn
theorem rbel_yes0 {k x y r : Int} (_h0 : 0 ≤ k) (h : RBel k 0 x y r) (hb : 64 ≤ r) : RBel k 1 ((x * 759250124 - y * 759250124 + 536870912) / 1073741824) ((x * 759250124 + y * 759250124 + 536870912) / 1073741824) (r - 64) := by
  obtain ⟨h1, h2⟩ := h
  simp only [Nat.reduceSub, Int.reducePow] at h2
  have hb' : k / hd 0 % 2 = 1 := by simp only [hd]; omega
  refine ⟨?_, ?_⟩
  · exact belAt_yes h1 hb'
  · simp only [Nat.reduceSub, Int.reducePow]; omega
theorem rbel_no0 {k x y r : Int} (_h0 : 0 ≤ k) (h : RBel k 0 x y r) (hb : ¬ 64 ≤ r) : RBel k 1 x y r := by
  obtain ⟨h1, h2⟩ := h
  simp only [Nat.reduceSub, Int.reducePow] at h2
  have hb' : ¬ k / hd 0 % 2 = 1 := by simp only [hd]; omega
  refine ⟨?_, ?_⟩
  · exact belAt_no h1 hb'
  · simp only [Nat.reduceSub, Int.reducePow]; omega
theorem rbel_yes1 {k x y r : Int} (_h0 : 0 ≤ k) (h : RBel k 1 x y r) (hb : 32 ≤ r) : RBel k 2 ((x * 992008094 - y * 410903207 + 536870912) / 1073741824) ((x * 410903207 + y * 992008094 + 536870912) / 1073741824) (r - 32) := by
  obtain ⟨h1, h2⟩ := h
  simp only [Nat.reduceSub, Int.reducePow] at h2
  have hb' : k / hd 1 % 2 = 1 := by simp only [hd]; omega
  refine ⟨?_, ?_⟩
  · exact belAt_yes h1 hb'
  · simp only [Nat.reduceSub, Int.reducePow]; omega
theorem rbel_no1 {k x y r : Int} (_h0 : 0 ≤ k) (h : RBel k 1 x y r) (hb : ¬ 32 ≤ r) : RBel k 2 x y r := by
  obtain ⟨h1, h2⟩ := h
  simp only [Nat.reduceSub, Int.reducePow] at h2
  have hb' : ¬ k / hd 1 % 2 = 1 := by simp only [hd]; omega
  refine ⟨?_, ?_⟩
  · exact belAt_no h1 hb'
  · simp only [Nat.reduceSub, Int.reducePow]; omega
theorem rbel_yes2 {k x y r : Int} (_h0 : 0 ≤ k) (h : RBel k 2 x y r) (hb : 16 ≤ r) : RBel k 3 ((x * 1053110175 - y * 209476638 + 536870912) / 1073741824) ((x * 209476638 + y * 1053110175 + 536870912) / 1073741824) (r - 16) := by
  obtain ⟨h1, h2⟩ := h
  simp only [Nat.reduceSub, Int.reducePow] at h2
  have hb' : k / hd 2 % 2 = 1 := by simp only [hd]; omega
  refine ⟨?_, ?_⟩
  · exact belAt_yes h1 hb'
  · simp only [Nat.reduceSub, Int.reducePow]; omega
theorem rbel_no2 {k x y r : Int} (_h0 : 0 ≤ k) (h : RBel k 2 x y r) (hb : ¬ 16 ≤ r) : RBel k 3 x y r := by
  obtain ⟨h1, h2⟩ := h
  simp only [Nat.reduceSub, Int.reducePow] at h2
  have hb' : ¬ k / hd 2 % 2 = 1 := by simp only [hd]; omega
  refine ⟨?_, ?_⟩
  · exact belAt_no h1 hb'
  · simp only [Nat.reduceSub, Int.reducePow]; omega
theorem rbel_yes3 {k x y r : Int} (_h0 : 0 ≤ k) (h : RBel k 3 x y r) (hb : 8 ≤ r) : RBel k 4 ((x * 1068571463 - y * 105245105 + 536870912) / 1073741824) ((x * 105245105 + y * 1068571463 + 536870912) / 1073741824) (r - 8) := by
  obtain ⟨h1, h2⟩ := h
  simp only [Nat.reduceSub, Int.reducePow] at h2
  have hb' : k / hd 3 % 2 = 1 := by simp only [hd]; omega
  refine ⟨?_, ?_⟩
  · exact belAt_yes h1 hb'
  · simp only [Nat.reduceSub, Int.reducePow]; omega
theorem rbel_no3 {k x y r : Int} (_h0 : 0 ≤ k) (h : RBel k 3 x y r) (hb : ¬ 8 ≤ r) : RBel k 4 x y r := by
  obtain ⟨h1, h2⟩ := h
  simp only [Nat.reduceSub, Int.reducePow] at h2
  have hb' : ¬ k / hd 3 % 2 = 1 := by simp only [hd]; omega
  refine ⟨?_, ?_⟩
  · exact belAt_no h1 hb'
  · simp only [Nat.reduceSub, Int.reducePow]; omega
theorem rbel_yes4 {k x y r : Int} (_h0 : 0 ≤ k) (h : RBel k 4 x y r) (hb : 4 ≤ r) : RBel k 5 ((x * 1072448454 - y * 52686017 + 536870912) / 1073741824) ((x * 52686017 + y * 1072448454 + 536870912) / 1073741824) (r - 4) := by
  obtain ⟨h1, h2⟩ := h
  simp only [Nat.reduceSub, Int.reducePow] at h2
  have hb' : k / hd 4 % 2 = 1 := by simp only [hd]; omega
  refine ⟨?_, ?_⟩
  · exact belAt_yes h1 hb'
  · simp only [Nat.reduceSub, Int.reducePow]; omega
theorem rbel_no4 {k x y r : Int} (_h0 : 0 ≤ k) (h : RBel k 4 x y r) (hb : ¬ 4 ≤ r) : RBel k 5 x y r := by
  obtain ⟨h1, h2⟩ := h
  simp only [Nat.reduceSub, Int.reducePow] at h2
  have hb' : ¬ k / hd 4 % 2 = 1 := by simp only [hd]; omega
  refine ⟨?_, ?_⟩
  · exact belAt_no h1 hb'
  · simp only [Nat.reduceSub, Int.reducePow]; omega
theorem rbel_yes5 {k x y r : Int} (_h0 : 0 ≤ k) (h : RBel k 5 x y r) (hb : 2 ≤ r) : RBel k 6 ((x * 1073418432 - y * 26350953 + 536870912) / 1073741824) ((x * 26350953 + y * 1073418432 + 536870912) / 1073741824) (r - 2) := by
  obtain ⟨h1, h2⟩ := h
  simp only [Nat.reduceSub, Int.reducePow] at h2
  have hb' : k / hd 5 % 2 = 1 := by simp only [hd]; omega
  refine ⟨?_, ?_⟩
  · exact belAt_yes h1 hb'
  · simp only [Nat.reduceSub, Int.reducePow]; omega
theorem rbel_no5 {k x y r : Int} (_h0 : 0 ≤ k) (h : RBel k 5 x y r) (hb : ¬ 2 ≤ r) : RBel k 6 x y r := by
  obtain ⟨h1, h2⟩ := h
  simp only [Nat.reduceSub, Int.reducePow] at h2
  have hb' : ¬ k / hd 5 % 2 = 1 := by simp only [hd]; omega
  refine ⟨?_, ?_⟩
  · exact belAt_no h1 hb'
  · simp only [Nat.reduceSub, Int.reducePow]; omega
theorem rbel_yes6 {k x y r : Int} (_h0 : 0 ≤ k) (h : RBel k 6 x y r) (hb : 1 ≤ r) : RBel k 7 ((x * 1073660972 - y * 13176485 + 536870912) / 1073741824) ((x * 13176485 + y * 1073660972 + 536870912) / 1073741824) (r - 1) := by
  obtain ⟨h1, h2⟩ := h
  simp only [Nat.reduceSub, Int.reducePow] at h2
  have hb' : k / hd 6 % 2 = 1 := by simp only [hd]; omega
  refine ⟨?_, ?_⟩
  · exact belAt_yes h1 hb'
  · simp only [Nat.reduceSub, Int.reducePow]; omega
theorem rbel_no6 {k x y r : Int} (_h0 : 0 ≤ k) (h : RBel k 6 x y r) (hb : ¬ 1 ≤ r) : RBel k 7 x y r := by
  obtain ⟨h1, h2⟩ := h
  simp only [Nat.reduceSub, Int.reducePow] at h2
  have hb' : ¬ k / hd 6 % 2 = 1 := by simp only [hd]; omega
  refine ⟨?_, ?_⟩
  · exact belAt_no h1 hb'
  · simp only [Nat.reduceSub, Int.reducePow]; omega
set_option maxHeartbeats 4000000 in
theorem rturn_q0 (k m : Int) (w : World) (hm0 : 0 ≤ m) (hm1 : m < 512) (he : k.tmod 512 + (if k.tmod 512 < 0 then 512 else 0) = m) (hq : m / 128 = 0) :
    Calls Try.prog 33 #[.int .i64 k] w fun e w' => e = .returned (.tuple #[.int .i64 ((bel (m % 128) 7).1), .int .i64 ((bel (m % 128) 7).2)]) ∧ w = w' := by
  have hr := tmod_bd k (m := 511) (by omega)
  simp only [Int.reduceAdd] at hr
  have hj0 : 0 ≤ m % 128 := by omega
  have hj1 : m % 128 < 128 := by omega
  have HQ := Lib.hid hq
  clear hq
  by_cases hneg : k.tmod 512 < 0
  · rw [if_pos hneg] at he
    have HE := Lib.hid he
    clear he
    go_enter Try.func33, Try.ntmps33
    go_wp2_with fail
    have he := HE.out
    clear HE
    generalize k.tmod 512 = t at *
    have ht : t = m - 512 := by omega
    subst ht
    simp only [Int.sub_add_cancel]
    clear he
    go_loop [6, 7, 8, 9, 10] (fun a b c d e => ∃ (n : Nat) (x y r : Int), n ≤ 7 ∧ 0 ≤ x ∧ x ≤ 1073741824 ∧ 0 ≤ y ∧ y ≤ 1073741824 ∧ 0 ≤ r ∧ r < 128 ∧ a = .int .i64 x ∧ b = .int .i64 y ∧ c = .int .i64 (rhalf n) ∧ d = .int .i64 r ∧ e = .int .i64 (rang n) ∧ RBel (m % 128) n x y r) (fun _ _ _ _ e => (intOf e).toNat)
    case atStart => exact ⟨0, 1073741824, 0, _, by omega, by omega, by omega, by omega, by omega, by omega, by omega, rfl, rfl, rfl, rfl, rfl, rfl, by simp only [Nat.sub_zero, Int.reducePow]; omega⟩
    case round =>
      obtain ⟨n, x, y, r, hn, hx0, hx1, hy0, hy1, hr0, hr1, rfl, rfl, rfl, rfl, rfl, hat⟩ := hrel
      have cases : n = 0 ∨ n = 1 ∨ n = 2 ∨ n = 3 ∨ n = 4 ∨ n = 5 ∨ n = 6 ∨ n = 7 := by omega
      clear hn
      rcases cases with rfl | rfl | rfl | rfl | rfl | rfl | rfl | rfl
      · simp only [rhalf, rang]
        by_cases hb : 64 ≤ r
        · have hnx := rbel_yes0 hj0 hat hb
          have hbd := rbel_bd hnx hj0 hj1 (by omega)
          have H := Lib.hid hnx
          clear hnx hat
          go_wp2_with fail
          refine (rroot_at _ 759250124 _ (by unfold IsRoot; decide +kernel) (by omega) (by omega)).mono ?_
          rintro e w' ⟨rfl, rfl⟩
          go_wp2_with fail
          refine (rroot_at _ 759250124 _ (by unfold IsRoot; decide +kernel) (by omega) (by omega)).mono ?_
          rintro e w' ⟨rfl, rfl⟩
          go_wp2_with fail
          refine (down_calls _ _ (by omega) (by omega)).mono ?_
          rintro e w' ⟨rfl, rfl⟩
          go_wp2_with fail
          refine (down_calls _ _ (by omega) (by omega)).mono ?_
          rintro e w' ⟨rfl, rfl⟩
          go_wp2_with fail
          exact ⟨⟨1, _, _, _, by omega, hbd.1, hbd.2.1, hbd.2.2.1, hbd.2.2.2, by omega, by omega, rfl, rfl, rfl, rfl, rfl, H.out⟩, by decide⟩
        · have hnx := rbel_no0 hj0 hat hb
          have H := Lib.hid hnx
          clear hnx hat
          go_wp2_with fail
          refine (rroot_at _ 759250124 _ (by unfold IsRoot; decide +kernel) (by omega) (by omega)).mono ?_
          rintro e w' ⟨rfl, rfl⟩
          go_wp2_with fail
          refine (rroot_at _ 759250124 _ (by unfold IsRoot; decide +kernel) (by omega) (by omega)).mono ?_
          rintro e w' ⟨rfl, rfl⟩
          go_wp2_with fail
          exact ⟨⟨1, _, _, _, by omega, hx0, hx1, hy0, hy1, by omega, by omega, rfl, rfl, rfl, rfl, rfl, H.out⟩, by decide⟩
      · simp only [rhalf, rang]
        by_cases hb : 32 ≤ r
        · have hnx := rbel_yes1 hj0 hat hb
          have hbd := rbel_bd hnx hj0 hj1 (by omega)
          have H := Lib.hid hnx
          clear hnx hat
          go_wp2_with fail
          refine (rroot_at _ 992008094 _ (by unfold IsRoot; decide +kernel) (by omega) (by omega)).mono ?_
          rintro e w' ⟨rfl, rfl⟩
          go_wp2_with fail
          refine (rroot_at _ 410903207 _ (by unfold IsRoot; decide +kernel) (by omega) (by omega)).mono ?_
          rintro e w' ⟨rfl, rfl⟩
          go_wp2_with fail
          refine (down_calls _ _ (by omega) (by omega)).mono ?_
          rintro e w' ⟨rfl, rfl⟩
          go_wp2_with fail
          refine (down_calls _ _ (by omega) (by omega)).mono ?_
          rintro e w' ⟨rfl, rfl⟩
          go_wp2_with fail
          exact ⟨⟨2, _, _, _, by omega, hbd.1, hbd.2.1, hbd.2.2.1, hbd.2.2.2, by omega, by omega, rfl, rfl, rfl, rfl, rfl, H.out⟩, by decide⟩
        · have hnx := rbel_no1 hj0 hat hb
          have H := Lib.hid hnx
          clear hnx hat
          go_wp2_with fail
          refine (rroot_at _ 992008094 _ (by unfold IsRoot; decide +kernel) (by omega) (by omega)).mono ?_
          rintro e w' ⟨rfl, rfl⟩
          go_wp2_with fail
          refine (rroot_at _ 410903207 _ (by unfold IsRoot; decide +kernel) (by omega) (by omega)).mono ?_
          rintro e w' ⟨rfl, rfl⟩
          go_wp2_with fail
          exact ⟨⟨2, _, _, _, by omega, hx0, hx1, hy0, hy1, by omega, by omega, rfl, rfl, rfl, rfl, rfl, H.out⟩, by decide⟩
      · simp only [rhalf, rang]
        by_cases hb : 16 ≤ r
        · have hnx := rbel_yes2 hj0 hat hb
          have hbd := rbel_bd hnx hj0 hj1 (by omega)
          have H := Lib.hid hnx
          clear hnx hat
          go_wp2_with fail
          refine (rroot_at _ 1053110175 _ (by unfold IsRoot; decide +kernel) (by omega) (by omega)).mono ?_
          rintro e w' ⟨rfl, rfl⟩
          go_wp2_with fail
          refine (rroot_at _ 209476638 _ (by unfold IsRoot; decide +kernel) (by omega) (by omega)).mono ?_
          rintro e w' ⟨rfl, rfl⟩
          go_wp2_with fail
          refine (down_calls _ _ (by omega) (by omega)).mono ?_
          rintro e w' ⟨rfl, rfl⟩
          go_wp2_with fail
          refine (down_calls _ _ (by omega) (by omega)).mono ?_
          rintro e w' ⟨rfl, rfl⟩
          go_wp2_with fail
          exact ⟨⟨3, _, _, _, by omega, hbd.1, hbd.2.1, hbd.2.2.1, hbd.2.2.2, by omega, by omega, rfl, rfl, rfl, rfl, rfl, H.out⟩, by decide⟩
        · have hnx := rbel_no2 hj0 hat hb
          have H := Lib.hid hnx
          clear hnx hat
          go_wp2_with fail
          refine (rroot_at _ 1053110175 _ (by unfold IsRoot; decide +kernel) (by omega) (by omega)).mono ?_
          rintro e w' ⟨rfl, rfl⟩
          go_wp2_with fail
          refine (rroot_at _ 209476638 _ (by unfold IsRoot; decide +kernel) (by omega) (by omega)).mono ?_
          rintro e w' ⟨rfl, rfl⟩
          go_wp2_with fail
          exact ⟨⟨3, _, _, _, by omega, hx0, hx1, hy0, hy1, by omega, by omega, rfl, rfl, rfl, rfl, rfl, H.out⟩, by decide⟩
      · simp only [rhalf, rang]
        by_cases hb : 8 ≤ r
        · have hnx := rbel_yes3 hj0 hat hb
          have hbd := rbel_bd hnx hj0 hj1 (by omega)
          have H := Lib.hid hnx
          clear hnx hat
          go_wp2_with fail
          refine (rroot_at _ 1068571463 _ (by unfold IsRoot; decide +kernel) (by omega) (by omega)).mono ?_
          rintro e w' ⟨rfl, rfl⟩
          go_wp2_with fail
          refine (rroot_at _ 105245105 _ (by unfold IsRoot; decide +kernel) (by omega) (by omega)).mono ?_
          rintro e w' ⟨rfl, rfl⟩
          go_wp2_with fail
          refine (down_calls _ _ (by omega) (by omega)).mono ?_
          rintro e w' ⟨rfl, rfl⟩
          go_wp2_with fail
          refine (down_calls _ _ (by omega) (by omega)).mono ?_
          rintro e w' ⟨rfl, rfl⟩
          go_wp2_with fail
          exact ⟨⟨4, _, _, _, by omega, hbd.1, hbd.2.1, hbd.2.2.1, hbd.2.2.2, by omega, by omega, rfl, rfl, rfl, rfl, rfl, H.out⟩, by decide⟩
        · have hnx := rbel_no3 hj0 hat hb
          have H := Lib.hid hnx
          clear hnx hat
          go_wp2_with fail
          refine (rroot_at _ 1068571463 _ (by unfold IsRoot; decide +kernel) (by omega) (by omega)).mono ?_
          rintro e w' ⟨rfl, rfl⟩
          go_wp2_with fail
          refine (rroot_at _ 105245105 _ (by unfold IsRoot; decide +kernel) (by omega) (by omega)).mono ?_
          rintro e w' ⟨rfl, rfl⟩
          go_wp2_with fail
          exact ⟨⟨4, _, _, _, by omega, hx0, hx1, hy0, hy1, by omega, by omega, rfl, rfl, rfl, rfl, rfl, H.out⟩, by decide⟩
      · simp only [rhalf, rang]
        by_cases hb : 4 ≤ r
        · have hnx := rbel_yes4 hj0 hat hb
          have hbd := rbel_bd hnx hj0 hj1 (by omega)
          have H := Lib.hid hnx
          clear hnx hat
          go_wp2_with fail
          refine (rroot_at _ 1072448454 _ (by unfold IsRoot; decide +kernel) (by omega) (by omega)).mono ?_
          rintro e w' ⟨rfl, rfl⟩
          go_wp2_with fail
          refine (rroot_at _ 52686017 _ (by unfold IsRoot; decide +kernel) (by omega) (by omega)).mono ?_
          rintro e w' ⟨rfl, rfl⟩
          go_wp2_with fail
          refine (down_calls _ _ (by omega) (by omega)).mono ?_
          rintro e w' ⟨rfl, rfl⟩
          go_wp2_with fail
          refine (down_calls _ _ (by omega) (by omega)).mono ?_
          rintro e w' ⟨rfl, rfl⟩
          go_wp2_with fail
          exact ⟨⟨5, _, _, _, by omega, hbd.1, hbd.2.1, hbd.2.2.1, hbd.2.2.2, by omega, by omega, rfl, rfl, rfl, rfl, rfl, H.out⟩, by decide⟩
        · have hnx := rbel_no4 hj0 hat hb
          have H := Lib.hid hnx
          clear hnx hat
          go_wp2_with fail
          refine (rroot_at _ 1072448454 _ (by unfold IsRoot; decide +kernel) (by omega) (by omega)).mono ?_
          rintro e w' ⟨rfl, rfl⟩
          go_wp2_with fail
          refine (rroot_at _ 52686017 _ (by unfold IsRoot; decide +kernel) (by omega) (by omega)).mono ?_
          rintro e w' ⟨rfl, rfl⟩
          go_wp2_with fail
          exact ⟨⟨5, _, _, _, by omega, hx0, hx1, hy0, hy1, by omega, by omega, rfl, rfl, rfl, rfl, rfl, H.out⟩, by decide⟩
      · simp only [rhalf, rang]
        by_cases hb : 2 ≤ r
        · have hnx := rbel_yes5 hj0 hat hb
          have hbd := rbel_bd hnx hj0 hj1 (by omega)
          have H := Lib.hid hnx
          clear hnx hat
          go_wp2_with fail
          refine (rroot_at _ 1073418432 _ (by unfold IsRoot; decide +kernel) (by omega) (by omega)).mono ?_
          rintro e w' ⟨rfl, rfl⟩
          go_wp2_with fail
          refine (rroot_at _ 26350953 _ (by unfold IsRoot; decide +kernel) (by omega) (by omega)).mono ?_
          rintro e w' ⟨rfl, rfl⟩
          go_wp2_with fail
          refine (down_calls _ _ (by omega) (by omega)).mono ?_
          rintro e w' ⟨rfl, rfl⟩
          go_wp2_with fail
          refine (down_calls _ _ (by omega) (by omega)).mono ?_
          rintro e w' ⟨rfl, rfl⟩
          go_wp2_with fail
          exact ⟨⟨6, _, _, _, by omega, hbd.1, hbd.2.1, hbd.2.2.1, hbd.2.2.2, by omega, by omega, rfl, rfl, rfl, rfl, rfl, H.out⟩, by decide⟩
        · have hnx := rbel_no5 hj0 hat hb
          have H := Lib.hid hnx
          clear hnx hat
          go_wp2_with fail
          refine (rroot_at _ 1073418432 _ (by unfold IsRoot; decide +kernel) (by omega) (by omega)).mono ?_
          rintro e w' ⟨rfl, rfl⟩
          go_wp2_with fail
          refine (rroot_at _ 26350953 _ (by unfold IsRoot; decide +kernel) (by omega) (by omega)).mono ?_
          rintro e w' ⟨rfl, rfl⟩
          go_wp2_with fail
          exact ⟨⟨6, _, _, _, by omega, hx0, hx1, hy0, hy1, by omega, by omega, rfl, rfl, rfl, rfl, rfl, H.out⟩, by decide⟩
      · simp only [rhalf, rang]
        by_cases hb : 1 ≤ r
        · have hnx := rbel_yes6 hj0 hat hb
          have hbd := rbel_bd hnx hj0 hj1 (by omega)
          have H := Lib.hid hnx
          clear hnx hat
          go_wp2_with fail
          refine (rroot_at _ 1073660972 _ (by unfold IsRoot; decide +kernel) (by omega) (by omega)).mono ?_
          rintro e w' ⟨rfl, rfl⟩
          go_wp2_with fail
          refine (rroot_at _ 13176485 _ (by unfold IsRoot; decide +kernel) (by omega) (by omega)).mono ?_
          rintro e w' ⟨rfl, rfl⟩
          go_wp2_with fail
          refine (down_calls _ _ (by omega) (by omega)).mono ?_
          rintro e w' ⟨rfl, rfl⟩
          go_wp2_with fail
          refine (down_calls _ _ (by omega) (by omega)).mono ?_
          rintro e w' ⟨rfl, rfl⟩
          go_wp2_with fail
          exact ⟨⟨7, _, _, _, by omega, hbd.1, hbd.2.1, hbd.2.2.1, hbd.2.2.2, by omega, by omega, rfl, rfl, rfl, rfl, rfl, H.out⟩, by decide⟩
        · have hnx := rbel_no6 hj0 hat hb
          have H := Lib.hid hnx
          clear hnx hat
          go_wp2_with fail
          refine (rroot_at _ 1073660972 _ (by unfold IsRoot; decide +kernel) (by omega) (by omega)).mono ?_
          rintro e w' ⟨rfl, rfl⟩
          go_wp2_with fail
          refine (rroot_at _ 13176485 _ (by unfold IsRoot; decide +kernel) (by omega) (by omega)).mono ?_
          rintro e w' ⟨rfl, rfl⟩
          go_wp2_with fail
          exact ⟨⟨7, _, _, _, by omega, hx0, hx1, hy0, hy1, by omega, by omega, rfl, rfl, rfl, rfl, rfl, H.out⟩, by decide⟩
      · simp only [rhalf, rang]
        have H := Lib.hid hat
        clear hat
        have hq := HQ.out
        go_wp2_with fail
        refine wp_loop_rounds 1 ?_
        rw [rounds_succ]
        go_wp2_with fail
        go_ret2
        rw [show bel (m % 128) 7 = (x, y) from H.out.1]
        exact ⟨rfl, rfl⟩
  · rw [if_neg hneg, Int.add_zero] at he
    rw [he] at hr hneg
    go_enter Try.func33, Try.ntmps33
    go_wp2_with fail
    clear he
    go_loop [6, 7, 8, 9, 10] (fun a b c d e => ∃ (n : Nat) (x y r : Int), n ≤ 7 ∧ 0 ≤ x ∧ x ≤ 1073741824 ∧ 0 ≤ y ∧ y ≤ 1073741824 ∧ 0 ≤ r ∧ r < 128 ∧ a = .int .i64 x ∧ b = .int .i64 y ∧ c = .int .i64 (rhalf n) ∧ d = .int .i64 r ∧ e = .int .i64 (rang n) ∧ RBel (m % 128) n x y r) (fun _ _ _ _ e => (intOf e).toNat)
    case atStart => exact ⟨0, 1073741824, 0, _, by omega, by omega, by omega, by omega, by omega, by omega, by omega, rfl, rfl, rfl, rfl, rfl, rfl, by simp only [Nat.sub_zero, Int.reducePow]; omega⟩
    case round =>
      obtain ⟨n, x, y, r, hn, hx0, hx1, hy0, hy1, hr0, hr1, rfl, rfl, rfl, rfl, rfl, hat⟩ := hrel
      have cases : n = 0 ∨ n = 1 ∨ n = 2 ∨ n = 3 ∨ n = 4 ∨ n = 5 ∨ n = 6 ∨ n = 7 := by omega
      clear hn
      rcases cases with rfl | rfl | rfl | rfl | rfl | rfl | rfl | rfl
      · simp only [rhalf, rang]
        by_cases hb : 64 ≤ r
        · have hnx := rbel_yes0 hj0 hat hb
          have hbd := rbel_bd hnx hj0 hj1 (by omega)
          have H := Lib.hid hnx
          clear hnx hat
          go_wp2_with fail
          refine (rroot_at _ 759250124 _ (by unfold IsRoot; decide +kernel) (by omega) (by omega)).mono ?_
          rintro e w' ⟨rfl, rfl⟩
          go_wp2_with fail
          refine (rroot_at _ 759250124 _ (by unfold IsRoot; decide +kernel) (by omega) (by omega)).mono ?_
          rintro e w' ⟨rfl, rfl⟩
          go_wp2_with fail
          refine (down_calls _ _ (by omega) (by omega)).mono ?_
          rintro e w' ⟨rfl, rfl⟩
          go_wp2_with fail
          refine (down_calls _ _ (by omega) (by omega)).mono ?_
          rintro e w' ⟨rfl, rfl⟩
          go_wp2_with fail
          exact ⟨⟨1, _, _, _, by omega, hbd.1, hbd.2.1, hbd.2.2.1, hbd.2.2.2, by omega, by omega, rfl, rfl, rfl, rfl, rfl, H.out⟩, by decide⟩
        · have hnx := rbel_no0 hj0 hat hb
          have H := Lib.hid hnx
          clear hnx hat
          go_wp2_with fail
          refine (rroot_at _ 759250124 _ (by unfold IsRoot; decide +kernel) (by omega) (by omega)).mono ?_
          rintro e w' ⟨rfl, rfl⟩
          go_wp2_with fail
          refine (rroot_at _ 759250124 _ (by unfold IsRoot; decide +kernel) (by omega) (by omega)).mono ?_
          rintro e w' ⟨rfl, rfl⟩
          go_wp2_with fail
          exact ⟨⟨1, _, _, _, by omega, hx0, hx1, hy0, hy1, by omega, by omega, rfl, rfl, rfl, rfl, rfl, H.out⟩, by decide⟩
      · simp only [rhalf, rang]
        by_cases hb : 32 ≤ r
        · have hnx := rbel_yes1 hj0 hat hb
          have hbd := rbel_bd hnx hj0 hj1 (by omega)
          have H := Lib.hid hnx
          clear hnx hat
          go_wp2_with fail
          refine (rroot_at _ 992008094 _ (by unfold IsRoot; decide +kernel) (by omega) (by omega)).mono ?_
          rintro e w' ⟨rfl, rfl⟩
          go_wp2_with fail
          refine (rroot_at _ 410903207 _ (by unfold IsRoot; decide +kernel) (by omega) (by omega)).mono ?_
          rintro e w' ⟨rfl, rfl⟩
          go_wp2_with fail
          refine (down_calls _ _ (by omega) (by omega)).mono ?_
          rintro e w' ⟨rfl, rfl⟩
          go_wp2_with fail
          refine (down_calls _ _ (by omega) (by omega)).mono ?_
          rintro e w' ⟨rfl, rfl⟩
          go_wp2_with fail
          exact ⟨⟨2, _, _, _, by omega, hbd.1, hbd.2.1, hbd.2.2.1, hbd.2.2.2, by omega, by omega, rfl, rfl, rfl, rfl, rfl, H.out⟩, by decide⟩
        · have hnx := rbel_no1 hj0 hat hb
          have H := Lib.hid hnx
          clear hnx hat
          go_wp2_with fail
          refine (rroot_at _ 992008094 _ (by unfold IsRoot; decide +kernel) (by omega) (by omega)).mono ?_
          rintro e w' ⟨rfl, rfl⟩
          go_wp2_with fail
          refine (rroot_at _ 410903207 _ (by unfold IsRoot; decide +kernel) (by omega) (by omega)).mono ?_
          rintro e w' ⟨rfl, rfl⟩
          go_wp2_with fail
          exact ⟨⟨2, _, _, _, by omega, hx0, hx1, hy0, hy1, by omega, by omega, rfl, rfl, rfl, rfl, rfl, H.out⟩, by decide⟩
      · simp only [rhalf, rang]
        by_cases hb : 16 ≤ r
        · have hnx := rbel_yes2 hj0 hat hb
          have hbd := rbel_bd hnx hj0 hj1 (by omega)
          have H := Lib.hid hnx
          clear hnx hat
          go_wp2_with fail
          refine (rroot_at _ 1053110175 _ (by unfold IsRoot; decide +kernel) (by omega) (by omega)).mono ?_
          rintro e w' ⟨rfl, rfl⟩
          go_wp2_with fail
          refine (rroot_at _ 209476638 _ (by unfold IsRoot; decide +kernel) (by omega) (by omega)).mono ?_
          rintro e w' ⟨rfl, rfl⟩
          go_wp2_with fail
          refine (down_calls _ _ (by omega) (by omega)).mono ?_
          rintro e w' ⟨rfl, rfl⟩
          go_wp2_with fail
          refine (down_calls _ _ (by omega) (by omega)).mono ?_
          rintro e w' ⟨rfl, rfl⟩
          go_wp2_with fail
          exact ⟨⟨3, _, _, _, by omega, hbd.1, hbd.2.1, hbd.2.2.1, hbd.2.2.2, by omega, by omega, rfl, rfl, rfl, rfl, rfl, H.out⟩, by decide⟩
        · have hnx := rbel_no2 hj0 hat hb
          have H := Lib.hid hnx
          clear hnx hat
          go_wp2_with fail
          refine (rroot_at _ 1053110175 _ (by unfold IsRoot; decide +kernel) (by omega) (by omega)).mono ?_
          rintro e w' ⟨rfl, rfl⟩
          go_wp2_with fail
          refine (rroot_at _ 209476638 _ (by unfold IsRoot; decide +kernel) (by omega) (by omega)).mono ?_
          rintro e w' ⟨rfl, rfl⟩
          go_wp2_with fail
          exact ⟨⟨3, _, _, _, by omega, hx0, hx1, hy0, hy1, by omega, by omega, rfl, rfl, rfl, rfl, rfl, H.out⟩, by decide⟩
      · simp only [rhalf, rang]
        by_cases hb : 8 ≤ r
        · have hnx := rbel_yes3 hj0 hat hb
          have hbd := rbel_bd hnx hj0 hj1 (by omega)
          have H := Lib.hid hnx
          clear hnx hat
          go_wp2_with fail
          refine (rroot_at _ 1068571463 _ (by unfold IsRoot; decide +kernel) (by omega) (by omega)).mono ?_
          rintro e w' ⟨rfl, rfl⟩
          go_wp2_with fail
          refine (rroot_at _ 105245105 _ (by unfold IsRoot; decide +kernel) (by omega) (by omega)).mono ?_
          rintro e w' ⟨rfl, rfl⟩
          go_wp2_with fail
          refine (down_calls _ _ (by omega) (by omega)).mono ?_
          rintro e w' ⟨rfl, rfl⟩
          go_wp2_with fail
          refine (down_calls _ _ (by omega) (by omega)).mono ?_
          rintro e w' ⟨rfl, rfl⟩
          go_wp2_with fail
          exact ⟨⟨4, _, _, _, by omega, hbd.1, hbd.2.1, hbd.2.2.1, hbd.2.2.2, by omega, by omega, rfl, rfl, rfl, rfl, rfl, H.out⟩, by decide⟩
        · have hnx := rbel_no3 hj0 hat hb
          have H := Lib.hid hnx
          clear hnx hat
          go_wp2_with fail
          refine (rroot_at _ 1068571463 _ (by unfold IsRoot; decide +kernel) (by omega) (by omega)).mono ?_
          rintro e w' ⟨rfl, rfl⟩
          go_wp2_with fail
          refine (rroot_at _ 105245105 _ (by unfold IsRoot; decide +kernel) (by omega) (by omega)).mono ?_
          rintro e w' ⟨rfl, rfl⟩
          go_wp2_with fail
          exact ⟨⟨4, _, _, _, by omega, hx0, hx1, hy0, hy1, by omega, by omega, rfl, rfl, rfl, rfl, rfl, H.out⟩, by decide⟩
      · simp only [rhalf, rang]
        by_cases hb : 4 ≤ r
        · have hnx := rbel_yes4 hj0 hat hb
          have hbd := rbel_bd hnx hj0 hj1 (by omega)
          have H := Lib.hid hnx
          clear hnx hat
          go_wp2_with fail
          refine (rroot_at _ 1072448454 _ (by unfold IsRoot; decide +kernel) (by omega) (by omega)).mono ?_
          rintro e w' ⟨rfl, rfl⟩
          go_wp2_with fail
          refine (rroot_at _ 52686017 _ (by unfold IsRoot; decide +kernel) (by omega) (by omega)).mono ?_
          rintro e w' ⟨rfl, rfl⟩
          go_wp2_with fail
          refine (down_calls _ _ (by omega) (by omega)).mono ?_
          rintro e w' ⟨rfl, rfl⟩
          go_wp2_with fail
          refine (down_calls _ _ (by omega) (by omega)).mono ?_
          rintro e w' ⟨rfl, rfl⟩
          go_wp2_with fail
          exact ⟨⟨5, _, _, _, by omega, hbd.1, hbd.2.1, hbd.2.2.1, hbd.2.2.2, by omega, by omega, rfl, rfl, rfl, rfl, rfl, H.out⟩, by decide⟩
        · have hnx := rbel_no4 hj0 hat hb
          have H := Lib.hid hnx
          clear hnx hat
          go_wp2_with fail
          refine (rroot_at _ 1072448454 _ (by unfold IsRoot; decide +kernel) (by omega) (by omega)).mono ?_
          rintro e w' ⟨rfl, rfl⟩
          go_wp2_with fail
          refine (rroot_at _ 52686017 _ (by unfold IsRoot; decide +kernel) (by omega) (by omega)).mono ?_
          rintro e w' ⟨rfl, rfl⟩
          go_wp2_with fail
          exact ⟨⟨5, _, _, _, by omega, hx0, hx1, hy0, hy1, by omega, by omega, rfl, rfl, rfl, rfl, rfl, H.out⟩, by decide⟩
      · simp only [rhalf, rang]
        by_cases hb : 2 ≤ r
        · have hnx := rbel_yes5 hj0 hat hb
          have hbd := rbel_bd hnx hj0 hj1 (by omega)
          have H := Lib.hid hnx
          clear hnx hat
          go_wp2_with fail
          refine (rroot_at _ 1073418432 _ (by unfold IsRoot; decide +kernel) (by omega) (by omega)).mono ?_
          rintro e w' ⟨rfl, rfl⟩
          go_wp2_with fail
          refine (rroot_at _ 26350953 _ (by unfold IsRoot; decide +kernel) (by omega) (by omega)).mono ?_
          rintro e w' ⟨rfl, rfl⟩
          go_wp2_with fail
          refine (down_calls _ _ (by omega) (by omega)).mono ?_
          rintro e w' ⟨rfl, rfl⟩
          go_wp2_with fail
          refine (down_calls _ _ (by omega) (by omega)).mono ?_
          rintro e w' ⟨rfl, rfl⟩
          go_wp2_with fail
          exact ⟨⟨6, _, _, _, by omega, hbd.1, hbd.2.1, hbd.2.2.1, hbd.2.2.2, by omega, by omega, rfl, rfl, rfl, rfl, rfl, H.out⟩, by decide⟩
        · have hnx := rbel_no5 hj0 hat hb
          have H := Lib.hid hnx
          clear hnx hat
          go_wp2_with fail
          refine (rroot_at _ 1073418432 _ (by unfold IsRoot; decide +kernel) (by omega) (by omega)).mono ?_
          rintro e w' ⟨rfl, rfl⟩
          go_wp2_with fail
          refine (rroot_at _ 26350953 _ (by unfold IsRoot; decide +kernel) (by omega) (by omega)).mono ?_
          rintro e w' ⟨rfl, rfl⟩
          go_wp2_with fail
          exact ⟨⟨6, _, _, _, by omega, hx0, hx1, hy0, hy1, by omega, by omega, rfl, rfl, rfl, rfl, rfl, H.out⟩, by decide⟩
      · simp only [rhalf, rang]
        by_cases hb : 1 ≤ r
        · have hnx := rbel_yes6 hj0 hat hb
          have hbd := rbel_bd hnx hj0 hj1 (by omega)
          have H := Lib.hid hnx
          clear hnx hat
          go_wp2_with fail
          refine (rroot_at _ 1073660972 _ (by unfold IsRoot; decide +kernel) (by omega) (by omega)).mono ?_
          rintro e w' ⟨rfl, rfl⟩
          go_wp2_with fail
          refine (rroot_at _ 13176485 _ (by unfold IsRoot; decide +kernel) (by omega) (by omega)).mono ?_
          rintro e w' ⟨rfl, rfl⟩
          go_wp2_with fail
          refine (down_calls _ _ (by omega) (by omega)).mono ?_
          rintro e w' ⟨rfl, rfl⟩
          go_wp2_with fail
          refine (down_calls _ _ (by omega) (by omega)).mono ?_
          rintro e w' ⟨rfl, rfl⟩
          go_wp2_with fail
          exact ⟨⟨7, _, _, _, by omega, hbd.1, hbd.2.1, hbd.2.2.1, hbd.2.2.2, by omega, by omega, rfl, rfl, rfl, rfl, rfl, H.out⟩, by decide⟩
        · have hnx := rbel_no6 hj0 hat hb
          have H := Lib.hid hnx
          clear hnx hat
          go_wp2_with fail
          refine (rroot_at _ 1073660972 _ (by unfold IsRoot; decide +kernel) (by omega) (by omega)).mono ?_
          rintro e w' ⟨rfl, rfl⟩
          go_wp2_with fail
          refine (rroot_at _ 13176485 _ (by unfold IsRoot; decide +kernel) (by omega) (by omega)).mono ?_
          rintro e w' ⟨rfl, rfl⟩
          go_wp2_with fail
          exact ⟨⟨7, _, _, _, by omega, hx0, hx1, hy0, hy1, by omega, by omega, rfl, rfl, rfl, rfl, rfl, H.out⟩, by decide⟩
      · simp only [rhalf, rang]
        have H := Lib.hid hat
        clear hat
        have hq := HQ.out
        go_wp2_with fail
        refine wp_loop_rounds 1 ?_
        rw [rounds_succ]
        go_wp2_with fail
        go_ret2
        rw [show bel (m % 128) 7 = (x, y) from H.out.1]
        exact ⟨rfl, rfl⟩


set_option maxHeartbeats 4000000 in
theorem rturn_q1 (k m : Int) (w : World) (hm0 : 0 ≤ m) (hm1 : m < 512) (he : k.tmod 512 + (if k.tmod 512 < 0 then 512 else 0) = m) (hq : m / 128 = 1) :
    Calls Try.prog 33 #[.int .i64 k] w fun e w' => e = .returned (.tuple #[.int .i64 (-(bel (m % 128) 7).2), .int .i64 ((bel (m % 128) 7).1)]) ∧ w = w' := by
  have hr := tmod_bd k (m := 511) (by omega)
  simp only [Int.reduceAdd] at hr
  have hj0 : 0 ≤ m % 128 := by omega
  have hj1 : m % 128 < 128 := by omega
  have HQ := Lib.hid hq
  clear hq
  by_cases hneg : k.tmod 512 < 0
  · rw [if_pos hneg] at he
    have HE := Lib.hid he
    clear he
    go_enter Try.func33, Try.ntmps33
    go_wp2_with fail
    have he := HE.out
    clear HE
    generalize k.tmod 512 = t at *
    have ht : t = m - 512 := by omega
    subst ht
    simp only [Int.sub_add_cancel]
    clear he
    go_loop [6, 7, 8, 9, 10] (fun a b c d e => ∃ (n : Nat) (x y r : Int), n ≤ 7 ∧ 0 ≤ x ∧ x ≤ 1073741824 ∧ 0 ≤ y ∧ y ≤ 1073741824 ∧ 0 ≤ r ∧ r < 128 ∧ a = .int .i64 x ∧ b = .int .i64 y ∧ c = .int .i64 (rhalf n) ∧ d = .int .i64 r ∧ e = .int .i64 (rang n) ∧ RBel (m % 128) n x y r) (fun _ _ _ _ e => (intOf e).toNat)
    case atStart => exact ⟨0, 1073741824, 0, _, by omega, by omega, by omega, by omega, by omega, by omega, by omega, rfl, rfl, rfl, rfl, rfl, rfl, by simp only [Nat.sub_zero, Int.reducePow]; omega⟩
    case round =>
      obtain ⟨n, x, y, r, hn, hx0, hx1, hy0, hy1, hr0, hr1, rfl, rfl, rfl, rfl, rfl, hat⟩ := hrel
      have cases : n = 0 ∨ n = 1 ∨ n = 2 ∨ n = 3 ∨ n = 4 ∨ n = 5 ∨ n = 6 ∨ n = 7 := by omega
      clear hn
      rcases cases with rfl | rfl | rfl | rfl | rfl | rfl | rfl | rfl
      · simp only [rhalf, rang]
        by_cases hb : 64 ≤ r
        · have hnx := rbel_yes0 hj0 hat hb
          have hbd := rbel_bd hnx hj0 hj1 (by omega)
          have H := Lib.hid hnx
          clear hnx hat
          go_wp2_with fail
          refine (rroot_at _ 759250124 _ (by unfold IsRoot; decide +kernel) (by omega) (by omega)).mono ?_
          rintro e w' ⟨rfl, rfl⟩
          go_wp2_with fail
          refine (rroot_at _ 759250124 _ (by unfold IsRoot; decide +kernel) (by omega) (by omega)).mono ?_
          rintro e w' ⟨rfl, rfl⟩
          go_wp2_with fail
          refine (down_calls _ _ (by omega) (by omega)).mono ?_
          rintro e w' ⟨rfl, rfl⟩
          go_wp2_with fail
          refine (down_calls _ _ (by omega) (by omega)).mono ?_
          rintro e w' ⟨rfl, rfl⟩
          go_wp2_with fail
          exact ⟨⟨1, _, _, _, by omega, hbd.1, hbd.2.1, hbd.2.2.1, hbd.2.2.2, by omega, by omega, rfl, rfl, rfl, rfl, rfl, H.out⟩, by decide⟩
        · have hnx := rbel_no0 hj0 hat hb
          have H := Lib.hid hnx
          clear hnx hat
          go_wp2_with fail
          refine (rroot_at _ 759250124 _ (by unfold IsRoot; decide +kernel) (by omega) (by omega)).mono ?_
          rintro e w' ⟨rfl, rfl⟩
          go_wp2_with fail
          refine (rroot_at _ 759250124 _ (by unfold IsRoot; decide +kernel) (by omega) (by omega)).mono ?_
          rintro e w' ⟨rfl, rfl⟩
          go_wp2_with fail
          exact ⟨⟨1, _, _, _, by omega, hx0, hx1, hy0, hy1, by omega, by omega, rfl, rfl, rfl, rfl, rfl, H.out⟩, by decide⟩
      · simp only [rhalf, rang]
        by_cases hb : 32 ≤ r
        · have hnx := rbel_yes1 hj0 hat hb
          have hbd := rbel_bd hnx hj0 hj1 (by omega)
          have H := Lib.hid hnx
          clear hnx hat
          go_wp2_with fail
          refine (rroot_at _ 992008094 _ (by unfold IsRoot; decide +kernel) (by omega) (by omega)).mono ?_
          rintro e w' ⟨rfl, rfl⟩
          go_wp2_with fail
          refine (rroot_at _ 410903207 _ (by unfold IsRoot; decide +kernel) (by omega) (by omega)).mono ?_
          rintro e w' ⟨rfl, rfl⟩
          go_wp2_with fail
          refine (down_calls _ _ (by omega) (by omega)).mono ?_
          rintro e w' ⟨rfl, rfl⟩
          go_wp2_with fail
          refine (down_calls _ _ (by omega) (by omega)).mono ?_
          rintro e w' ⟨rfl, rfl⟩
          go_wp2_with fail
          exact ⟨⟨2, _, _, _, by omega, hbd.1, hbd.2.1, hbd.2.2.1, hbd.2.2.2, by omega, by omega, rfl, rfl, rfl, rfl, rfl, H.out⟩, by decide⟩
        · have hnx := rbel_no1 hj0 hat hb
          have H := Lib.hid hnx
          clear hnx hat
          go_wp2_with fail
          refine (rroot_at _ 992008094 _ (by unfold IsRoot; decide +kernel) (by omega) (by omega)).mono ?_
          rintro e w' ⟨rfl, rfl⟩
          go_wp2_with fail
          refine (rroot_at _ 410903207 _ (by unfold IsRoot; decide +kernel) (by omega) (by omega)).mono ?_
          rintro e w' ⟨rfl, rfl⟩
          go_wp2_with fail
          exact ⟨⟨2, _, _, _, by omega, hx0, hx1, hy0, hy1, by omega, by omega, rfl, rfl, rfl, rfl, rfl, H.out⟩, by decide⟩
      · simp only [rhalf, rang]
        by_cases hb : 16 ≤ r
        · have hnx := rbel_yes2 hj0 hat hb
          have hbd := rbel_bd hnx hj0 hj1 (by omega)
          have H := Lib.hid hnx
          clear hnx hat
          go_wp2_with fail
          refine (rroot_at _ 1053110175 _ (by unfold IsRoot; decide +kernel) (by omega) (by omega)).mono ?_
          rintro e w' ⟨rfl, rfl⟩
          go_wp2_with fail
          refine (rroot_at _ 209476638 _ (by unfold IsRoot; decide +kernel) (by omega) (by omega)).mono ?_
          rintro e w' ⟨rfl, rfl⟩
          go_wp2_with fail
          refine (down_calls _ _ (by omega) (by omega)).mono ?_
          rintro e w' ⟨rfl, rfl⟩
          go_wp2_with fail
          refine (down_calls _ _ (by omega) (by omega)).mono ?_
          rintro e w' ⟨rfl, rfl⟩
          go_wp2_with fail
          exact ⟨⟨3, _, _, _, by omega, hbd.1, hbd.2.1, hbd.2.2.1, hbd.2.2.2, by omega, by omega, rfl, rfl, rfl, rfl, rfl, H.out⟩, by decide⟩
        · have hnx := rbel_no2 hj0 hat hb
          have H := Lib.hid hnx
          clear hnx hat
          go_wp2_with fail
          refine (rroot_at _ 1053110175 _ (by unfold IsRoot; decide +kernel) (by omega) (by omega)).mono ?_
          rintro e w' ⟨rfl, rfl⟩
          go_wp2_with fail
          refine (rroot_at _ 209476638 _ (by unfold IsRoot; decide +kernel) (by omega) (by omega)).mono ?_
          rintro e w' ⟨rfl, rfl⟩
          go_wp2_with fail
          exact ⟨⟨3, _, _, _, by omega, hx0, hx1, hy0, hy1, by omega, by omega, rfl, rfl, rfl, rfl, rfl, H.out⟩, by decide⟩
      · simp only [rhalf, rang]
        by_cases hb : 8 ≤ r
        · have hnx := rbel_yes3 hj0 hat hb
          have hbd := rbel_bd hnx hj0 hj1 (by omega)
          have H := Lib.hid hnx
          clear hnx hat
          go_wp2_with fail
          refine (rroot_at _ 1068571463 _ (by unfold IsRoot; decide +kernel) (by omega) (by omega)).mono ?_
          rintro e w' ⟨rfl, rfl⟩
          go_wp2_with fail
          refine (rroot_at _ 105245105 _ (by unfold IsRoot; decide +kernel) (by omega) (by omega)).mono ?_
          rintro e w' ⟨rfl, rfl⟩
          go_wp2_with fail
          refine (down_calls _ _ (by omega) (by omega)).mono ?_
          rintro e w' ⟨rfl, rfl⟩
          go_wp2_with fail
          refine (down_calls _ _ (by omega) (by omega)).mono ?_
          rintro e w' ⟨rfl, rfl⟩
          go_wp2_with fail
          exact ⟨⟨4, _, _, _, by omega, hbd.1, hbd.2.1, hbd.2.2.1, hbd.2.2.2, by omega, by omega, rfl, rfl, rfl, rfl, rfl, H.out⟩, by decide⟩
        · have hnx := rbel_no3 hj0 hat hb
          have H := Lib.hid hnx
          clear hnx hat
          go_wp2_with fail
          refine (rroot_at _ 1068571463 _ (by unfold IsRoot; decide +kernel) (by omega) (by omega)).mono ?_
          rintro e w' ⟨rfl, rfl⟩
          go_wp2_with fail
          refine (rroot_at _ 105245105 _ (by unfold IsRoot; decide +kernel) (by omega) (by omega)).mono ?_
          rintro e w' ⟨rfl, rfl⟩
          go_wp2_with fail
          exact ⟨⟨4, _, _, _, by omega, hx0, hx1, hy0, hy1, by omega, by omega, rfl, rfl, rfl, rfl, rfl, H.out⟩, by decide⟩
      · simp only [rhalf, rang]
        by_cases hb : 4 ≤ r
        · have hnx := rbel_yes4 hj0 hat hb
          have hbd := rbel_bd hnx hj0 hj1 (by omega)
          have H := Lib.hid hnx
          clear hnx hat
          go_wp2_with fail
          refine (rroot_at _ 1072448454 _ (by unfold IsRoot; decide +kernel) (by omega) (by omega)).mono ?_
          rintro e w' ⟨rfl, rfl⟩
          go_wp2_with fail
          refine (rroot_at _ 52686017 _ (by unfold IsRoot; decide +kernel) (by omega) (by omega)).mono ?_
          rintro e w' ⟨rfl, rfl⟩
          go_wp2_with fail
          refine (down_calls _ _ (by omega) (by omega)).mono ?_
          rintro e w' ⟨rfl, rfl⟩
          go_wp2_with fail
          refine (down_calls _ _ (by omega) (by omega)).mono ?_
          rintro e w' ⟨rfl, rfl⟩
          go_wp2_with fail
          exact ⟨⟨5, _, _, _, by omega, hbd.1, hbd.2.1, hbd.2.2.1, hbd.2.2.2, by omega, by omega, rfl, rfl, rfl, rfl, rfl, H.out⟩, by decide⟩
        · have hnx := rbel_no4 hj0 hat hb
          have H := Lib.hid hnx
          clear hnx hat
          go_wp2_with fail
          refine (rroot_at _ 1072448454 _ (by unfold IsRoot; decide +kernel) (by omega) (by omega)).mono ?_
          rintro e w' ⟨rfl, rfl⟩
          go_wp2_with fail
          refine (rroot_at _ 52686017 _ (by unfold IsRoot; decide +kernel) (by omega) (by omega)).mono ?_
          rintro e w' ⟨rfl, rfl⟩
          go_wp2_with fail
          exact ⟨⟨5, _, _, _, by omega, hx0, hx1, hy0, hy1, by omega, by omega, rfl, rfl, rfl, rfl, rfl, H.out⟩, by decide⟩
      · simp only [rhalf, rang]
        by_cases hb : 2 ≤ r
        · have hnx := rbel_yes5 hj0 hat hb
          have hbd := rbel_bd hnx hj0 hj1 (by omega)
          have H := Lib.hid hnx
          clear hnx hat
          go_wp2_with fail
          refine (rroot_at _ 1073418432 _ (by unfold IsRoot; decide +kernel) (by omega) (by omega)).mono ?_
          rintro e w' ⟨rfl, rfl⟩
          go_wp2_with fail
          refine (rroot_at _ 26350953 _ (by unfold IsRoot; decide +kernel) (by omega) (by omega)).mono ?_
          rintro e w' ⟨rfl, rfl⟩
          go_wp2_with fail
          refine (down_calls _ _ (by omega) (by omega)).mono ?_
          rintro e w' ⟨rfl, rfl⟩
          go_wp2_with fail
          refine (down_calls _ _ (by omega) (by omega)).mono ?_
          rintro e w' ⟨rfl, rfl⟩
          go_wp2_with fail
          exact ⟨⟨6, _, _, _, by omega, hbd.1, hbd.2.1, hbd.2.2.1, hbd.2.2.2, by omega, by omega, rfl, rfl, rfl, rfl, rfl, H.out⟩, by decide⟩
        · have hnx := rbel_no5 hj0 hat hb
          have H := Lib.hid hnx
          clear hnx hat
          go_wp2_with fail
          refine (rroot_at _ 1073418432 _ (by unfold IsRoot; decide +kernel) (by omega) (by omega)).mono ?_
          rintro e w' ⟨rfl, rfl⟩
          go_wp2_with fail
          refine (rroot_at _ 26350953 _ (by unfold IsRoot; decide +kernel) (by omega) (by omega)).mono ?_
          rintro e w' ⟨rfl, rfl⟩
          go_wp2_with fail
          exact ⟨⟨6, _, _, _, by omega, hx0, hx1, hy0, hy1, by omega, by omega, rfl, rfl, rfl, rfl, rfl, H.out⟩, by decide⟩
      · simp only [rhalf, rang]
        by_cases hb : 1 ≤ r
        · have hnx := rbel_yes6 hj0 hat hb
          have hbd := rbel_bd hnx hj0 hj1 (by omega)
          have H := Lib.hid hnx
          clear hnx hat
          go_wp2_with fail
          refine (rroot_at _ 1073660972 _ (by unfold IsRoot; decide +kernel) (by omega) (by omega)).mono ?_
          rintro e w' ⟨rfl, rfl⟩
          go_wp2_with fail
          refine (rroot_at _ 13176485 _ (by unfold IsRoot; decide +kernel) (by omega) (by omega)).mono ?_
          rintro e w' ⟨rfl, rfl⟩
          go_wp2_with fail
          refine (down_calls _ _ (by omega) (by omega)).mono ?_
          rintro e w' ⟨rfl, rfl⟩
          go_wp2_with fail
          refine (down_calls _ _ (by omega) (by omega)).mono ?_
          rintro e w' ⟨rfl, rfl⟩
          go_wp2_with fail
          exact ⟨⟨7, _, _, _, by omega, hbd.1, hbd.2.1, hbd.2.2.1, hbd.2.2.2, by omega, by omega, rfl, rfl, rfl, rfl, rfl, H.out⟩, by decide⟩
        · have hnx := rbel_no6 hj0 hat hb
          have H := Lib.hid hnx
          clear hnx hat
          go_wp2_with fail
          refine (rroot_at _ 1073660972 _ (by unfold IsRoot; decide +kernel) (by omega) (by omega)).mono ?_
          rintro e w' ⟨rfl, rfl⟩
          go_wp2_with fail
          refine (rroot_at _ 13176485 _ (by unfold IsRoot; decide +kernel) (by omega) (by omega)).mono ?_
          rintro e w' ⟨rfl, rfl⟩
          go_wp2_with fail
          exact ⟨⟨7, _, _, _, by omega, hx0, hx1, hy0, hy1, by omega, by omega, rfl, rfl, rfl, rfl, rfl, H.out⟩, by decide⟩
      · simp only [rhalf, rang]
        have H := Lib.hid hat
        clear hat
        have hq := HQ.out
        go_wp2_with fail
        refine wp_loop_rounds 2 ?_
        rw [rounds_succ]
        go_wp2_with fail
        rw [rounds_succ]
        go_wp2_with fail
        go_ret2
        rw [show bel (m % 128) 7 = (x, y) from H.out.1]
        exact ⟨rfl, rfl⟩
  · rw [if_neg hneg, Int.add_zero] at he
    rw [he] at hr hneg
    go_enter Try.func33, Try.ntmps33
    go_wp2_with fail
    clear he
    go_loop [6, 7, 8, 9, 10] (fun a b c d e => ∃ (n : Nat) (x y r : Int), n ≤ 7 ∧ 0 ≤ x ∧ x ≤ 1073741824 ∧ 0 ≤ y ∧ y ≤ 1073741824 ∧ 0 ≤ r ∧ r < 128 ∧ a = .int .i64 x ∧ b = .int .i64 y ∧ c = .int .i64 (rhalf n) ∧ d = .int .i64 r ∧ e = .int .i64 (rang n) ∧ RBel (m % 128) n x y r) (fun _ _ _ _ e => (intOf e).toNat)
    case atStart => exact ⟨0, 1073741824, 0, _, by omega, by omega, by omega, by omega, by omega, by omega, by omega, rfl, rfl, rfl, rfl, rfl, rfl, by simp only [Nat.sub_zero, Int.reducePow]; omega⟩
    case round =>
      obtain ⟨n, x, y, r, hn, hx0, hx1, hy0, hy1, hr0, hr1, rfl, rfl, rfl, rfl, rfl, hat⟩ := hrel
      have cases : n = 0 ∨ n = 1 ∨ n = 2 ∨ n = 3 ∨ n = 4 ∨ n = 5 ∨ n = 6 ∨ n = 7 := by omega
      clear hn
      rcases cases with rfl | rfl | rfl | rfl | rfl | rfl | rfl | rfl
      · simp only [rhalf, rang]
        by_cases hb : 64 ≤ r
        · have hnx := rbel_yes0 hj0 hat hb
          have hbd := rbel_bd hnx hj0 hj1 (by omega)
          have H := Lib.hid hnx
          clear hnx hat
          go_wp2_with fail
          refine (rroot_at _ 759250124 _ (by unfold IsRoot; decide +kernel) (by omega) (by omega)).mono ?_
          rintro e w' ⟨rfl, rfl⟩
          go_wp2_with fail
          refine (rroot_at _ 759250124 _ (by unfold IsRoot; decide +kernel) (by omega) (by omega)).mono ?_
          rintro e w' ⟨rfl, rfl⟩
          go_wp2_with fail
          refine (down_calls _ _ (by omega) (by omega)).mono ?_
          rintro e w' ⟨rfl, rfl⟩
          go_wp2_with fail
          refine (down_calls _ _ (by omega) (by omega)).mono ?_
          rintro e w' ⟨rfl, rfl⟩
          go_wp2_with fail
          exact ⟨⟨1, _, _, _, by omega, hbd.1, hbd.2.1, hbd.2.2.1, hbd.2.2.2, by omega, by omega, rfl, rfl, rfl, rfl, rfl, H.out⟩, by decide⟩
        · have hnx := rbel_no0 hj0 hat hb
          have H := Lib.hid hnx
          clear hnx hat
          go_wp2_with fail
          refine (rroot_at _ 759250124 _ (by unfold IsRoot; decide +kernel) (by omega) (by omega)).mono ?_
          rintro e w' ⟨rfl, rfl⟩
          go_wp2_with fail
          refine (rroot_at _ 759250124 _ (by unfold IsRoot; decide +kernel) (by omega) (by omega)).mono ?_
          rintro e w' ⟨rfl, rfl⟩
          go_wp2_with fail
          exact ⟨⟨1, _, _, _, by omega, hx0, hx1, hy0, hy1, by omega, by omega, rfl, rfl, rfl, rfl, rfl, H.out⟩, by decide⟩
      · simp only [rhalf, rang]
        by_cases hb : 32 ≤ r
        · have hnx := rbel_yes1 hj0 hat hb
          have hbd := rbel_bd hnx hj0 hj1 (by omega)
          have H := Lib.hid hnx
          clear hnx hat
          go_wp2_with fail
          refine (rroot_at _ 992008094 _ (by unfold IsRoot; decide +kernel) (by omega) (by omega)).mono ?_
          rintro e w' ⟨rfl, rfl⟩
          go_wp2_with fail
          refine (rroot_at _ 410903207 _ (by unfold IsRoot; decide +kernel) (by omega) (by omega)).mono ?_
          rintro e w' ⟨rfl, rfl⟩
          go_wp2_with fail
          refine (down_calls _ _ (by omega) (by omega)).mono ?_
          rintro e w' ⟨rfl, rfl⟩
          go_wp2_with fail
          refine (down_calls _ _ (by omega) (by omega)).mono ?_
          rintro e w' ⟨rfl, rfl⟩
          go_wp2_with fail
          exact ⟨⟨2, _, _, _, by omega, hbd.1, hbd.2.1, hbd.2.2.1, hbd.2.2.2, by omega, by omega, rfl, rfl, rfl, rfl, rfl, H.out⟩, by decide⟩
        · have hnx := rbel_no1 hj0 hat hb
          have H := Lib.hid hnx
          clear hnx hat
          go_wp2_with fail
          refine (rroot_at _ 992008094 _ (by unfold IsRoot; decide +kernel) (by omega) (by omega)).mono ?_
          rintro e w' ⟨rfl, rfl⟩
          go_wp2_with fail
          refine (rroot_at _ 410903207 _ (by unfold IsRoot; decide +kernel) (by omega) (by omega)).mono ?_
          rintro e w' ⟨rfl, rfl⟩
          go_wp2_with fail
          exact ⟨⟨2, _, _, _, by omega, hx0, hx1, hy0, hy1, by omega, by omega, rfl, rfl, rfl, rfl, rfl, H.out⟩, by decide⟩
      · simp only [rhalf, rang]
        by_cases hb : 16 ≤ r
        · have hnx := rbel_yes2 hj0 hat hb
          have hbd := rbel_bd hnx hj0 hj1 (by omega)
          have H := Lib.hid hnx
          clear hnx hat
          go_wp2_with fail
          refine (rroot_at _ 1053110175 _ (by unfold IsRoot; decide +kernel) (by omega) (by omega)).mono ?_
          rintro e w' ⟨rfl, rfl⟩
          go_wp2_with fail
          refine (rroot_at _ 209476638 _ (by unfold IsRoot; decide +kernel) (by omega) (by omega)).mono ?_
          rintro e w' ⟨rfl, rfl⟩
          go_wp2_with fail
          refine (down_calls _ _ (by omega) (by omega)).mono ?_
          rintro e w' ⟨rfl, rfl⟩
          go_wp2_with fail
          refine (down_calls _ _ (by omega) (by omega)).mono ?_
          rintro e w' ⟨rfl, rfl⟩
          go_wp2_with fail
          exact ⟨⟨3, _, _, _, by omega, hbd.1, hbd.2.1, hbd.2.2.1, hbd.2.2.2, by omega, by omega, rfl, rfl, rfl, rfl, rfl, H.out⟩, by decide⟩
        · have hnx := rbel_no2 hj0 hat hb
          have H := Lib.hid hnx
          clear hnx hat
          go_wp2_with fail
          refine (rroot_at _ 1053110175 _ (by unfold IsRoot; decide +kernel) (by omega) (by omega)).mono ?_
          rintro e w' ⟨rfl, rfl⟩
          go_wp2_with fail
          refine (rroot_at _ 209476638 _ (by unfold IsRoot; decide +kernel) (by omega) (by omega)).mono ?_
          rintro e w' ⟨rfl, rfl⟩
          go_wp2_with fail
          exact ⟨⟨3, _, _, _, by omega, hx0, hx1, hy0, hy1, by omega, by omega, rfl, rfl, rfl, rfl, rfl, H.out⟩, by decide⟩
      · simp only [rhalf, rang]
        by_cases hb : 8 ≤ r
        · have hnx := rbel_yes3 hj0 hat hb
          have hbd := rbel_bd hnx hj0 hj1 (by omega)
          have H := Lib.hid hnx
          clear hnx hat
          go_wp2_with fail
          refine (rroot_at _ 1068571463 _ (by unfold IsRoot; decide +kernel) (by omega) (by omega)).mono ?_
          rintro e w' ⟨rfl, rfl⟩
          go_wp2_with fail
          refine (rroot_at _ 105245105 _ (by unfold IsRoot; decide +kernel) (by omega) (by omega)).mono ?_
          rintro e w' ⟨rfl, rfl⟩
          go_wp2_with fail
          refine (down_calls _ _ (by omega) (by omega)).mono ?_
          rintro e w' ⟨rfl, rfl⟩
          go_wp2_with fail
          refine (down_calls _ _ (by omega) (by omega)).mono ?_
          rintro e w' ⟨rfl, rfl⟩
          go_wp2_with fail
          exact ⟨⟨4, _, _, _, by omega, hbd.1, hbd.2.1, hbd.2.2.1, hbd.2.2.2, by omega, by omega, rfl, rfl, rfl, rfl, rfl, H.out⟩, by decide⟩
        · have hnx := rbel_no3 hj0 hat hb
          have H := Lib.hid hnx
          clear hnx hat
          go_wp2_with fail
          refine (rroot_at _ 1068571463 _ (by unfold IsRoot; decide +kernel) (by omega) (by omega)).mono ?_
          rintro e w' ⟨rfl, rfl⟩
          go_wp2_with fail
          refine (rroot_at _ 105245105 _ (by unfold IsRoot; decide +kernel) (by omega) (by omega)).mono ?_
          rintro e w' ⟨rfl, rfl⟩
          go_wp2_with fail
          exact ⟨⟨4, _, _, _, by omega, hx0, hx1, hy0, hy1, by omega, by omega, rfl, rfl, rfl, rfl, rfl, H.out⟩, by decide⟩
      · simp only [rhalf, rang]
        by_cases hb : 4 ≤ r
        · have hnx := rbel_yes4 hj0 hat hb
          have hbd := rbel_bd hnx hj0 hj1 (by omega)
          have H := Lib.hid hnx
          clear hnx hat
          go_wp2_with fail
          refine (rroot_at _ 1072448454 _ (by unfold IsRoot; decide +kernel) (by omega) (by omega)).mono ?_
          rintro e w' ⟨rfl, rfl⟩
          go_wp2_with fail
          refine (rroot_at _ 52686017 _ (by unfold IsRoot; decide +kernel) (by omega) (by omega)).mono ?_
          rintro e w' ⟨rfl, rfl⟩
          go_wp2_with fail
          refine (down_calls _ _ (by omega) (by omega)).mono ?_
          rintro e w' ⟨rfl, rfl⟩
          go_wp2_with fail
          refine (down_calls _ _ (by omega) (by omega)).mono ?_
          rintro e w' ⟨rfl, rfl⟩
          go_wp2_with fail
          exact ⟨⟨5, _, _, _, by omega, hbd.1, hbd.2.1, hbd.2.2.1, hbd.2.2.2, by omega, by omega, rfl, rfl, rfl, rfl, rfl, H.out⟩, by decide⟩
        · have hnx := rbel_no4 hj0 hat hb
          have H := Lib.hid hnx
          clear hnx hat
          go_wp2_with fail
          refine (rroot_at _ 1072448454 _ (by unfold IsRoot; decide +kernel) (by omega) (by omega)).mono ?_
          rintro e w' ⟨rfl, rfl⟩
          go_wp2_with fail
          refine (rroot_at _ 52686017 _ (by unfold IsRoot; decide +kernel) (by omega) (by omega)).mono ?_
          rintro e w' ⟨rfl, rfl⟩
          go_wp2_with fail
          exact ⟨⟨5, _, _, _, by omega, hx0, hx1, hy0, hy1, by omega, by omega, rfl, rfl, rfl, rfl, rfl, H.out⟩, by decide⟩
      · simp only [rhalf, rang]
        by_cases hb : 2 ≤ r
        · have hnx := rbel_yes5 hj0 hat hb
          have hbd := rbel_bd hnx hj0 hj1 (by omega)
          have H := Lib.hid hnx
          clear hnx hat
          go_wp2_with fail
          refine (rroot_at _ 1073418432 _ (by unfold IsRoot; decide +kernel) (by omega) (by omega)).mono ?_
          rintro e w' ⟨rfl, rfl⟩
          go_wp2_with fail
          refine (rroot_at _ 26350953 _ (by unfold IsRoot; decide +kernel) (by omega) (by omega)).mono ?_
          rintro e w' ⟨rfl, rfl⟩
          go_wp2_with fail
          refine (down_calls _ _ (by omega) (by omega)).mono ?_
          rintro e w' ⟨rfl, rfl⟩
          go_wp2_with fail
          refine (down_calls _ _ (by omega) (by omega)).mono ?_
          rintro e w' ⟨rfl, rfl⟩
          go_wp2_with fail
          exact ⟨⟨6, _, _, _, by omega, hbd.1, hbd.2.1, hbd.2.2.1, hbd.2.2.2, by omega, by omega, rfl, rfl, rfl, rfl, rfl, H.out⟩, by decide⟩
        · have hnx := rbel_no5 hj0 hat hb
          have H := Lib.hid hnx
          clear hnx hat
          go_wp2_with fail
          refine (rroot_at _ 1073418432 _ (by unfold IsRoot; decide +kernel) (by omega) (by omega)).mono ?_
          rintro e w' ⟨rfl, rfl⟩
          go_wp2_with fail
          refine (rroot_at _ 26350953 _ (by unfold IsRoot; decide +kernel) (by omega) (by omega)).mono ?_
          rintro e w' ⟨rfl, rfl⟩
          go_wp2_with fail
          exact ⟨⟨6, _, _, _, by omega, hx0, hx1, hy0, hy1, by omega, by omega, rfl, rfl, rfl, rfl, rfl, H.out⟩, by decide⟩
      · simp only [rhalf, rang]
        by_cases hb : 1 ≤ r
        · have hnx := rbel_yes6 hj0 hat hb
          have hbd := rbel_bd hnx hj0 hj1 (by omega)
          have H := Lib.hid hnx
          clear hnx hat
          go_wp2_with fail
          refine (rroot_at _ 1073660972 _ (by unfold IsRoot; decide +kernel) (by omega) (by omega)).mono ?_
          rintro e w' ⟨rfl, rfl⟩
          go_wp2_with fail
          refine (rroot_at _ 13176485 _ (by unfold IsRoot; decide +kernel) (by omega) (by omega)).mono ?_
          rintro e w' ⟨rfl, rfl⟩
          go_wp2_with fail
          refine (down_calls _ _ (by omega) (by omega)).mono ?_
          rintro e w' ⟨rfl, rfl⟩
          go_wp2_with fail
          refine (down_calls _ _ (by omega) (by omega)).mono ?_
          rintro e w' ⟨rfl, rfl⟩
          go_wp2_with fail
          exact ⟨⟨7, _, _, _, by omega, hbd.1, hbd.2.1, hbd.2.2.1, hbd.2.2.2, by omega, by omega, rfl, rfl, rfl, rfl, rfl, H.out⟩, by decide⟩
        · have hnx := rbel_no6 hj0 hat hb
          have H := Lib.hid hnx
          clear hnx hat
          go_wp2_with fail
          refine (rroot_at _ 1073660972 _ (by unfold IsRoot; decide +kernel) (by omega) (by omega)).mono ?_
          rintro e w' ⟨rfl, rfl⟩
          go_wp2_with fail
          refine (rroot_at _ 13176485 _ (by unfold IsRoot; decide +kernel) (by omega) (by omega)).mono ?_
          rintro e w' ⟨rfl, rfl⟩
          go_wp2_with fail
          exact ⟨⟨7, _, _, _, by omega, hx0, hx1, hy0, hy1, by omega, by omega, rfl, rfl, rfl, rfl, rfl, H.out⟩, by decide⟩
      · simp only [rhalf, rang]
        have H := Lib.hid hat
        clear hat
        have hq := HQ.out
        go_wp2_with fail
        refine wp_loop_rounds 2 ?_
        rw [rounds_succ]
        go_wp2_with fail
        rw [rounds_succ]
        go_wp2_with fail
        go_ret2
        rw [show bel (m % 128) 7 = (x, y) from H.out.1]
        exact ⟨rfl, rfl⟩


set_option maxHeartbeats 4000000 in
theorem rturn_q2 (k m : Int) (w : World) (hm0 : 0 ≤ m) (hm1 : m < 512) (he : k.tmod 512 + (if k.tmod 512 < 0 then 512 else 0) = m) (hq : m / 128 = 2) :
    Calls Try.prog 33 #[.int .i64 k] w fun e w' => e = .returned (.tuple #[.int .i64 (-(bel (m % 128) 7).1), .int .i64 (-(bel (m % 128) 7).2)]) ∧ w = w' := by
  have hr := tmod_bd k (m := 511) (by omega)
  simp only [Int.reduceAdd] at hr
  have hj0 : 0 ≤ m % 128 := by omega
  have hj1 : m % 128 < 128 := by omega
  have HQ := Lib.hid hq
  clear hq
  by_cases hneg : k.tmod 512 < 0
  · rw [if_pos hneg] at he
    have HE := Lib.hid he
    clear he
    go_enter Try.func33, Try.ntmps33
    go_wp2_with fail
    have he := HE.out
    clear HE
    generalize k.tmod 512 = t at *
    have ht : t = m - 512 := by omega
    subst ht
    simp only [Int.sub_add_cancel]
    clear he
    go_loop [6, 7, 8, 9, 10] (fun a b c d e => ∃ (n : Nat) (x y r : Int), n ≤ 7 ∧ 0 ≤ x ∧ x ≤ 1073741824 ∧ 0 ≤ y ∧ y ≤ 1073741824 ∧ 0 ≤ r ∧ r < 128 ∧ a = .int .i64 x ∧ b = .int .i64 y ∧ c = .int .i64 (rhalf n) ∧ d = .int .i64 r ∧ e = .int .i64 (rang n) ∧ RBel (m % 128) n x y r) (fun _ _ _ _ e => (intOf e).toNat)
    case atStart => exact ⟨0, 1073741824, 0, _, by omega, by omega, by omega, by omega, by omega, by omega, by omega, rfl, rfl, rfl, rfl, rfl, rfl, by simp only [Nat.sub_zero, Int.reducePow]; omega⟩
    case round =>
      obtain ⟨n, x, y, r, hn, hx0, hx1, hy0, hy1, hr0, hr1, rfl, rfl, rfl, rfl, rfl, hat⟩ := hrel
      have cases : n = 0 ∨ n = 1 ∨ n = 2 ∨ n = 3 ∨ n = 4 ∨ n = 5 ∨ n = 6 ∨ n = 7 := by omega
      clear hn
      rcases cases with rfl | rfl | rfl | rfl | rfl | rfl | rfl | rfl
      · simp only [rhalf, rang]
        by_cases hb : 64 ≤ r
        · have hnx := rbel_yes0 hj0 hat hb
          have hbd := rbel_bd hnx hj0 hj1 (by omega)
          have H := Lib.hid hnx
          clear hnx hat
          go_wp2_with fail
          refine (rroot_at _ 759250124 _ (by unfold IsRoot; decide +kernel) (by omega) (by omega)).mono ?_
          rintro e w' ⟨rfl, rfl⟩
          go_wp2_with fail
          refine (rroot_at _ 759250124 _ (by unfold IsRoot; decide +kernel) (by omega) (by omega)).mono ?_
          rintro e w' ⟨rfl, rfl⟩
          go_wp2_with fail
          refine (down_calls _ _ (by omega) (by omega)).mono ?_
          rintro e w' ⟨rfl, rfl⟩
          go_wp2_with fail
          refine (down_calls _ _ (by omega) (by omega)).mono ?_
          rintro e w' ⟨rfl, rfl⟩
          go_wp2_with fail
          exact ⟨⟨1, _, _, _, by omega, hbd.1, hbd.2.1, hbd.2.2.1, hbd.2.2.2, by omega, by omega, rfl, rfl, rfl, rfl, rfl, H.out⟩, by decide⟩
        · have hnx := rbel_no0 hj0 hat hb
          have H := Lib.hid hnx
          clear hnx hat
          go_wp2_with fail
          refine (rroot_at _ 759250124 _ (by unfold IsRoot; decide +kernel) (by omega) (by omega)).mono ?_
          rintro e w' ⟨rfl, rfl⟩
          go_wp2_with fail
          refine (rroot_at _ 759250124 _ (by unfold IsRoot; decide +kernel) (by omega) (by omega)).mono ?_
          rintro e w' ⟨rfl, rfl⟩
          go_wp2_with fail
          exact ⟨⟨1, _, _, _, by omega, hx0, hx1, hy0, hy1, by omega, by omega, rfl, rfl, rfl, rfl, rfl, H.out⟩, by decide⟩
      · simp only [rhalf, rang]
        by_cases hb : 32 ≤ r
        · have hnx := rbel_yes1 hj0 hat hb
          have hbd := rbel_bd hnx hj0 hj1 (by omega)
          have H := Lib.hid hnx
          clear hnx hat
          go_wp2_with fail
          refine (rroot_at _ 992008094 _ (by unfold IsRoot; decide +kernel) (by omega) (by omega)).mono ?_
          rintro e w' ⟨rfl, rfl⟩
          go_wp2_with fail
          refine (rroot_at _ 410903207 _ (by unfold IsRoot; decide +kernel) (by omega) (by omega)).mono ?_
          rintro e w' ⟨rfl, rfl⟩
          go_wp2_with fail
          refine (down_calls _ _ (by omega) (by omega)).mono ?_
          rintro e w' ⟨rfl, rfl⟩
          go_wp2_with fail
          refine (down_calls _ _ (by omega) (by omega)).mono ?_
          rintro e w' ⟨rfl, rfl⟩
          go_wp2_with fail
          exact ⟨⟨2, _, _, _, by omega, hbd.1, hbd.2.1, hbd.2.2.1, hbd.2.2.2, by omega, by omega, rfl, rfl, rfl, rfl, rfl, H.out⟩, by decide⟩
        · have hnx := rbel_no1 hj0 hat hb
          have H := Lib.hid hnx
          clear hnx hat
          go_wp2_with fail
          refine (rroot_at _ 992008094 _ (by unfold IsRoot; decide +kernel) (by omega) (by omega)).mono ?_
          rintro e w' ⟨rfl, rfl⟩
          go_wp2_with fail
          refine (rroot_at _ 410903207 _ (by unfold IsRoot; decide +kernel) (by omega) (by omega)).mono ?_
          rintro e w' ⟨rfl, rfl⟩
          go_wp2_with fail
          exact ⟨⟨2, _, _, _, by omega, hx0, hx1, hy0, hy1, by omega, by omega, rfl, rfl, rfl, rfl, rfl, H.out⟩, by decide⟩
      · simp only [rhalf, rang]
        by_cases hb : 16 ≤ r
        · have hnx := rbel_yes2 hj0 hat hb
          have hbd := rbel_bd hnx hj0 hj1 (by omega)
          have H := Lib.hid hnx
          clear hnx hat
          go_wp2_with fail
          refine (rroot_at _ 1053110175 _ (by unfold IsRoot; decide +kernel) (by omega) (by omega)).mono ?_
          rintro e w' ⟨rfl, rfl⟩
          go_wp2_with fail
          refine (rroot_at _ 209476638 _ (by unfold IsRoot; decide +kernel) (by omega) (by omega)).mono ?_
          rintro e w' ⟨rfl, rfl⟩
          go_wp2_with fail
          refine (down_calls _ _ (by omega) (by omega)).mono ?_
          rintro e w' ⟨rfl, rfl⟩
          go_wp2_with fail
          refine (down_calls _ _ (by omega) (by omega)).mono ?_
          rintro e w' ⟨rfl, rfl⟩
          go_wp2_with fail
          exact ⟨⟨3, _, _, _, by omega, hbd.1, hbd.2.1, hbd.2.2.1, hbd.2.2.2, by omega, by omega, rfl, rfl, rfl, rfl, rfl, H.out⟩, by decide⟩
        · have hnx := rbel_no2 hj0 hat hb
          have H := Lib.hid hnx
          clear hnx hat
          go_wp2_with fail
          refine (rroot_at _ 1053110175 _ (by unfold IsRoot; decide +kernel) (by omega) (by omega)).mono ?_
          rintro e w' ⟨rfl, rfl⟩
          go_wp2_with fail
          refine (rroot_at _ 209476638 _ (by unfold IsRoot; decide +kernel) (by omega) (by omega)).mono ?_
          rintro e w' ⟨rfl, rfl⟩
          go_wp2_with fail
          exact ⟨⟨3, _, _, _, by omega, hx0, hx1, hy0, hy1, by omega, by omega, rfl, rfl, rfl, rfl, rfl, H.out⟩, by decide⟩
      · simp only [rhalf, rang]
        by_cases hb : 8 ≤ r
        · have hnx := rbel_yes3 hj0 hat hb
          have hbd := rbel_bd hnx hj0 hj1 (by omega)
          have H := Lib.hid hnx
          clear hnx hat
          go_wp2_with fail
          refine (rroot_at _ 1068571463 _ (by unfold IsRoot; decide +kernel) (by omega) (by omega)).mono ?_
          rintro e w' ⟨rfl, rfl⟩
          go_wp2_with fail
          refine (rroot_at _ 105245105 _ (by unfold IsRoot; decide +kernel) (by omega) (by omega)).mono ?_
          rintro e w' ⟨rfl, rfl⟩
          go_wp2_with fail
          refine (down_calls _ _ (by omega) (by omega)).mono ?_
          rintro e w' ⟨rfl, rfl⟩
          go_wp2_with fail
          refine (down_calls _ _ (by omega) (by omega)).mono ?_
          rintro e w' ⟨rfl, rfl⟩
          go_wp2_with fail
          exact ⟨⟨4, _, _, _, by omega, hbd.1, hbd.2.1, hbd.2.2.1, hbd.2.2.2, by omega, by omega, rfl, rfl, rfl, rfl, rfl, H.out⟩, by decide⟩
        · have hnx := rbel_no3 hj0 hat hb
          have H := Lib.hid hnx
          clear hnx hat
          go_wp2_with fail
          refine (rroot_at _ 1068571463 _ (by unfold IsRoot; decide +kernel) (by omega) (by omega)).mono ?_
          rintro e w' ⟨rfl, rfl⟩
          go_wp2_with fail
          refine (rroot_at _ 105245105 _ (by unfold IsRoot; decide +kernel) (by omega) (by omega)).mono ?_
          rintro e w' ⟨rfl, rfl⟩
          go_wp2_with fail
          exact ⟨⟨4, _, _, _, by omega, hx0, hx1, hy0, hy1, by omega, by omega, rfl, rfl, rfl, rfl, rfl, H.out⟩, by decide⟩
      · simp only [rhalf, rang]
        by_cases hb : 4 ≤ r
        · have hnx := rbel_yes4 hj0 hat hb
          have hbd := rbel_bd hnx hj0 hj1 (by omega)
          have H := Lib.hid hnx
          clear hnx hat
          go_wp2_with fail
          refine (rroot_at _ 1072448454 _ (by unfold IsRoot; decide +kernel) (by omega) (by omega)).mono ?_
          rintro e w' ⟨rfl, rfl⟩
          go_wp2_with fail
          refine (rroot_at _ 52686017 _ (by unfold IsRoot; decide +kernel) (by omega) (by omega)).mono ?_
          rintro e w' ⟨rfl, rfl⟩
          go_wp2_with fail
          refine (down_calls _ _ (by omega) (by omega)).mono ?_
          rintro e w' ⟨rfl, rfl⟩
          go_wp2_with fail
          refine (down_calls _ _ (by omega) (by omega)).mono ?_
          rintro e w' ⟨rfl, rfl⟩
          go_wp2_with fail
          exact ⟨⟨5, _, _, _, by omega, hbd.1, hbd.2.1, hbd.2.2.1, hbd.2.2.2, by omega, by omega, rfl, rfl, rfl, rfl, rfl, H.out⟩, by decide⟩
        · have hnx := rbel_no4 hj0 hat hb
          have H := Lib.hid hnx
          clear hnx hat
          go_wp2_with fail
          refine (rroot_at _ 1072448454 _ (by unfold IsRoot; decide +kernel) (by omega) (by omega)).mono ?_
          rintro e w' ⟨rfl, rfl⟩
          go_wp2_with fail
          refine (rroot_at _ 52686017 _ (by unfold IsRoot; decide +kernel) (by omega) (by omega)).mono ?_
          rintro e w' ⟨rfl, rfl⟩
          go_wp2_with fail
          exact ⟨⟨5, _, _, _, by omega, hx0, hx1, hy0, hy1, by omega, by omega, rfl, rfl, rfl, rfl, rfl, H.out⟩, by decide⟩
      · simp only [rhalf, rang]
        by_cases hb : 2 ≤ r
        · have hnx := rbel_yes5 hj0 hat hb
          have hbd := rbel_bd hnx hj0 hj1 (by omega)
          have H := Lib.hid hnx
          clear hnx hat
          go_wp2_with fail
          refine (rroot_at _ 1073418432 _ (by unfold IsRoot; decide +kernel) (by omega) (by omega)).mono ?_
          rintro e w' ⟨rfl, rfl⟩
          go_wp2_with fail
          refine (rroot_at _ 26350953 _ (by unfold IsRoot; decide +kernel) (by omega) (by omega)).mono ?_
          rintro e w' ⟨rfl, rfl⟩
          go_wp2_with fail
          refine (down_calls _ _ (by omega) (by omega)).mono ?_
          rintro e w' ⟨rfl, rfl⟩
          go_wp2_with fail
          refine (down_calls _ _ (by omega) (by omega)).mono ?_
          rintro e w' ⟨rfl, rfl⟩
          go_wp2_with fail
          exact ⟨⟨6, _, _, _, by omega, hbd.1, hbd.2.1, hbd.2.2.1, hbd.2.2.2, by omega, by omega, rfl, rfl, rfl, rfl, rfl, H.out⟩, by decide⟩
        · have hnx := rbel_no5 hj0 hat hb
          have H := Lib.hid hnx
          clear hnx hat
          go_wp2_with fail
          refine (rroot_at _ 1073418432 _ (by unfold IsRoot; decide +kernel) (by omega) (by omega)).mono ?_
          rintro e w' ⟨rfl, rfl⟩
          go_wp2_with fail
          refine (rroot_at _ 26350953 _ (by unfold IsRoot; decide +kernel) (by omega) (by omega)).mono ?_
          rintro e w' ⟨rfl, rfl⟩
          go_wp2_with fail
          exact ⟨⟨6, _, _, _, by omega, hx0, hx1, hy0, hy1, by omega, by omega, rfl, rfl, rfl, rfl, rfl, H.out⟩, by decide⟩
      · simp only [rhalf, rang]
        by_cases hb : 1 ≤ r
        · have hnx := rbel_yes6 hj0 hat hb
          have hbd := rbel_bd hnx hj0 hj1 (by omega)
          have H := Lib.hid hnx
          clear hnx hat
          go_wp2_with fail
          refine (rroot_at _ 1073660972 _ (by unfold IsRoot; decide +kernel) (by omega) (by omega)).mono ?_
          rintro e w' ⟨rfl, rfl⟩
          go_wp2_with fail
          refine (rroot_at _ 13176485 _ (by unfold IsRoot; decide +kernel) (by omega) (by omega)).mono ?_
          rintro e w' ⟨rfl, rfl⟩
          go_wp2_with fail
          refine (down_calls _ _ (by omega) (by omega)).mono ?_
          rintro e w' ⟨rfl, rfl⟩
          go_wp2_with fail
          refine (down_calls _ _ (by omega) (by omega)).mono ?_
          rintro e w' ⟨rfl, rfl⟩
          go_wp2_with fail
          exact ⟨⟨7, _, _, _, by omega, hbd.1, hbd.2.1, hbd.2.2.1, hbd.2.2.2, by omega, by omega, rfl, rfl, rfl, rfl, rfl, H.out⟩, by decide⟩
        · have hnx := rbel_no6 hj0 hat hb
          have H := Lib.hid hnx
          clear hnx hat
          go_wp2_with fail
          refine (rroot_at _ 1073660972 _ (by unfold IsRoot; decide +kernel) (by omega) (by omega)).mono ?_
          rintro e w' ⟨rfl, rfl⟩
          go_wp2_with fail
          refine (rroot_at _ 13176485 _ (by unfold IsRoot; decide +kernel) (by omega) (by omega)).mono ?_
          rintro e w' ⟨rfl, rfl⟩
          go_wp2_with fail
          exact ⟨⟨7, _, _, _, by omega, hx0, hx1, hy0, hy1, by omega, by omega, rfl, rfl, rfl, rfl, rfl, H.out⟩, by decide⟩
      · simp only [rhalf, rang]
        have H := Lib.hid hat
        clear hat
        have hq := HQ.out
        go_wp2_with fail
        refine wp_loop_rounds 3 ?_
        rw [rounds_succ]
        go_wp2_with fail
        rw [rounds_succ]
        go_wp2_with fail
        rw [rounds_succ]
        go_wp2_with fail
        go_ret2
        rw [show bel (m % 128) 7 = (x, y) from H.out.1]
        exact ⟨rfl, rfl⟩
  · rw [if_neg hneg, Int.add_zero] at he
    rw [he] at hr hneg
    go_enter Try.func33, Try.ntmps33
    go_wp2_with fail
    clear he
    go_loop [6, 7, 8, 9, 10] (fun a b c d e => ∃ (n : Nat) (x y r : Int), n ≤ 7 ∧ 0 ≤ x ∧ x ≤ 1073741824 ∧ 0 ≤ y ∧ y ≤ 1073741824 ∧ 0 ≤ r ∧ r < 128 ∧ a = .int .i64 x ∧ b = .int .i64 y ∧ c = .int .i64 (rhalf n) ∧ d = .int .i64 r ∧ e = .int .i64 (rang n) ∧ RBel (m % 128) n x y r) (fun _ _ _ _ e => (intOf e).toNat)
    case atStart => exact ⟨0, 1073741824, 0, _, by omega, by omega, by omega, by omega, by omega, by omega, by omega, rfl, rfl, rfl, rfl, rfl, rfl, by simp only [Nat.sub_zero, Int.reducePow]; omega⟩
    case round =>
      obtain ⟨n, x, y, r, hn, hx0, hx1, hy0, hy1, hr0, hr1, rfl, rfl, rfl, rfl, rfl, hat⟩ := hrel
      have cases : n = 0 ∨ n = 1 ∨ n = 2 ∨ n = 3 ∨ n = 4 ∨ n = 5 ∨ n = 6 ∨ n = 7 := by omega
      clear hn
      rcases cases with rfl | rfl | rfl | rfl | rfl | rfl | rfl | rfl
      · simp only [rhalf, rang]
        by_cases hb : 64 ≤ r
        · have hnx := rbel_yes0 hj0 hat hb
          have hbd := rbel_bd hnx hj0 hj1 (by omega)
          have H := Lib.hid hnx
          clear hnx hat
          go_wp2_with fail
          refine (rroot_at _ 759250124 _ (by unfold IsRoot; decide +kernel) (by omega) (by omega)).mono ?_
          rintro e w' ⟨rfl, rfl⟩
          go_wp2_with fail
          refine (rroot_at _ 759250124 _ (by unfold IsRoot; decide +kernel) (by omega) (by omega)).mono ?_
          rintro e w' ⟨rfl, rfl⟩
          go_wp2_with fail
          refine (down_calls _ _ (by omega) (by omega)).mono ?_
          rintro e w' ⟨rfl, rfl⟩
          go_wp2_with fail
          refine (down_calls _ _ (by omega) (by omega)).mono ?_
          rintro e w' ⟨rfl, rfl⟩
          go_wp2_with fail
          exact ⟨⟨1, _, _, _, by omega, hbd.1, hbd.2.1, hbd.2.2.1, hbd.2.2.2, by omega, by omega, rfl, rfl, rfl, rfl, rfl, H.out⟩, by decide⟩
        · have hnx := rbel_no0 hj0 hat hb
          have H := Lib.hid hnx
          clear hnx hat
          go_wp2_with fail
          refine (rroot_at _ 759250124 _ (by unfold IsRoot; decide +kernel) (by omega) (by omega)).mono ?_
          rintro e w' ⟨rfl, rfl⟩
          go_wp2_with fail
          refine (rroot_at _ 759250124 _ (by unfold IsRoot; decide +kernel) (by omega) (by omega)).mono ?_
          rintro e w' ⟨rfl, rfl⟩
          go_wp2_with fail
          exact ⟨⟨1, _, _, _, by omega, hx0, hx1, hy0, hy1, by omega, by omega, rfl, rfl, rfl, rfl, rfl, H.out⟩, by decide⟩
      · simp only [rhalf, rang]
        by_cases hb : 32 ≤ r
        · have hnx := rbel_yes1 hj0 hat hb
          have hbd := rbel_bd hnx hj0 hj1 (by omega)
          have H := Lib.hid hnx
          clear hnx hat
          go_wp2_with fail
          refine (rroot_at _ 992008094 _ (by unfold IsRoot; decide +kernel) (by omega) (by omega)).mono ?_
          rintro e w' ⟨rfl, rfl⟩
          go_wp2_with fail
          refine (rroot_at _ 410903207 _ (by unfold IsRoot; decide +kernel) (by omega) (by omega)).mono ?_
          rintro e w' ⟨rfl, rfl⟩
          go_wp2_with fail
          refine (down_calls _ _ (by omega) (by omega)).mono ?_
          rintro e w' ⟨rfl, rfl⟩
          go_wp2_with fail
          refine (down_calls _ _ (by omega) (by omega)).mono ?_
          rintro e w' ⟨rfl, rfl⟩
          go_wp2_with fail
          exact ⟨⟨2, _, _, _, by omega, hbd.1, hbd.2.1, hbd.2.2.1, hbd.2.2.2, by omega, by omega, rfl, rfl, rfl, rfl, rfl, H.out⟩, by decide⟩
        · have hnx := rbel_no1 hj0 hat hb
          have H := Lib.hid hnx
          clear hnx hat
          go_wp2_with fail
          refine (rroot_at _ 992008094 _ (by unfold IsRoot; decide +kernel) (by omega) (by omega)).mono ?_
          rintro e w' ⟨rfl, rfl⟩
          go_wp2_with fail
          refine (rroot_at _ 410903207 _ (by unfold IsRoot; decide +kernel) (by omega) (by omega)).mono ?_
          rintro e w' ⟨rfl, rfl⟩
          go_wp2_with fail
          exact ⟨⟨2, _, _, _, by omega, hx0, hx1, hy0, hy1, by omega, by omega, rfl, rfl, rfl, rfl, rfl, H.out⟩, by decide⟩
      · simp only [rhalf, rang]
        by_cases hb : 16 ≤ r
        · have hnx := rbel_yes2 hj0 hat hb
          have hbd := rbel_bd hnx hj0 hj1 (by omega)
          have H := Lib.hid hnx
          clear hnx hat
          go_wp2_with fail
          refine (rroot_at _ 1053110175 _ (by unfold IsRoot; decide +kernel) (by omega) (by omega)).mono ?_
          rintro e w' ⟨rfl, rfl⟩
          go_wp2_with fail
          refine (rroot_at _ 209476638 _ (by unfold IsRoot; decide +kernel) (by omega) (by omega)).mono ?_
          rintro e w' ⟨rfl, rfl⟩
          go_wp2_with fail
          refine (down_calls _ _ (by omega) (by omega)).mono ?_
          rintro e w' ⟨rfl, rfl⟩
          go_wp2_with fail
          refine (down_calls _ _ (by omega) (by omega)).mono ?_
          rintro e w' ⟨rfl, rfl⟩
          go_wp2_with fail
          exact ⟨⟨3, _, _, _, by omega, hbd.1, hbd.2.1, hbd.2.2.1, hbd.2.2.2, by omega, by omega, rfl, rfl, rfl, rfl, rfl, H.out⟩, by decide⟩
        · have hnx := rbel_no2 hj0 hat hb
          have H := Lib.hid hnx
          clear hnx hat
          go_wp2_with fail
          refine (rroot_at _ 1053110175 _ (by unfold IsRoot; decide +kernel) (by omega) (by omega)).mono ?_
          rintro e w' ⟨rfl, rfl⟩
          go_wp2_with fail
          refine (rroot_at _ 209476638 _ (by unfold IsRoot; decide +kernel) (by omega) (by omega)).mono ?_
          rintro e w' ⟨rfl, rfl⟩
          go_wp2_with fail
          exact ⟨⟨3, _, _, _, by omega, hx0, hx1, hy0, hy1, by omega, by omega, rfl, rfl, rfl, rfl, rfl, H.out⟩, by decide⟩
      · simp only [rhalf, rang]
        by_cases hb : 8 ≤ r
        · have hnx := rbel_yes3 hj0 hat hb
          have hbd := rbel_bd hnx hj0 hj1 (by omega)
          have H := Lib.hid hnx
          clear hnx hat
          go_wp2_with fail
          refine (rroot_at _ 1068571463 _ (by unfold IsRoot; decide +kernel) (by omega) (by omega)).mono ?_
          rintro e w' ⟨rfl, rfl⟩
          go_wp2_with fail
          refine (rroot_at _ 105245105 _ (by unfold IsRoot; decide +kernel) (by omega) (by omega)).mono ?_
          rintro e w' ⟨rfl, rfl⟩
          go_wp2_with fail
          refine (down_calls _ _ (by omega) (by omega)).mono ?_
          rintro e w' ⟨rfl, rfl⟩
          go_wp2_with fail
          refine (down_calls _ _ (by omega) (by omega)).mono ?_
          rintro e w' ⟨rfl, rfl⟩
          go_wp2_with fail
          exact ⟨⟨4, _, _, _, by omega, hbd.1, hbd.2.1, hbd.2.2.1, hbd.2.2.2, by omega, by omega, rfl, rfl, rfl, rfl, rfl, H.out⟩, by decide⟩
        · have hnx := rbel_no3 hj0 hat hb
          have H := Lib.hid hnx
          clear hnx hat
          go_wp2_with fail
          refine (rroot_at _ 1068571463 _ (by unfold IsRoot; decide +kernel) (by omega) (by omega)).mono ?_
          rintro e w' ⟨rfl, rfl⟩
          go_wp2_with fail
          refine (rroot_at _ 105245105 _ (by unfold IsRoot; decide +kernel) (by omega) (by omega)).mono ?_
          rintro e w' ⟨rfl, rfl⟩
          go_wp2_with fail
          exact ⟨⟨4, _, _, _, by omega, hx0, hx1, hy0, hy1, by omega, by omega, rfl, rfl, rfl, rfl, rfl, H.out⟩, by decide⟩
      · simp only [rhalf, rang]
        by_cases hb : 4 ≤ r
        · have hnx := rbel_yes4 hj0 hat hb
          have hbd := rbel_bd hnx hj0 hj1 (by omega)
          have H := Lib.hid hnx
          clear hnx hat
          go_wp2_with fail
          refine (rroot_at _ 1072448454 _ (by unfold IsRoot; decide +kernel) (by omega) (by omega)).mono ?_
          rintro e w' ⟨rfl, rfl⟩
          go_wp2_with fail
          refine (rroot_at _ 52686017 _ (by unfold IsRoot; decide +kernel) (by omega) (by omega)).mono ?_
          rintro e w' ⟨rfl, rfl⟩
          go_wp2_with fail
          refine (down_calls _ _ (by omega) (by omega)).mono ?_
          rintro e w' ⟨rfl, rfl⟩
          go_wp2_with fail
          refine (down_calls _ _ (by omega) (by omega)).mono ?_
          rintro e w' ⟨rfl, rfl⟩
          go_wp2_with fail
          exact ⟨⟨5, _, _, _, by omega, hbd.1, hbd.2.1, hbd.2.2.1, hbd.2.2.2, by omega, by omega, rfl, rfl, rfl, rfl, rfl, H.out⟩, by decide⟩
        · have hnx := rbel_no4 hj0 hat hb
          have H := Lib.hid hnx
          clear hnx hat
          go_wp2_with fail
          refine (rroot_at _ 1072448454 _ (by unfold IsRoot; decide +kernel) (by omega) (by omega)).mono ?_
          rintro e w' ⟨rfl, rfl⟩
          go_wp2_with fail
          refine (rroot_at _ 52686017 _ (by unfold IsRoot; decide +kernel) (by omega) (by omega)).mono ?_
          rintro e w' ⟨rfl, rfl⟩
          go_wp2_with fail
          exact ⟨⟨5, _, _, _, by omega, hx0, hx1, hy0, hy1, by omega, by omega, rfl, rfl, rfl, rfl, rfl, H.out⟩, by decide⟩
      · simp only [rhalf, rang]
        by_cases hb : 2 ≤ r
        · have hnx := rbel_yes5 hj0 hat hb
          have hbd := rbel_bd hnx hj0 hj1 (by omega)
          have H := Lib.hid hnx
          clear hnx hat
          go_wp2_with fail
          refine (rroot_at _ 1073418432 _ (by unfold IsRoot; decide +kernel) (by omega) (by omega)).mono ?_
          rintro e w' ⟨rfl, rfl⟩
          go_wp2_with fail
          refine (rroot_at _ 26350953 _ (by unfold IsRoot; decide +kernel) (by omega) (by omega)).mono ?_
          rintro e w' ⟨rfl, rfl⟩
          go_wp2_with fail
          refine (down_calls _ _ (by omega) (by omega)).mono ?_
          rintro e w' ⟨rfl, rfl⟩
          go_wp2_with fail
          refine (down_calls _ _ (by omega) (by omega)).mono ?_
          rintro e w' ⟨rfl, rfl⟩
          go_wp2_with fail
          exact ⟨⟨6, _, _, _, by omega, hbd.1, hbd.2.1, hbd.2.2.1, hbd.2.2.2, by omega, by omega, rfl, rfl, rfl, rfl, rfl, H.out⟩, by decide⟩
        · have hnx := rbel_no5 hj0 hat hb
          have H := Lib.hid hnx
          clear hnx hat
          go_wp2_with fail
          refine (rroot_at _ 1073418432 _ (by unfold IsRoot; decide +kernel) (by omega) (by omega)).mono ?_
          rintro e w' ⟨rfl, rfl⟩
          go_wp2_with fail
          refine (rroot_at _ 26350953 _ (by unfold IsRoot; decide +kernel) (by omega) (by omega)).mono ?_
          rintro e w' ⟨rfl, rfl⟩
          go_wp2_with fail
          exact ⟨⟨6, _, _, _, by omega, hx0, hx1, hy0, hy1, by omega, by omega, rfl, rfl, rfl, rfl, rfl, H.out⟩, by decide⟩
      · simp only [rhalf, rang]
        by_cases hb : 1 ≤ r
        · have hnx := rbel_yes6 hj0 hat hb
          have hbd := rbel_bd hnx hj0 hj1 (by omega)
          have H := Lib.hid hnx
          clear hnx hat
          go_wp2_with fail
          refine (rroot_at _ 1073660972 _ (by unfold IsRoot; decide +kernel) (by omega) (by omega)).mono ?_
          rintro e w' ⟨rfl, rfl⟩
          go_wp2_with fail
          refine (rroot_at _ 13176485 _ (by unfold IsRoot; decide +kernel) (by omega) (by omega)).mono ?_
          rintro e w' ⟨rfl, rfl⟩
          go_wp2_with fail
          refine (down_calls _ _ (by omega) (by omega)).mono ?_
          rintro e w' ⟨rfl, rfl⟩
          go_wp2_with fail
          refine (down_calls _ _ (by omega) (by omega)).mono ?_
          rintro e w' ⟨rfl, rfl⟩
          go_wp2_with fail
          exact ⟨⟨7, _, _, _, by omega, hbd.1, hbd.2.1, hbd.2.2.1, hbd.2.2.2, by omega, by omega, rfl, rfl, rfl, rfl, rfl, H.out⟩, by decide⟩
        · have hnx := rbel_no6 hj0 hat hb
          have H := Lib.hid hnx
          clear hnx hat
          go_wp2_with fail
          refine (rroot_at _ 1073660972 _ (by unfold IsRoot; decide +kernel) (by omega) (by omega)).mono ?_
          rintro e w' ⟨rfl, rfl⟩
          go_wp2_with fail
          refine (rroot_at _ 13176485 _ (by unfold IsRoot; decide +kernel) (by omega) (by omega)).mono ?_
          rintro e w' ⟨rfl, rfl⟩
          go_wp2_with fail
          exact ⟨⟨7, _, _, _, by omega, hx0, hx1, hy0, hy1, by omega, by omega, rfl, rfl, rfl, rfl, rfl, H.out⟩, by decide⟩
      · simp only [rhalf, rang]
        have H := Lib.hid hat
        clear hat
        have hq := HQ.out
        go_wp2_with fail
        refine wp_loop_rounds 3 ?_
        rw [rounds_succ]
        go_wp2_with fail
        rw [rounds_succ]
        go_wp2_with fail
        rw [rounds_succ]
        go_wp2_with fail
        go_ret2
        rw [show bel (m % 128) 7 = (x, y) from H.out.1]
        exact ⟨rfl, rfl⟩


set_option maxHeartbeats 4000000 in
theorem rturn_q3 (k m : Int) (w : World) (hm0 : 0 ≤ m) (hm1 : m < 512) (he : k.tmod 512 + (if k.tmod 512 < 0 then 512 else 0) = m) (hq : m / 128 = 3) :
    Calls Try.prog 33 #[.int .i64 k] w fun e w' => e = .returned (.tuple #[.int .i64 ((bel (m % 128) 7).2), .int .i64 (-(bel (m % 128) 7).1)]) ∧ w = w' := by
  have hr := tmod_bd k (m := 511) (by omega)
  simp only [Int.reduceAdd] at hr
  have hj0 : 0 ≤ m % 128 := by omega
  have hj1 : m % 128 < 128 := by omega
  have HQ := Lib.hid hq
  clear hq
  by_cases hneg : k.tmod 512 < 0
  · rw [if_pos hneg] at he
    have HE := Lib.hid he
    clear he
    go_enter Try.func33, Try.ntmps33
    go_wp2_with fail
    have he := HE.out
    clear HE
    generalize k.tmod 512 = t at *
    have ht : t = m - 512 := by omega
    subst ht
    simp only [Int.sub_add_cancel]
    clear he
    go_loop [6, 7, 8, 9, 10] (fun a b c d e => ∃ (n : Nat) (x y r : Int), n ≤ 7 ∧ 0 ≤ x ∧ x ≤ 1073741824 ∧ 0 ≤ y ∧ y ≤ 1073741824 ∧ 0 ≤ r ∧ r < 128 ∧ a = .int .i64 x ∧ b = .int .i64 y ∧ c = .int .i64 (rhalf n) ∧ d = .int .i64 r ∧ e = .int .i64 (rang n) ∧ RBel (m % 128) n x y r) (fun _ _ _ _ e => (intOf e).toNat)
    case atStart => exact ⟨0, 1073741824, 0, _, by omega, by omega, by omega, by omega, by omega, by omega, by omega, rfl, rfl, rfl, rfl, rfl, rfl, by simp only [Nat.sub_zero, Int.reducePow]; omega⟩
    case round =>
      obtain ⟨n, x, y, r, hn, hx0, hx1, hy0, hy1, hr0, hr1, rfl, rfl, rfl, rfl, rfl, hat⟩ := hrel
      have cases : n = 0 ∨ n = 1 ∨ n = 2 ∨ n = 3 ∨ n = 4 ∨ n = 5 ∨ n = 6 ∨ n = 7 := by omega
      clear hn
      rcases cases with rfl | rfl | rfl | rfl | rfl | rfl | rfl | rfl
      · simp only [rhalf, rang]
        by_cases hb : 64 ≤ r
        · have hnx := rbel_yes0 hj0 hat hb
          have hbd := rbel_bd hnx hj0 hj1 (by omega)
          have H := Lib.hid hnx
          clear hnx hat
          go_wp2_with fail
          refine (rroot_at _ 759250124 _ (by unfold IsRoot; decide +kernel) (by omega) (by omega)).mono ?_
          rintro e w' ⟨rfl, rfl⟩
          go_wp2_with fail
          refine (rroot_at _ 759250124 _ (by unfold IsRoot; decide +kernel) (by omega) (by omega)).mono ?_
          rintro e w' ⟨rfl, rfl⟩
          go_wp2_with fail
          refine (down_calls _ _ (by omega) (by omega)).mono ?_
          rintro e w' ⟨rfl, rfl⟩
          go_wp2_with fail
          refine (down_calls _ _ (by omega) (by omega)).mono ?_
          rintro e w' ⟨rfl, rfl⟩
          go_wp2_with fail
          exact ⟨⟨1, _, _, _, by omega, hbd.1, hbd.2.1, hbd.2.2.1, hbd.2.2.2, by omega, by omega, rfl, rfl, rfl, rfl, rfl, H.out⟩, by decide⟩
        · have hnx := rbel_no0 hj0 hat hb
          have H := Lib.hid hnx
          clear hnx hat
          go_wp2_with fail
          refine (rroot_at _ 759250124 _ (by unfold IsRoot; decide +kernel) (by omega) (by omega)).mono ?_
          rintro e w' ⟨rfl, rfl⟩
          go_wp2_with fail
          refine (rroot_at _ 759250124 _ (by unfold IsRoot; decide +kernel) (by omega) (by omega)).mono ?_
          rintro e w' ⟨rfl, rfl⟩
          go_wp2_with fail
          exact ⟨⟨1, _, _, _, by omega, hx0, hx1, hy0, hy1, by omega, by omega, rfl, rfl, rfl, rfl, rfl, H.out⟩, by decide⟩
      · simp only [rhalf, rang]
        by_cases hb : 32 ≤ r
        · have hnx := rbel_yes1 hj0 hat hb
          have hbd := rbel_bd hnx hj0 hj1 (by omega)
          have H := Lib.hid hnx
          clear hnx hat
          go_wp2_with fail
          refine (rroot_at _ 992008094 _ (by unfold IsRoot; decide +kernel) (by omega) (by omega)).mono ?_
          rintro e w' ⟨rfl, rfl⟩
          go_wp2_with fail
          refine (rroot_at _ 410903207 _ (by unfold IsRoot; decide +kernel) (by omega) (by omega)).mono ?_
          rintro e w' ⟨rfl, rfl⟩
          go_wp2_with fail
          refine (down_calls _ _ (by omega) (by omega)).mono ?_
          rintro e w' ⟨rfl, rfl⟩
          go_wp2_with fail
          refine (down_calls _ _ (by omega) (by omega)).mono ?_
          rintro e w' ⟨rfl, rfl⟩
          go_wp2_with fail
          exact ⟨⟨2, _, _, _, by omega, hbd.1, hbd.2.1, hbd.2.2.1, hbd.2.2.2, by omega, by omega, rfl, rfl, rfl, rfl, rfl, H.out⟩, by decide⟩
        · have hnx := rbel_no1 hj0 hat hb
          have H := Lib.hid hnx
          clear hnx hat
          go_wp2_with fail
          refine (rroot_at _ 992008094 _ (by unfold IsRoot; decide +kernel) (by omega) (by omega)).mono ?_
          rintro e w' ⟨rfl, rfl⟩
          go_wp2_with fail
          refine (rroot_at _ 410903207 _ (by unfold IsRoot; decide +kernel) (by omega) (by omega)).mono ?_
          rintro e w' ⟨rfl, rfl⟩
          go_wp2_with fail
          exact ⟨⟨2, _, _, _, by omega, hx0, hx1, hy0, hy1, by omega, by omega, rfl, rfl, rfl, rfl, rfl, H.out⟩, by decide⟩
      · simp only [rhalf, rang]
        by_cases hb : 16 ≤ r
        · have hnx := rbel_yes2 hj0 hat hb
          have hbd := rbel_bd hnx hj0 hj1 (by omega)
          have H := Lib.hid hnx
          clear hnx hat
          go_wp2_with fail
          refine (rroot_at _ 1053110175 _ (by unfold IsRoot; decide +kernel) (by omega) (by omega)).mono ?_
          rintro e w' ⟨rfl, rfl⟩
          go_wp2_with fail
          refine (rroot_at _ 209476638 _ (by unfold IsRoot; decide +kernel) (by omega) (by omega)).mono ?_
          rintro e w' ⟨rfl, rfl⟩
          go_wp2_with fail
          refine (down_calls _ _ (by omega) (by omega)).mono ?_
          rintro e w' ⟨rfl, rfl⟩
          go_wp2_with fail
          refine (down_calls _ _ (by omega) (by omega)).mono ?_
          rintro e w' ⟨rfl, rfl⟩
          go_wp2_with fail
          exact ⟨⟨3, _, _, _, by omega, hbd.1, hbd.2.1, hbd.2.2.1, hbd.2.2.2, by omega, by omega, rfl, rfl, rfl, rfl, rfl, H.out⟩, by decide⟩
        · have hnx := rbel_no2 hj0 hat hb
          have H := Lib.hid hnx
          clear hnx hat
          go_wp2_with fail
          refine (rroot_at _ 1053110175 _ (by unfold IsRoot; decide +kernel) (by omega) (by omega)).mono ?_
          rintro e w' ⟨rfl, rfl⟩
          go_wp2_with fail
          refine (rroot_at _ 209476638 _ (by unfold IsRoot; decide +kernel) (by omega) (by omega)).mono ?_
          rintro e w' ⟨rfl, rfl⟩
          go_wp2_with fail
          exact ⟨⟨3, _, _, _, by omega, hx0, hx1, hy0, hy1, by omega, by omega, rfl, rfl, rfl, rfl, rfl, H.out⟩, by decide⟩
      · simp only [rhalf, rang]
        by_cases hb : 8 ≤ r
        · have hnx := rbel_yes3 hj0 hat hb
          have hbd := rbel_bd hnx hj0 hj1 (by omega)
          have H := Lib.hid hnx
          clear hnx hat
          go_wp2_with fail
          refine (rroot_at _ 1068571463 _ (by unfold IsRoot; decide +kernel) (by omega) (by omega)).mono ?_
          rintro e w' ⟨rfl, rfl⟩
          go_wp2_with fail
          refine (rroot_at _ 105245105 _ (by unfold IsRoot; decide +kernel) (by omega) (by omega)).mono ?_
          rintro e w' ⟨rfl, rfl⟩
          go_wp2_with fail
          refine (down_calls _ _ (by omega) (by omega)).mono ?_
          rintro e w' ⟨rfl, rfl⟩
          go_wp2_with fail
          refine (down_calls _ _ (by omega) (by omega)).mono ?_
          rintro e w' ⟨rfl, rfl⟩
          go_wp2_with fail
          exact ⟨⟨4, _, _, _, by omega, hbd.1, hbd.2.1, hbd.2.2.1, hbd.2.2.2, by omega, by omega, rfl, rfl, rfl, rfl, rfl, H.out⟩, by decide⟩
        · have hnx := rbel_no3 hj0 hat hb
          have H := Lib.hid hnx
          clear hnx hat
          go_wp2_with fail
          refine (rroot_at _ 1068571463 _ (by unfold IsRoot; decide +kernel) (by omega) (by omega)).mono ?_
          rintro e w' ⟨rfl, rfl⟩
          go_wp2_with fail
          refine (rroot_at _ 105245105 _ (by unfold IsRoot; decide +kernel) (by omega) (by omega)).mono ?_
          rintro e w' ⟨rfl, rfl⟩
          go_wp2_with fail
          exact ⟨⟨4, _, _, _, by omega, hx0, hx1, hy0, hy1, by omega, by omega, rfl, rfl, rfl, rfl, rfl, H.out⟩, by decide⟩
      · simp only [rhalf, rang]
        by_cases hb : 4 ≤ r
        · have hnx := rbel_yes4 hj0 hat hb
          have hbd := rbel_bd hnx hj0 hj1 (by omega)
          have H := Lib.hid hnx
          clear hnx hat
          go_wp2_with fail
          refine (rroot_at _ 1072448454 _ (by unfold IsRoot; decide +kernel) (by omega) (by omega)).mono ?_
          rintro e w' ⟨rfl, rfl⟩
          go_wp2_with fail
          refine (rroot_at _ 52686017 _ (by unfold IsRoot; decide +kernel) (by omega) (by omega)).mono ?_
          rintro e w' ⟨rfl, rfl⟩
          go_wp2_with fail
          refine (down_calls _ _ (by omega) (by omega)).mono ?_
          rintro e w' ⟨rfl, rfl⟩
          go_wp2_with fail
          refine (down_calls _ _ (by omega) (by omega)).mono ?_
          rintro e w' ⟨rfl, rfl⟩
          go_wp2_with fail
          exact ⟨⟨5, _, _, _, by omega, hbd.1, hbd.2.1, hbd.2.2.1, hbd.2.2.2, by omega, by omega, rfl, rfl, rfl, rfl, rfl, H.out⟩, by decide⟩
        · have hnx := rbel_no4 hj0 hat hb
          have H := Lib.hid hnx
          clear hnx hat
          go_wp2_with fail
          refine (rroot_at _ 1072448454 _ (by unfold IsRoot; decide +kernel) (by omega) (by omega)).mono ?_
          rintro e w' ⟨rfl, rfl⟩
          go_wp2_with fail
          refine (rroot_at _ 52686017 _ (by unfold IsRoot; decide +kernel) (by omega) (by omega)).mono ?_
          rintro e w' ⟨rfl, rfl⟩
          go_wp2_with fail
          exact ⟨⟨5, _, _, _, by omega, hx0, hx1, hy0, hy1, by omega, by omega, rfl, rfl, rfl, rfl, rfl, H.out⟩, by decide⟩
      · simp only [rhalf, rang]
        by_cases hb : 2 ≤ r
        · have hnx := rbel_yes5 hj0 hat hb
          have hbd := rbel_bd hnx hj0 hj1 (by omega)
          have H := Lib.hid hnx
          clear hnx hat
          go_wp2_with fail
          refine (rroot_at _ 1073418432 _ (by unfold IsRoot; decide +kernel) (by omega) (by omega)).mono ?_
          rintro e w' ⟨rfl, rfl⟩
          go_wp2_with fail
          refine (rroot_at _ 26350953 _ (by unfold IsRoot; decide +kernel) (by omega) (by omega)).mono ?_
          rintro e w' ⟨rfl, rfl⟩
          go_wp2_with fail
          refine (down_calls _ _ (by omega) (by omega)).mono ?_
          rintro e w' ⟨rfl, rfl⟩
          go_wp2_with fail
          refine (down_calls _ _ (by omega) (by omega)).mono ?_
          rintro e w' ⟨rfl, rfl⟩
          go_wp2_with fail
          exact ⟨⟨6, _, _, _, by omega, hbd.1, hbd.2.1, hbd.2.2.1, hbd.2.2.2, by omega, by omega, rfl, rfl, rfl, rfl, rfl, H.out⟩, by decide⟩
        · have hnx := rbel_no5 hj0 hat hb
          have H := Lib.hid hnx
          clear hnx hat
          go_wp2_with fail
          refine (rroot_at _ 1073418432 _ (by unfold IsRoot; decide +kernel) (by omega) (by omega)).mono ?_
          rintro e w' ⟨rfl, rfl⟩
          go_wp2_with fail
          refine (rroot_at _ 26350953 _ (by unfold IsRoot; decide +kernel) (by omega) (by omega)).mono ?_
          rintro e w' ⟨rfl, rfl⟩
          go_wp2_with fail
          exact ⟨⟨6, _, _, _, by omega, hx0, hx1, hy0, hy1, by omega, by omega, rfl, rfl, rfl, rfl, rfl, H.out⟩, by decide⟩
      · simp only [rhalf, rang]
        by_cases hb : 1 ≤ r
        · have hnx := rbel_yes6 hj0 hat hb
          have hbd := rbel_bd hnx hj0 hj1 (by omega)
          have H := Lib.hid hnx
          clear hnx hat
          go_wp2_with fail
          refine (rroot_at _ 1073660972 _ (by unfold IsRoot; decide +kernel) (by omega) (by omega)).mono ?_
          rintro e w' ⟨rfl, rfl⟩
          go_wp2_with fail
          refine (rroot_at _ 13176485 _ (by unfold IsRoot; decide +kernel) (by omega) (by omega)).mono ?_
          rintro e w' ⟨rfl, rfl⟩
          go_wp2_with fail
          refine (down_calls _ _ (by omega) (by omega)).mono ?_
          rintro e w' ⟨rfl, rfl⟩
          go_wp2_with fail
          refine (down_calls _ _ (by omega) (by omega)).mono ?_
          rintro e w' ⟨rfl, rfl⟩
          go_wp2_with fail
          exact ⟨⟨7, _, _, _, by omega, hbd.1, hbd.2.1, hbd.2.2.1, hbd.2.2.2, by omega, by omega, rfl, rfl, rfl, rfl, rfl, H.out⟩, by decide⟩
        · have hnx := rbel_no6 hj0 hat hb
          have H := Lib.hid hnx
          clear hnx hat
          go_wp2_with fail
          refine (rroot_at _ 1073660972 _ (by unfold IsRoot; decide +kernel) (by omega) (by omega)).mono ?_
          rintro e w' ⟨rfl, rfl⟩
          go_wp2_with fail
          refine (rroot_at _ 13176485 _ (by unfold IsRoot; decide +kernel) (by omega) (by omega)).mono ?_
          rintro e w' ⟨rfl, rfl⟩
          go_wp2_with fail
          exact ⟨⟨7, _, _, _, by omega, hx0, hx1, hy0, hy1, by omega, by omega, rfl, rfl, rfl, rfl, rfl, H.out⟩, by decide⟩
      · simp only [rhalf, rang]
        have H := Lib.hid hat
        clear hat
        have hq := HQ.out
        go_wp2_with fail
        refine wp_loop_rounds 4 ?_
        rw [rounds_succ]
        go_wp2_with fail
        rw [rounds_succ]
        go_wp2_with fail
        rw [rounds_succ]
        go_wp2_with fail
        rw [rounds_succ]
        go_wp2_with fail
        go_ret2
        rw [show bel (m % 128) 7 = (x, y) from H.out.1]
        exact ⟨rfl, rfl⟩
  · rw [if_neg hneg, Int.add_zero] at he
    rw [he] at hr hneg
    go_enter Try.func33, Try.ntmps33
    go_wp2_with fail
    clear he
    go_loop [6, 7, 8, 9, 10] (fun a b c d e => ∃ (n : Nat) (x y r : Int), n ≤ 7 ∧ 0 ≤ x ∧ x ≤ 1073741824 ∧ 0 ≤ y ∧ y ≤ 1073741824 ∧ 0 ≤ r ∧ r < 128 ∧ a = .int .i64 x ∧ b = .int .i64 y ∧ c = .int .i64 (rhalf n) ∧ d = .int .i64 r ∧ e = .int .i64 (rang n) ∧ RBel (m % 128) n x y r) (fun _ _ _ _ e => (intOf e).toNat)
    case atStart => exact ⟨0, 1073741824, 0, _, by omega, by omega, by omega, by omega, by omega, by omega, by omega, rfl, rfl, rfl, rfl, rfl, rfl, by simp only [Nat.sub_zero, Int.reducePow]; omega⟩
    case round =>
      obtain ⟨n, x, y, r, hn, hx0, hx1, hy0, hy1, hr0, hr1, rfl, rfl, rfl, rfl, rfl, hat⟩ := hrel
      have cases : n = 0 ∨ n = 1 ∨ n = 2 ∨ n = 3 ∨ n = 4 ∨ n = 5 ∨ n = 6 ∨ n = 7 := by omega
      clear hn
      rcases cases with rfl | rfl | rfl | rfl | rfl | rfl | rfl | rfl
      · simp only [rhalf, rang]
        by_cases hb : 64 ≤ r
        · have hnx := rbel_yes0 hj0 hat hb
          have hbd := rbel_bd hnx hj0 hj1 (by omega)
          have H := Lib.hid hnx
          clear hnx hat
          go_wp2_with fail
          refine (rroot_at _ 759250124 _ (by unfold IsRoot; decide +kernel) (by omega) (by omega)).mono ?_
          rintro e w' ⟨rfl, rfl⟩
          go_wp2_with fail
          refine (rroot_at _ 759250124 _ (by unfold IsRoot; decide +kernel) (by omega) (by omega)).mono ?_
          rintro e w' ⟨rfl, rfl⟩
          go_wp2_with fail
          refine (down_calls _ _ (by omega) (by omega)).mono ?_
          rintro e w' ⟨rfl, rfl⟩
          go_wp2_with fail
          refine (down_calls _ _ (by omega) (by omega)).mono ?_
          rintro e w' ⟨rfl, rfl⟩
          go_wp2_with fail
          exact ⟨⟨1, _, _, _, by omega, hbd.1, hbd.2.1, hbd.2.2.1, hbd.2.2.2, by omega, by omega, rfl, rfl, rfl, rfl, rfl, H.out⟩, by decide⟩
        · have hnx := rbel_no0 hj0 hat hb
          have H := Lib.hid hnx
          clear hnx hat
          go_wp2_with fail
          refine (rroot_at _ 759250124 _ (by unfold IsRoot; decide +kernel) (by omega) (by omega)).mono ?_
          rintro e w' ⟨rfl, rfl⟩
          go_wp2_with fail
          refine (rroot_at _ 759250124 _ (by unfold IsRoot; decide +kernel) (by omega) (by omega)).mono ?_
          rintro e w' ⟨rfl, rfl⟩
          go_wp2_with fail
          exact ⟨⟨1, _, _, _, by omega, hx0, hx1, hy0, hy1, by omega, by omega, rfl, rfl, rfl, rfl, rfl, H.out⟩, by decide⟩
      · simp only [rhalf, rang]
        by_cases hb : 32 ≤ r
        · have hnx := rbel_yes1 hj0 hat hb
          have hbd := rbel_bd hnx hj0 hj1 (by omega)
          have H := Lib.hid hnx
          clear hnx hat
          go_wp2_with fail
          refine (rroot_at _ 992008094 _ (by unfold IsRoot; decide +kernel) (by omega) (by omega)).mono ?_
          rintro e w' ⟨rfl, rfl⟩
          go_wp2_with fail
          refine (rroot_at _ 410903207 _ (by unfold IsRoot; decide +kernel) (by omega) (by omega)).mono ?_
          rintro e w' ⟨rfl, rfl⟩
          go_wp2_with fail
          refine (down_calls _ _ (by omega) (by omega)).mono ?_
          rintro e w' ⟨rfl, rfl⟩
          go_wp2_with fail
          refine (down_calls _ _ (by omega) (by omega)).mono ?_
          rintro e w' ⟨rfl, rfl⟩
          go_wp2_with fail
          exact ⟨⟨2, _, _, _, by omega, hbd.1, hbd.2.1, hbd.2.2.1, hbd.2.2.2, by omega, by omega, rfl, rfl, rfl, rfl, rfl, H.out⟩, by decide⟩
        · have hnx := rbel_no1 hj0 hat hb
          have H := Lib.hid hnx
          clear hnx hat
          go_wp2_with fail
          refine (rroot_at _ 992008094 _ (by unfold IsRoot; decide +kernel) (by omega) (by omega)).mono ?_
          rintro e w' ⟨rfl, rfl⟩
          go_wp2_with fail
          refine (rroot_at _ 410903207 _ (by unfold IsRoot; decide +kernel) (by omega) (by omega)).mono ?_
          rintro e w' ⟨rfl, rfl⟩
          go_wp2_with fail
          exact ⟨⟨2, _, _, _, by omega, hx0, hx1, hy0, hy1, by omega, by omega, rfl, rfl, rfl, rfl, rfl, H.out⟩, by decide⟩
      · simp only [rhalf, rang]
        by_cases hb : 16 ≤ r
        · have hnx := rbel_yes2 hj0 hat hb
          have hbd := rbel_bd hnx hj0 hj1 (by omega)
          have H := Lib.hid hnx
          clear hnx hat
          go_wp2_with fail
          refine (rroot_at _ 1053110175 _ (by unfold IsRoot; decide +kernel) (by omega) (by omega)).mono ?_
          rintro e w' ⟨rfl, rfl⟩
          go_wp2_with fail
          refine (rroot_at _ 209476638 _ (by unfold IsRoot; decide +kernel) (by omega) (by omega)).mono ?_
          rintro e w' ⟨rfl, rfl⟩
          go_wp2_with fail
          refine (down_calls _ _ (by omega) (by omega)).mono ?_
          rintro e w' ⟨rfl, rfl⟩
          go_wp2_with fail
          refine (down_calls _ _ (by omega) (by omega)).mono ?_
          rintro e w' ⟨rfl, rfl⟩
          go_wp2_with fail
          exact ⟨⟨3, _, _, _, by omega, hbd.1, hbd.2.1, hbd.2.2.1, hbd.2.2.2, by omega, by omega, rfl, rfl, rfl, rfl, rfl, H.out⟩, by decide⟩
        · have hnx := rbel_no2 hj0 hat hb
          have H := Lib.hid hnx
          clear hnx hat
          go_wp2_with fail
          refine (rroot_at _ 1053110175 _ (by unfold IsRoot; decide +kernel) (by omega) (by omega)).mono ?_
          rintro e w' ⟨rfl, rfl⟩
          go_wp2_with fail
          refine (rroot_at _ 209476638 _ (by unfold IsRoot; decide +kernel) (by omega) (by omega)).mono ?_
          rintro e w' ⟨rfl, rfl⟩
          go_wp2_with fail
          exact ⟨⟨3, _, _, _, by omega, hx0, hx1, hy0, hy1, by omega, by omega, rfl, rfl, rfl, rfl, rfl, H.out⟩, by decide⟩
      · simp only [rhalf, rang]
        by_cases hb : 8 ≤ r
        · have hnx := rbel_yes3 hj0 hat hb
          have hbd := rbel_bd hnx hj0 hj1 (by omega)
          have H := Lib.hid hnx
          clear hnx hat
          go_wp2_with fail
          refine (rroot_at _ 1068571463 _ (by unfold IsRoot; decide +kernel) (by omega) (by omega)).mono ?_
          rintro e w' ⟨rfl, rfl⟩
          go_wp2_with fail
          refine (rroot_at _ 105245105 _ (by unfold IsRoot; decide +kernel) (by omega) (by omega)).mono ?_
          rintro e w' ⟨rfl, rfl⟩
          go_wp2_with fail
          refine (down_calls _ _ (by omega) (by omega)).mono ?_
          rintro e w' ⟨rfl, rfl⟩
          go_wp2_with fail
          refine (down_calls _ _ (by omega) (by omega)).mono ?_
          rintro e w' ⟨rfl, rfl⟩
          go_wp2_with fail
          exact ⟨⟨4, _, _, _, by omega, hbd.1, hbd.2.1, hbd.2.2.1, hbd.2.2.2, by omega, by omega, rfl, rfl, rfl, rfl, rfl, H.out⟩, by decide⟩
        · have hnx := rbel_no3 hj0 hat hb
          have H := Lib.hid hnx
          clear hnx hat
          go_wp2_with fail
          refine (rroot_at _ 1068571463 _ (by unfold IsRoot; decide +kernel) (by omega) (by omega)).mono ?_
          rintro e w' ⟨rfl, rfl⟩
          go_wp2_with fail
          refine (rroot_at _ 105245105 _ (by unfold IsRoot; decide +kernel) (by omega) (by omega)).mono ?_
          rintro e w' ⟨rfl, rfl⟩
          go_wp2_with fail
          exact ⟨⟨4, _, _, _, by omega, hx0, hx1, hy0, hy1, by omega, by omega, rfl, rfl, rfl, rfl, rfl, H.out⟩, by decide⟩
      · simp only [rhalf, rang]
        by_cases hb : 4 ≤ r
        · have hnx := rbel_yes4 hj0 hat hb
          have hbd := rbel_bd hnx hj0 hj1 (by omega)
          have H := Lib.hid hnx
          clear hnx hat
          go_wp2_with fail
          refine (rroot_at _ 1072448454 _ (by unfold IsRoot; decide +kernel) (by omega) (by omega)).mono ?_
          rintro e w' ⟨rfl, rfl⟩
          go_wp2_with fail
          refine (rroot_at _ 52686017 _ (by unfold IsRoot; decide +kernel) (by omega) (by omega)).mono ?_
          rintro e w' ⟨rfl, rfl⟩
          go_wp2_with fail
          refine (down_calls _ _ (by omega) (by omega)).mono ?_
          rintro e w' ⟨rfl, rfl⟩
          go_wp2_with fail
          refine (down_calls _ _ (by omega) (by omega)).mono ?_
          rintro e w' ⟨rfl, rfl⟩
          go_wp2_with fail
          exact ⟨⟨5, _, _, _, by omega, hbd.1, hbd.2.1, hbd.2.2.1, hbd.2.2.2, by omega, by omega, rfl, rfl, rfl, rfl, rfl, H.out⟩, by decide⟩
        · have hnx := rbel_no4 hj0 hat hb
          have H := Lib.hid hnx
          clear hnx hat
          go_wp2_with fail
          refine (rroot_at _ 1072448454 _ (by unfold IsRoot; decide +kernel) (by omega) (by omega)).mono ?_
          rintro e w' ⟨rfl, rfl⟩
          go_wp2_with fail
          refine (rroot_at _ 52686017 _ (by unfold IsRoot; decide +kernel) (by omega) (by omega)).mono ?_
          rintro e w' ⟨rfl, rfl⟩
          go_wp2_with fail
          exact ⟨⟨5, _, _, _, by omega, hx0, hx1, hy0, hy1, by omega, by omega, rfl, rfl, rfl, rfl, rfl, H.out⟩, by decide⟩
      · simp only [rhalf, rang]
        by_cases hb : 2 ≤ r
        · have hnx := rbel_yes5 hj0 hat hb
          have hbd := rbel_bd hnx hj0 hj1 (by omega)
          have H := Lib.hid hnx
          clear hnx hat
          go_wp2_with fail
          refine (rroot_at _ 1073418432 _ (by unfold IsRoot; decide +kernel) (by omega) (by omega)).mono ?_
          rintro e w' ⟨rfl, rfl⟩
          go_wp2_with fail
          refine (rroot_at _ 26350953 _ (by unfold IsRoot; decide +kernel) (by omega) (by omega)).mono ?_
          rintro e w' ⟨rfl, rfl⟩
          go_wp2_with fail
          refine (down_calls _ _ (by omega) (by omega)).mono ?_
          rintro e w' ⟨rfl, rfl⟩
          go_wp2_with fail
          refine (down_calls _ _ (by omega) (by omega)).mono ?_
          rintro e w' ⟨rfl, rfl⟩
          go_wp2_with fail
          exact ⟨⟨6, _, _, _, by omega, hbd.1, hbd.2.1, hbd.2.2.1, hbd.2.2.2, by omega, by omega, rfl, rfl, rfl, rfl, rfl, H.out⟩, by decide⟩
        · have hnx := rbel_no5 hj0 hat hb
          have H := Lib.hid hnx
          clear hnx hat
          go_wp2_with fail
          refine (rroot_at _ 1073418432 _ (by unfold IsRoot; decide +kernel) (by omega) (by omega)).mono ?_
          rintro e w' ⟨rfl, rfl⟩
          go_wp2_with fail
          refine (rroot_at _ 26350953 _ (by unfold IsRoot; decide +kernel) (by omega) (by omega)).mono ?_
          rintro e w' ⟨rfl, rfl⟩
          go_wp2_with fail
          exact ⟨⟨6, _, _, _, by omega, hx0, hx1, hy0, hy1, by omega, by omega, rfl, rfl, rfl, rfl, rfl, H.out⟩, by decide⟩
      · simp only [rhalf, rang]
        by_cases hb : 1 ≤ r
        · have hnx := rbel_yes6 hj0 hat hb
          have hbd := rbel_bd hnx hj0 hj1 (by omega)
          have H := Lib.hid hnx
          clear hnx hat
          go_wp2_with fail
          refine (rroot_at _ 1073660972 _ (by unfold IsRoot; decide +kernel) (by omega) (by omega)).mono ?_
          rintro e w' ⟨rfl, rfl⟩
          go_wp2_with fail
          refine (rroot_at _ 13176485 _ (by unfold IsRoot; decide +kernel) (by omega) (by omega)).mono ?_
          rintro e w' ⟨rfl, rfl⟩
          go_wp2_with fail
          refine (down_calls _ _ (by omega) (by omega)).mono ?_
          rintro e w' ⟨rfl, rfl⟩
          go_wp2_with fail
          refine (down_calls _ _ (by omega) (by omega)).mono ?_
          rintro e w' ⟨rfl, rfl⟩
          go_wp2_with fail
          exact ⟨⟨7, _, _, _, by omega, hbd.1, hbd.2.1, hbd.2.2.1, hbd.2.2.2, by omega, by omega, rfl, rfl, rfl, rfl, rfl, H.out⟩, by decide⟩
        · have hnx := rbel_no6 hj0 hat hb
          have H := Lib.hid hnx
          clear hnx hat
          go_wp2_with fail
          refine (rroot_at _ 1073660972 _ (by unfold IsRoot; decide +kernel) (by omega) (by omega)).mono ?_
          rintro e w' ⟨rfl, rfl⟩
          go_wp2_with fail
          refine (rroot_at _ 13176485 _ (by unfold IsRoot; decide +kernel) (by omega) (by omega)).mono ?_
          rintro e w' ⟨rfl, rfl⟩
          go_wp2_with fail
          exact ⟨⟨7, _, _, _, by omega, hx0, hx1, hy0, hy1, by omega, by omega, rfl, rfl, rfl, rfl, rfl, H.out⟩, by decide⟩
      · simp only [rhalf, rang]
        have H := Lib.hid hat
        clear hat
        have hq := HQ.out
        go_wp2_with fail
        refine wp_loop_rounds 4 ?_
        rw [rounds_succ]
        go_wp2_with fail
        rw [rounds_succ]
        go_wp2_with fail
        rw [rounds_succ]
        go_wp2_with fail
        rw [rounds_succ]
        go_wp2_with fail
        go_ret2
        rw [show bel (m % 128) 7 = (x, y) from H.out.1]
        exact ⟨rfl, rfl⟩



theorem rturn_calls (k : Int) (w : World) :
    Calls Try.prog 33 #[.int .i64 k] w fun e w' => e = .returned (.tuple #[.int .i64 (trigT k).1, .int .i64 (trigT k).2]) ∧ w = w' := by
  have he : k.tmod 512 + (if k.tmod 512 < 0 then 512 else 0) = k % 512 := by
    have h1 := tmod_bd k (m := 511) (by omega)
    simp only [Int.reduceAdd] at h1
    have e : k.tmod 512 = k % 512 ∨ k.tmod 512 = k % 512 - 512 := by
      rw [Int.tmod_eq_emod]
      split
      · left; omega
      · right; omega
    split <;> omega
  have hq : k % 512 / 128 = 0 ∨ k % 512 / 128 = 1 ∨ k % 512 / 128 = 2 ∨ k % 512 / 128 = 3 := by omega
  rcases hq with hq | hq | hq | hq
  · rw [trigT_0 hq]; exact rturn_q0 k _ w (by omega) (by omega) he hq
  · rw [trigT_1 hq]; exact rturn_q1 k _ w (by omega) (by omega) he hq
  · rw [trigT_2 hq]; exact rturn_q2 k _ w (by omega) (by omega) he hq
  · rw [trigT_3 hq]; exact rturn_q3 k _ w (by omega) (by omega) he hq

end Go.Proofs.Ytlfiaaoegeodnaa
