/- bits.Reader (layer 6): walked. bits.Reader (layer 6): Get, New, Zeros. crc.Open (layer 5). -/
import Derived.Test.YtiigipnfnfpepaaGreatDoorUK1
import Derived.BigQuiet
import Derived.Test.YtiigipnfnfpepaaGreatDoorUA
namespace Go.Proofs.YtiigipnfnfpepaaGreatDoor
open Go.RowKit
attribute [local go_sem ↓] Go.wp_at_zero Go.wp_at_succ

abbrev rdV (s : List UInt8) (p : Nat) : Array Value := #[.string (str s), .int .i64 p]
abbrev RR (w : World) (g : Nat) (s : List UInt8) (p : Nat) : Prop := Blk w g 113 (rdV s p)

theorem next_calls (g : Nat) (s : List UInt8) (p : Nat) (w : World) (h : RR w g s p) (hp : p < 8 * s.length) (hs : s.length ≤ 100) :
 Calls Tryz.prog 57 #[.pointer (some ⟨g, 0, none⟩)] w fun e w' => e = .returned (.int .i64 (bitN s p)) ∧ RR w' g s (p + 1) ∧ w.grownBy w' (some g) := by
 have c0 : w.cell? ⟨g, 0, none⟩ = some (.string (str s)) := by rw [blk_cell h]; rfl
 have c1 : w.cell? ⟨g, 1, none⟩ = some (.int .i64 p) := by rw [blk_cell h]; rfl
 have f1 := blk_free h 1
 have hsz := str_size s
 obtain ⟨q, r, hqr, hr⟩ : ∃ q r, p = 8 * q + r ∧ r < 8 := ⟨p / 8, p % 8, by omega, by omega⟩
 have hq : (p : Int) / 8 = q := by omega
 have hrr : (p : Int) % 8 = r := by omega
 have hql : q < s.length := by omega
 have hks : q < (str s).size := by rw [hsz]; exact hql
 have hgx := str_get s hks
 have hbx : bitN s p = (s.getD q 0).toNat / 2 ^ (7 - r) % 2 := by rw [bitN, show p / 8 = q by omega, show p % 8 = r by omega]
 obtain ⟨y, hy⟩ : ∃ y, y = s.getD q 0 := ⟨_, rfl⟩
 rw [← hy] at hgx hbx
 have hyl := y.toNat_lt
 have wy : wrap64 (y.toNat : Int) = (y.toNat : Int) := by unfold wrap64; omega
 obtain ⟨m, hm⟩ : ∃ m, m = 7 - r := ⟨_, rfl⟩
 rw [← hm] at hbx
 have hmz : (7 : Int) - (r : Int) = m := by omega
 have hdiv : (y.toNat : Int) / 2 ^ m = ((y.toNat / 2 ^ m : Nat) : Int) := by push_cast; rfl
 have hlt : y.toNat / 2 ^ m < 256 := Nat.lt_of_le_of_lt (Nat.div_le_self _ _) hyl
 have hand : bits .and .i64 ((y.toNat : Int) / 2 ^ m) 1 = (bitN s p : Int) := by
  rw [hdiv, hbx]
  generalize y.toNat / 2 ^ m = v at *
  rw [low_one (Int.natCast_nonneg _) (by omega)]
  push_cast; rfl
 have hb2 : (bitN s p : Int) < 2 := by have : bitN s p < 2 := Nat.mod_lt _ (by decide); omega
 have hb0 : (0 : Int) ≤ bitN s p := by omega
 have HB := hid h
 have hp0 : (0 : Int) ≤ p := by omega
 have hp1 : (p : Int) ≤ 800 := by omega
 have hm0 : (0 : Int) ≤ m := by omega
 have hm7 : (m : Int) ≤ 7 := by omega
 have hq0 : (0 : Int) ≤ q := by omega
 have hqs : (q : Int) < s.length := by omega
 generalize bitN s p = b at *
 have hqw : IntKind.i64.wrap (q : Int) = q := IntWalk.i64_in _ (by omega)
 clear h hbx hy hdiv hlt hqr hp hql hm
 go_enter Tryz.func57, Tryz.ntmps57
 go_wp2_with fail
 go_quiet (fail)
 have f2 : (w.drewN nq).frozen? ⟨g, 1, none⟩ = false := f1
 go_wp2_with fail
 go_ret
 refine ⟨rfl, ?_, grown_join (grown_draws w nq _) (grownBy_cell (w.drewN nq) g 1 _)⟩
 exact blk_set (blk_draws HB.out nq) 1 (.int .i64 ((p : Int) + 1))
theorem left_calls (g : Nat) (s : List UInt8) (p : Nat) (w : World) (h : RR w g s p) (hp : p ≤ 8 * s.length) (hs : s.length ≤ 100) :
 Calls Tryz.prog 56 #[.pointer (some ⟨g, 0, none⟩)] w fun e w' => e = .returned (.int .i64 (8 * (s.length : Int) - p)) ∧ ∃ n, w' = w.drewN n := by
 have c0 : w.cell? ⟨g, 0, none⟩ = some (.string (str s)) := by rw [blk_cell h]; rfl
 have c1 : w.cell? ⟨g, 1, none⟩ = some (.int .i64 p) := by rw [blk_cell h]; rfl
 have hsz := str_size s
 have hp0 : (0 : Int) ≤ p := by omega
 have hp1 : (p : Int) ≤ 800 := by omega
 have hs0 : (0 : Int) ≤ s.length := by omega
 have hs1 : (s.length : Int) ≤ 100 := by omega
 clear h hp hs
 go_enter Tryz.func56, Tryz.ntmps56
 go_wp2_with fail
 go_quiet (fail)
 go_wp2_with fail
 go_ret
 exact ⟨rfl, nq, rfl⟩
end Go.Proofs.YtiigipnfnfpepaaGreatDoor
namespace Go.Proofs.YtiigipnfnfpepaaGreatDoor
open Go.RowKit
attribute [local go_sem ↓] Go.wp_at_zero Go.wp_at_succ

theorem getN_lt (s : List UInt8) (p : Nat) : ∀ n, getN s p n < 2 ^ n
 | 0 => by simp [getN]
 | n + 1 => by
  have h1 := getN_lt s p n
  have h2 : bitN s (p + n) < 2 := Nat.mod_lt _ (by decide)
  rw [getN, Nat.pow_succ]
  omega

set_option maxRecDepth 20000 in
set_option maxHeartbeats 2000000 in
theorem get_calls (g : Nat) (s : List UInt8) (p n : Nat) (w : World) (h : RR w g s p) (hp : p + n ≤ 8 * s.length) (hn : n ≤ 56) (hs : s.length ≤ 100) :
 Calls Tryz.prog 29 #[.pointer (some ⟨g, 0, none⟩), .int .i64 n] w fun e w' => e = .returned (.tuple #[.int .i64 (getN s p n), .int .i64 0]) ∧ RR w' g s (p + n) ∧ w.grownBy w' (some g) := by
 have cl := left_calls g s p w h (by omega) hs
 have hlz : ¬ 8 * (s.length : Int) - p < n := by omega
 have hlz2 : (n : Int) ≤ 8 * (s.length : Int) - p := by omega
 have hn0 : (0 : Int) ≤ n := by omega
 have hn1 : (n : Int) ≤ 56 := by omega
 have H := hid h
 have HP := hid hp
 have HS := hid hs
 have hgl := hid (blk_lt h)
 generalize 8 * (s.length : Int) - p = lf at *
 clear h hp hs
 go_enter Tryz.func29, Tryz.ntmps29
 go_wp2_with fail
 refine cl.mono ?_
 rintro e w1 ⟨rfl, k1, rfl⟩
 have H1 := hid (blk_draws H.out k1)
 have G1 := hid (grown_draws w k1 (some g))
 clear cl H
 go_wp2_with fail
 go_loopg [7, 27] n (fun gg s7 s27 wr => ∃ i : Nat, i ≤ n ∧ n - i ≤ gg ∧ s27 = .int .i64 i ∧ s7 = .int .i64 (getN s p i) ∧ Aside (RR wr g s (p + i)) ∧ Aside (w.grownBy wr (some g)))
 case atStart => exact ⟨0, Nat.zero_le _, by omega, rfl, rfl, H1.out, G1.out⟩
 case round =>
  clear H1 G1
  obtain ⟨i, hi, hgi, rfl, rfl, R, G⟩ := hrel
  by_cases hlt : i < n
  · have hiz : (i : Int) < n := by omega
    have hi0 : (0 : Int) ≤ i := by omega
    have cx := next_calls g s (p + i) wr R.out (by have := HP.out; omega) HS.out
    have hb : bitN s (p + i) < 2 := Nat.mod_lt _ (by decide)
    have HGN := hid (show getN s p (i + 1) = 2 * getN s p i + bitN s (p + i) from rfl)
    have hx : getN s p i < 2 ^ 56 := Nat.lt_of_lt_of_le (getN_lt s p i) (Nat.pow_le_pow_right (by decide) (by omega))
    have hx0 : (0 : Int) ≤ getN s p i := by omega
    have hx1 : (getN s p i : Int) ≤ 72057594037927936 := by omega
    have hb0 : (0 : Int) ≤ bitN s (p + i) := by omega
    have hb1 : (bitN s (p + i) : Int) ≤ 1 := by omega
    have HE := hid (show 2 * (getN s p i : Int) + (bitN s (p + i) : Int) = (getN s p (i + 1) : Int) by rw [HGN.out]; omega)
    generalize (getN s p i : Int) = x at *
    generalize (bitN s (p + i) : Int) = b at *
    clear hb hx
    go_wp2_with fail
    refine cx.mono ?_
    rintro e w2 ⟨rfl, R2, G2⟩
    have R3 := hid (show RR w2 g s (p + (i + 1)) from R2)
    have G3 := hid (grown_join G.out G2)
    clear cx R2 G2 R G
    go_wp2_with fail
    rw [HE.out]
    go_roundg (n - (i + 1))
    case measure => omega
    case rel => exact ⟨i + 1, by omega, by omega, by go_num, rfl, R3.out, G3.out⟩
  · obtain rfl : n = i := by omega
    go_wp2_with fail
    go_ret2
    exact ⟨rfl, R.out, G.out⟩

theorem rnew_calls (s : List UInt8) (w : World) : Calls Tryz.prog 28 #[.string (str s)] w fun e w' => e = .returned (.pointer (some ⟨w.heap.size, 0, none⟩)) ∧ RR w' w.heap.size s 0 ∧ Below w.heap.size w w' := by
 have B := hid ((Below.refl w.heap.size w).alloc (Nat.le_refl _) (.cells (rdV s 0) 113))
 have R := hid (blk_new w 113 (rdV s 0))
 go_enter Tryz.func28, Tryz.ntmps28
 go_wp2_with fail
 go_ret
 exact ⟨rfl, R.out, B.out⟩

set_option maxRecDepth 20000 in
set_option maxHeartbeats 2000000 in
theorem zeros_calls (g : Nat) (s : List UInt8) (p : Nat) (w : World) (h : RR w g s p) (hp : p ≤ 8 * s.length) (hs : s.length ≤ 100) (hz : ∀ q, p ≤ q → q < 8 * s.length → bitN s q = 0) :
 Calls Tryz.prog 32 #[.pointer (some ⟨g, 0, none⟩)] w fun e w' => e = .returned (.bool true) ∧ Below w.heap.size w w' := by
 have H := hid h
 have HZ := hid hz
 have HS := hid hs
 have HP := hid hp
 have HRS := hid (show (Tryz.prog.info? 113).map (·.size) = some (rdV s p).size by kernel_rfl)
 have B1 := hid ((Below.refl w.heap.size w).alloc (Nat.le_refl _) (.cells (rdV [] 0) 113))
 have H1 := hid (blk_alloc h (.cells (rdV [] 0) 113))
 have hs0 : (0 : Int) ≤ s.length := by omega
 have hs1 : (s.length : Int) ≤ 100 := by omega
 clear h hz hs hp
 go_enter Tryz.func32, Tryz.ntmps32
 go_wp2_with (first | (refine wpList_load_blk (by rfl) 113 _ rfl g rfl 113 (rdV s p) _ H.out Tryz.underlying113 rfl HRS.out ?_) | (refine wpList_load_blk (by rfl) 113 _ rfl g rfl 113 (rdV s p) _ H1.out Tryz.underlying113 rfl HRS.out ?_))
 have R2 := hid (blk_new w 113 (rdV s p))
 have B2 := hid ((Below.refl w.heap.size w).alloc (Nat.le_refl _) (.cells (rdV s p) 113))
 go_loopg [] (8 * s.length - p) (fun gg wr => ∃ q : Nat, p ≤ q ∧ q ≤ 8 * s.length ∧ 8 * s.length - q ≤ gg ∧ Aside (RR wr w.heap.size s q) ∧ Aside (Below w.heap.size w wr))
 case atStart => exact ⟨p, Nat.le_refl _, HP.out, Nat.le_refl _, R2.out, B2.out⟩
 case round =>
  clear R2 B2 H H1 B1
  obtain ⟨q, hq, hq2, hgq, R, B⟩ := hrel
  have cl := left_calls w.heap.size s q wr R.out hq2 HS.out
  by_cases hlt : q < 8 * s.length
  · have hl : (0 : Int) < 8 * (s.length : Int) - q := by omega
    have hz0 := HZ.out q hq hlt
    generalize 8 * (s.length : Int) - q = lf at *
    go_wp2_with fail
    refine cl.mono ?_
    rintro e w3 ⟨rfl, k1, rfl⟩
    have cn := next_calls w.heap.size s q (wr.drewN k1) (blk_draws R.out k1) hlt HS.out
    rw [hz0] at cn
    have B3 := hid (below_draws B.out k1)
    clear cl R B
    go_wp2_with fail
    refine cn.mono ?_
    rintro e w4 ⟨rfl, R4, G4⟩
    have R5 := hid R4
    have B5 := hid (below_grown B3.out G4 B3.out.size (Nat.le_refl _))
    clear cn R4 G4 B3
    go_wp2_with fail
    go_roundg (8 * s.length - (q + 1))
    case measure => omega
    case rel => exact ⟨q + 1, by omega, by omega, by omega, R5.out, B5.out⟩
  · obtain rfl : q = 8 * s.length := by omega
    have hl : ¬ (0 : Int) < 8 * (s.length : Int) - ((8 * s.length : Nat) : Int) := by omega
    have hl2 : 8 * (s.length : Int) - ((8 * s.length : Nat) : Int) = 0 := by omega
    rw [hl2] at cl
    go_wp2_with fail
    refine cl.mono ?_
    rintro e w3 ⟨rfl, k1, rfl⟩
    have B3 := hid (below_draws B.out k1)
    clear cl R B
    go_wp2_with fail
    go_ret
    exact ⟨rfl, B3.out⟩
end Go.Proofs.YtiigipnfnfpepaaGreatDoor
namespace Go.Proofs.YtiigipnfnfpepaaGreatDoor
open Go.RowKit

theorem open_calls (l : List UInt8) (w : World) (hl : l.length ≤ 1000) : Calls Tryz.prog 27 #[.string (str (sealL l))] w fun e w' => e = .returned (.tuple #[.string (str l), .int .i64 0]) ∧ Below w.heap.size w w' := by
 have cs := seal_calls l w (by omega)
 have hsz := str_size (sealL l)
 rw [sealL_len] at hsz
 have htk := str_take (sealL l) l.length
 rw [show (sealL l).take l.length = l by rw [sealL, List.take_left']; rfl] at htk
 have hn0 : (0 : Int) ≤ l.length := by omega
 have hn1 : (l.length : Int) ≤ 1000 := by omega
 generalize str (sealL l) = S at *
 clear hl
 go_enter Tryz.func27, Tryz.ntmps27
 go_wp2_with fail
 refine cs.mono ?_
 rintro e w1 ⟨rfl, B⟩
 go_wp2_with fail
 go_ret2
 exact ⟨rfl, B⟩
end Go.Proofs.YtiigipnfnfpepaaGreatDoor
