/- Go's max of four whole numbers, in Lean's words. Go's max of three whole numbers, in Lean's words. The example of layer 16; sizes; BandLoud, BandDoubles. The walk of layer 16's statement BandClamps. C -/
import Derived.Tactics
import Derived.Lib.MinMax
import Derived.Test.YtiigipnfnfpepaaGreatDoorUC5
import Derived.Test.YtiigipnfnfpepaaGreatDoorUA
import Derived.Deep.QuietTactic
import Derived.BigQuiet
import Derived.Deep.RegionWith
import Derived.Deep.RegionHeld3
import Derived.Deep.DrawnRows
namespace Go.Proofs.YtiigipnfnfpepaaGreatDoor

theorem max_word (x y : Int) : (if y > x then y else x) = max x y := by
 rw [Int.max_def]
 split <;> split <;> omega

@[go_sem] theorem run_max_four {P : Program} (w : World) (ts : Array TypeId) (t : TypeId) (k k1 k2 k3 : IntKind) (x y z u : Int) :
 (Builtin.max_ ts t #[.int k x, .int k1 y, .int k2 z, .int k3 u]).run P w = .ok (.int k (max (max (max x y) z) u)) w := by
 simp [Builtin.max_, Builtin.max2, max_word]
end Go.Proofs.YtiigipnfnfpepaaGreatDoor
namespace Go.Proofs.YtiigipnfnfpepaaGreatDoor

@[go_sem high] theorem run_max_three {P : Program} (w : World) (ts : Array TypeId) (t : TypeId) (k k1 k2 : IntKind) (x y z : Int) :
 (Builtin.max_ ts t #[.int k x, .int k1 y, .int k2 z]).run P w = .ok (.int k (max (max x y) z)) w := by
 simp [Builtin.max_, Builtin.max2, max_word]
end Go.Proofs.YtiigipnfnfpepaaGreatDoor
namespace Go.Proofs.YtiigipnfnfpepaaGreatDoor
open Go.RowKit

end Go.Proofs.YtiigipnfnfpepaaGreatDoor
namespace Go.Proofs.YtiigipnfnfpepaaGreatDoor
open Go.RowKit
attribute [local go_sem ↓] Go.wp_at_zero Go.wp_at_succ

def inToB (zs : List Int) (k : Nat) : Bool := (List.range k).all fun i => decide (-1048576 ≤ zs.getD i 0) && decide (zs.getD i 0 ≤ 1048576)
end Go.Proofs.YtiigipnfnfpepaaGreatDoor
namespace Go.Proofs.YtiigipnfnfpepaaGreatDoor
open Go.RowKit

end Go.Proofs.YtiigipnfnfpepaaGreatDoor
namespace Go.Proofs.YtiigipnfnfpepaaGreatDoor
open Go.RowKit
attribute [local go_sem ↓] Go.wp_at_zero Go.wp_at_succ

end Go.Proofs.YtiigipnfnfpepaaGreatDoor
namespace Go.Proofs.YtiigipnfnfpepaaGreatDoor

def shN (b j : Nat) : Nat := if j ≤ b then b - j else 2 * (j - b)
def termL (s : List Int) (b j : Nat) : Int := 4 * 2 ^ (s.getD j 0).toNat / 2 ^ shN b j
def budTo (s : List Int) (b : Nat) : Nat → Int
 | 0 => 0
 | k + 1 => max (budTo s b k) (termL s b k)
def budL (s : List Int) (b : Nat) : Int := budTo s b 8

theorem right_get {s : List Int} (h : rightB s = true) (j : Nat) : 0 ≤ s.getD j 0 ∧ s.getD j 0 ≤ 15 := by
 simp only [rightB, Bool.not_eq_true', List.any_eq_false, Bool.not_eq_true, Bool.or_eq_false_iff, decide_eq_false_iff_not, Int.not_lt] at h
 rw [List.getD_eq_getElem?_getD]
 rcases Nat.lt_or_ge j s.length with hlt | hge
 · rw [List.getElem?_eq_getElem hlt]; exact h _ (List.getElem_mem hlt)
 · rw [List.getElem?_eq_none hge]; decide
def gapZ (x y : Int) : Int := max (x - y) (y - x)
def greatB (x : Int) : Bool := decide (x < -1048576) || decide (1048576 < x)
def farTo (y z : List Int) : Nat → Int
 | 0 => 0
 | k + 1 => farTo y z k + gapZ (y.getD k 0) (z.getD k 0)
def heldTo (y z : List Int) (k : Nat) : Bool := (List.range k).all fun i => !greatB (y.getD i 0) && !greatB (z.getD i 0)
def farL (y z : List Int) : Int := if heldTo y z 4 then farTo y z 4 else -1
theorem heldTo_succ (y z : List Int) (k : Nat) : heldTo y z (k + 1) = (heldTo y z k && (!greatB (y.getD k 0) && !greatB (z.getD k 0))) := by
 simp [heldTo, List.range_succ]
theorem heldTo_le {y z : List Int} {k n : Nat} (h : k ≤ n) (hh : heldTo y z k = false) : heldTo y z n = false := by
 rw [Bool.eq_false_iff] at hh ⊢
 intro hn
 apply hh
 simp only [heldTo, List.all_eq_true, List.mem_range] at hn ⊢
 exact fun i hi => hn i (by omega)
theorem gapZ_nonneg (x y : Int) : 0 ≤ gapZ x y := by unfold gapZ; omega
theorem farTo_bd {y z : List Int} : ∀ {k}, heldTo y z k = true → 0 ≤ farTo y z k ∧ farTo y z k ≤ 2097152 * k
 | 0, _ => by simp [farTo]
 | k + 1, h => by
  rw [heldTo_succ, Bool.and_eq_true] at h
  have ih := farTo_bd h.1
  have h2 := h.2
  simp only [greatB, Bool.and_eq_true, Bool.not_eq_true', Bool.or_eq_false_iff, decide_eq_false_iff_not] at h2
  simp only [farTo, gapZ]
  omega
end Go.Proofs.YtiigipnfnfpepaaGreatDoor
namespace Go.Proofs.YtiigipnfnfpepaaGreatDoor
open Go.RowKit

set_option maxRecDepth 100000 in
theorem maskMay_calls (s : List Int) (b : Int) (w : World) (hl : s.length = 8) (hi : ∀ z ∈ s, -9223372036854775808 ≤ z ∧ z ≤ 9223372036854775807) :
 Calls Tryz.prog 68 #[.agg (ints s), .int .i64 b] w fun e w' => e = .returned (.bool (rightB s && decide (0 ≤ b) && decide (b < 8))) ∧ Below w.heap.size w w' := by
 have b0 := blk_new w 42 (ints s)
 have hA := (Below.refl _ w).alloc (Nat.le_refl _) (.cells (ints s) 42)
 have cr := fun W => right_calls s W hl hi
 generalize rightB s = r at *
 clear hi
 cases r
 · go_enter Tryz.func68, Tryz.ntmps68
   go_wp2_with (first | (refine wpList_load_row rfl 42 _ rfl w.heap.size rfl 42 (ints s) (0, 0) _ b0 Tryz.underlying42 rfl (by rw [ints_size, hl]; kernel_rfl) ?_))
   refine (cr _).mono ?_
   rintro e w1 ⟨rfl, hB⟩
   have hE := bnext hA hB
   go_wp2_with fail
   go_ret
   exact ⟨rfl, hE⟩
 · by_cases h : 0 ≤ b
   · by_cases h2 : b < 8
     · go_enter Tryz.func68, Tryz.ntmps68
       go_wp2_with (first | (refine wpList_load_row rfl 42 _ rfl w.heap.size rfl 42 (ints s) (0, 0) _ b0 Tryz.underlying42 rfl (by rw [ints_size, hl]; kernel_rfl) ?_))
       refine (cr _).mono ?_
       rintro e w1 ⟨rfl, hB⟩
       have hE := bnext hA hB
       go_wp2_with fail
       go_ret
       exact ⟨by simp [h, h2], hE⟩
     · go_enter Tryz.func68, Tryz.ntmps68
       go_wp2_with (first | (refine wpList_load_row rfl 42 _ rfl w.heap.size rfl 42 (ints s) (0, 0) _ b0 Tryz.underlying42 rfl (by rw [ints_size, hl]; kernel_rfl) ?_))
       refine (cr _).mono ?_
       rintro e w1 ⟨rfl, hB⟩
       have hE := bnext hA hB
       go_wp2_with fail
       go_ret
       exact ⟨by simp; omega, hE⟩
   · go_enter Tryz.func68, Tryz.ntmps68
     go_wp2_with (first | (refine wpList_load_row rfl 42 _ rfl w.heap.size rfl 42 (ints s) (0, 0) _ b0 Tryz.underlying42 rfl (by rw [ints_size, hl]; kernel_rfl) ?_))
     refine (cr _).mono ?_
     rintro e w1 ⟨rfl, hB⟩
     have hE := bnext hA hB
     go_wp2_with fail
     go_ret
     exact ⟨by simp; omega, hE⟩

set_option maxRecDepth 100000 in
theorem slope_calls (n : Int) (w : World) : Calls Tryz.prog 113 #[.int .i64 n] w fun e w' => e = .returned (.func (.func 141) #[] #[.pointer (some ⟨w.heap.size, 0, none⟩)]) ∧ w.alloc (.cells #[.int .i64 n] 3) = w' := by
 go_enter Tryz.func113, Tryz.ntmps113
 go_wp2
 go_ret
 exact ⟨rfl, rfl⟩

set_option maxRecDepth 100000 in
theorem slopef_calls (x k n : Int) (b : Nat) (w : World) (hc : w.cell? ⟨b, 0, none⟩ = some (.int .i64 n)) (h0 : 0 ≤ k) (h1 : k ≤ 16) (h2 : 0 ≤ n) (h3 : n ≤ 2) :
 Calls Tryz.prog 141 #[.int .i64 x, .int .i64 k, .pointer (some ⟨b, 0, none⟩)] w fun e w' => e = .returned (.int .i64 (x / 2 ^ (n * k).toNat)) ∧ Below w.heap.size w w' := by
 have hn : n = 0 ∨ n = 1 ∨ n = 2 := by omega
 rcases hn with rfl | rfl | rfl
 all_goals
  go_enter Tryz.func141, Tryz.ntmps141
  go_wp2
  go_ret
  exact ⟨by simp, by first | exact Below.refl _ _ | exact (Below.refl _ _).drew | exact below_draws (Below.refl _ _) _⟩

set_option maxRecDepth 100000 in
set_option maxHeartbeats 2000000 in
theorem budget_calls (s : List Int) (b : Nat) (w : World) (hl : s.length = 8) (hr : rightB s = true) (hb : b < 8) :
 Calls Tryz.prog 69 #[.agg (ints s), .int .i64 b] w fun e w' => e = .returned (.int .i64 (budL s b)) ∧ Below w.heap.size w w' := by
 have b0 := blk_new w 42 (ints s)
 have hA := (Below.refl _ w).alloc (Nat.le_refl _) (.cells (ints s) 42)
 have hi : ∀ z ∈ s, -9223372036854775808 ≤ z ∧ z ≤ 9223372036854775807 := by
  intro z hz
  obtain ⟨i, hi, rfl⟩ := List.mem_iff_getElem.1 hz
  have := right_get hr i
  rw [List.getD_eq_getElem?_getD, List.getElem?_eq_getElem hi, Option.getD_some] at this
  omega
 have cm := fun W => maskMay_calls s b W hl hi
 rw [hr, show (true && decide (0 ≤ (b : Int)) && decide ((b : Int) < 8)) = true by simp; omega] at cm
 obtain ⟨inf, hinf⟩ := info_of_underlying (P := Tryz.prog) (t := 3) Tryz.underlying3
 have hsz1 : inf.size = 1 := by have h : (Tryz.prog.info? 3).map (·.size) = some 1 := by kernel_rfl
                                rw [hinf] at h; simpa using h
 have hx := fun i hlt w => run_index_ints (P := Tryz.prog) (t := 42) Tryz.underlying42 Tryz.underlying3 hinf hsz1 s hl i hlt w
 have HX := hid hx
 have HG := hid (right_get hr)
 have eg : ∀ args w, (callFunc 141 args).run Tryz.prog w = .ok (.enter 141 args) w := enters_at Tryz.func141 (by kernel_rfl) rfl
 clear hx hinf hsz1 hi hr
 go_enter Tryz.func69, Tryz.ntmps69
 go_wp2_with (first | (refine wpList_load_row rfl 42 _ rfl w.heap.size rfl 42 (ints s) (0, 0) _ b0 Tryz.underlying42 rfl (by rw [ints_size, hl]; kernel_rfl) ?_))
 refine (cm _).mono ?_
 rintro e w1 ⟨rfl, hB⟩
 have hE := bnext hA hB
 have k0 := blk_below b0 hB (blk_lt b0)
 clear hA hB b0 cm
 go_wp2_with fail
 refine (slope_calls 1 _).mono ?_
 rintro e w' ⟨rfl, rfl⟩
 go_wp2_with fail
 refine (slope_calls 2 _).mono ?_
 rintro e w' ⟨rfl, rfl⟩
 have hs := hE.size
 have hE2 := (hE.alloc hs (.cells #[.int .i64 1] 3)).alloc (by simp; omega) (.cells #[.int .i64 2] 3)
 have k1 := blk_alloc (blk_alloc k0 (.cells #[.int .i64 1] 3)) (.cells #[.int .i64 2] 3)
 have c1 : ((w1.alloc (.cells #[.int .i64 1] 3)).alloc (.cells #[.int .i64 2] 3)).cell? ⟨w1.heap.size, 0, none⟩ = some (.int .i64 1) := (blk_cell (blk_alloc (blk_new w1 3 #[.int .i64 1]) (.cells #[.int .i64 2] 3)) 0).trans rfl
 have c2 : ((w1.alloc (.cells #[.int .i64 1] 3)).alloc (.cells #[.int .i64 2] 3)).cell? ⟨(w1.alloc (.cells #[.int .i64 1] 3)).heap.size, 0, none⟩ = some (.int .i64 2) := (blk_cell (blk_new (w1.alloc (.cells #[.int .i64 1] 3)) 3 #[.int .i64 2]) 0).trans rfl
 rw [show (w1.alloc (.cells #[.int .i64 1] 3)).heap.size = w1.heap.size + 1 by simp] at c2
 have hlt2 : w1.heap.size + 1 < ((w1.alloc (.cells #[.int .i64 1] 3)).alloc (.cells #[.int .i64 2] 3)).heap.size := by simp
 clear k0 hE
 generalize (w1.alloc (.cells #[.int .i64 1] 3)).alloc (.cells #[.int .i64 2] 3) = w2 at *
 have K1 := hid k1
 have E2 := hid hE2
 clear hE2
 go_wp2_with (first | (refine wpList_load_row rfl 42 _ rfl w.heap.size rfl 42 (ints s) (0, 0) _ k1 Tryz.underlying42 rfl (by rw [ints_size, hl]; kernel_rfl) ?_))
 clear k1
 go_loopg [7, 18] 8 (fun gg s7 s18 wr => ∃ kk : Nat, kk ≤ 8 ∧ 8 - kk ≤ gg ∧ s18 = .int .i64 kk ∧ s7 = .int .i64 (budTo s b kk) ∧ Aside (Below w.heap.size w wr) ∧ Aside (wr.cell? ⟨w1.heap.size, 0, none⟩ = some (.int .i64 1) ∧ wr.cell? ⟨w1.heap.size + 1, 0, none⟩ = some (.int .i64 2) ∧ w1.heap.size + 1 < wr.heap.size))
 case atStart => exact ⟨0, Nat.zero_le _, by omega, rfl, rfl, E2.out, ⟨c1, c2, hlt2⟩⟩
 case round =>
  clear c1 c2 hlt2 E2 K1
  obtain ⟨kk, hkk, hgk, rfl, rfl, B, C⟩ := hrel
  by_cases hlt : kk < 8
  · have hltz : (kk : Int) < 8 := by omega
    have hxx := HX.out kk hlt
    have hg := HG.out kk
    have hbu := hid (show budTo s b (kk + 1) = max (budTo s b kk) (termL s b kk) from rfl)
    have htl := hid (show termL s b kk = 4 * 2 ^ (s.getD kk 0).toNat / 2 ^ shN b kk from rfl)
    obtain ⟨n, hn⟩ : ∃ n : Nat, s.getD kk 0 = n := ⟨(s.getD kk 0).toNat, by omega⟩
    rw [hn] at hg hxx
    have htl2 := hid (show termL s b kk = 4 * 2 ^ n / 2 ^ shN b kk by rw [htl.out, hn]; rfl)
    clear htl hn
    have hp := pow_le15 (s := n) (by omega)
    have hn0 : 0 ≤ (n : Int) := by omega
    have hw : wrap64 (4 * 2 ^ n) = 4 * 2 ^ n := IntWalk.wrap64_in _ ⟨by omega, by omega⟩
    have hw2 : IntKind.i64.wrap (4 * 2 ^ n) = 4 * 2 ^ n := IntWalk.i64_in _ ⟨by omega, by omega⟩
    clear hp
    by_cases hjb : kk ≤ b
    · have hjbz : (kk : Int) ≤ (b : Int) := by omega
      go_wp2_with fail
      refine (slopef_calls (4 * 2 ^ n) (b - kk) 1 w1.heap.size _ C.out.1 (by omega) (by omega) (by omega) (by omega)).mono ?_
      rintro e w3 ⟨rfl, hC⟩
      have hE3 := bnext B.out hC
      have hC3 := hid (show w3.cell? ⟨w1.heap.size, 0, none⟩ = some (.int .i64 1) ∧ w3.cell? ⟨w1.heap.size + 1, 0, none⟩ = some (.int .i64 2) ∧ w1.heap.size + 1 < w3.heap.size from ⟨(hC.cell (p := ⟨w1.heap.size, 0, none⟩) (Nat.lt_of_succ_lt C.out.2.2)).trans C.out.1, (hC.cell (p := ⟨w1.heap.size + 1, 0, none⟩) C.out.2.2).trans C.out.2.1, Nat.lt_of_lt_of_le C.out.2.2 hC.size⟩)
      have hE4 := hid hE3
      clear B C hC hE3
      have hsh : (1 * ((b : Int) - (kk : Int))).toNat = shN b kk := by unfold shN; rw [if_pos hjb]; omega
      rw [hsh, ← htl2.out]
      clear hsh
      go_wp2_with fail
      go_roundg (8 - (kk + 1))
      case measure => omega
      case rel => exact ⟨kk + 1, by omega, by omega, by go_num, by rw [hbu.out], hE4.out, hC3.out⟩
    · have hjbz : ¬ (kk : Int) ≤ (b : Int) := by omega
      go_wp2_with fail
      refine (slopef_calls (4 * 2 ^ n) (kk - b) 2 (w1.heap.size + 1) _ C.out.2.1 (by omega) (by omega) (by omega) (by omega)).mono ?_
      rintro e w3 ⟨rfl, hC⟩
      have hE3 := bnext B.out hC
      have hC3 := hid (show w3.cell? ⟨w1.heap.size, 0, none⟩ = some (.int .i64 1) ∧ w3.cell? ⟨w1.heap.size + 1, 0, none⟩ = some (.int .i64 2) ∧ w1.heap.size + 1 < w3.heap.size from ⟨(hC.cell (p := ⟨w1.heap.size, 0, none⟩) (Nat.lt_of_succ_lt C.out.2.2)).trans C.out.1, (hC.cell (p := ⟨w1.heap.size + 1, 0, none⟩) C.out.2.2).trans C.out.2.1, Nat.lt_of_lt_of_le C.out.2.2 hC.size⟩)
      have hE4 := hid hE3
      clear B C hC hE3
      have hsh : (2 * ((kk : Int) - (b : Int))).toNat = shN b kk := by unfold shN; rw [if_neg (by omega)]; omega
      rw [hsh, ← htl2.out]
      clear hsh
      go_wp2_with fail
      go_roundg (8 - (kk + 1))
      case measure => omega
      case rel => exact ⟨kk + 1, by omega, by omega, by go_num, by rw [hbu.out], hE4.out, hC3.out⟩
  · have hltz : ¬ (kk : Int) < 8 := by omega
    obtain rfl : kk = 8 := by omega
    go_wp2_with fail
    go_ret
    exact ⟨rfl, B.out⟩
end Go.Proofs.YtiigipnfnfpepaaGreatDoor
namespace Go.Proofs.YtiigipnfnfpepaaGreatDoor
open Go.RowKit
attribute [local go_sem ↓] Go.wp_at_zero Go.wp_at_succ

theorem right_in {s : List Int} (hr : rightB s = true) : ∀ z ∈ s, -9223372036854775808 ≤ z ∧ z ≤ 9223372036854775807 := by
 intro z hz
 obtain ⟨i, hi, rfl⟩ := List.mem_iff_getElem.1 hz
 have := right_get hr i
 rw [List.getD_eq_getElem?_getD, List.getElem?_eq_getElem hi, Option.getD_some] at this
 omega
def movesL (s : List Int) (b : Nat) : Int := budL s b / 2 ^ (s.getD b 0).toNat

set_option maxRecDepth 100000 in
set_option maxHeartbeats 2000000 in
theorem moves_calls (s : List Int) (b : Nat) (w : World) (hl : s.length = 8) (hr : rightB s = true) (hb : b < 8) :
 Calls Tryz.prog 38 #[.agg (ints s), .int .i64 b] w fun e w' => e = .returned (.int .i64 (movesL s b)) ∧ Below w.heap.size w w' := by
 have b0 := blk_new w 42 (ints s)
 have hA := (Below.refl _ w).alloc (Nat.le_refl _) (.cells (ints s) 42)
 have cm := fun W => maskMay_calls s b W hl (right_in hr)
 rw [hr, show (true && decide (0 ≤ (b : Int)) && decide ((b : Int) < 8)) = true by simp; omega] at cm
 have cb := fun W => budget_calls s b W hl hr hb
 have hg := right_get hr b
 have hbz : (b : Int) < 8 := by omega
 have hb0 : 0 ≤ (b : Int) := by omega
 have HM := hid (show movesL s b = budL s b / 2 ^ (s.getD b 0).toNat from rfl)
 obtain ⟨n, hn⟩ : ∃ n : Nat, s.getD b 0 = n := ⟨(s.getD b 0).toNat, by omega⟩
 have c0 : (w.alloc (.cells (ints s) 42)).cell? ⟨w.heap.size, b, none⟩ = some (.int .i64 n) := by rw [← hn]; exact blk_int b0 (by omega)
 rw [hn] at hg
 have HM2 := hid (show movesL s b = budL s b / 2 ^ n by rw [HM.out, hn]; rfl)
 have hn0 : 0 ≤ (n : Int) := by omega
 have hn64 : (n : Int) ≤ 64 := by omega
 clear hn HM
 generalize budL s b = bud at *
 clear hr
 go_enter Tryz.func38, Tryz.ntmps38
 go_wp2_with (first | (refine wpList_load_row rfl 42 _ rfl w.heap.size rfl 42 (ints s) (0, 0) _ b0 Tryz.underlying42 rfl (by rw [ints_size, hl]; kernel_rfl) ?_))
 refine (cm _).mono ?_
 rintro e w1 ⟨rfl, hB⟩
 have hE := bnext hA hB
 have k0 := blk_below b0 hB (blk_lt b0)
 have k1 : w1.cell? ⟨w.heap.size, b, none⟩ = some (.int .i64 n) := (hB.cell (p := ⟨w.heap.size, b, none⟩) (blk_lt b0)).trans c0
 have K1 := hid k1
 clear hA hB b0 c0 cm k1
 have hu := Tryz.underlying42
 have hi : (Tryz.prog.info? 42).map (·.size) = some (s.map (Value.int .i64)).length := by rw [List.length_map, hl]; kernel_rfl
 simp only [ints] at cb
 go_wp2_with fail
 refine wp_region_held_drew (S := (fun W => Blk W w.heap.size 42 (ints s) ∧ W.cell? ⟨w.heap.size, b, none⟩ = some (.int .i64 n) ∧ Below w.heap.size w W)) (by kernel_rfl) ⟨blk_drew k0, K1.out, hE.drew⟩ (fun hHeld => ?_)
 refine wpAnyH_take (i := 0) (oi := ⟨_,_,_,_,_,_⟩) (v := _) rfl (by kernel_rfl) (by kernel_rfl) (by kernel_rfl) (fun _ _ _ h => h) (yieldsIf_load_mid (by rfl) _ _ rfl _ _ rfl _ _ (fun _ h => range_whole h.1) hu rfl hi) (by assumption) ?_
 try simp only [Act.put, tA, tB, tC]
 refine wpAnyH_take (i := 1) (oi := ⟨_,_,_,_,_,_⟩) (v := ?_) rfl (by kernel_rfl) (by kernel_rfl) (by kernel_rfl) (fun _ _ _ h => h) (Or.inl ⟨by rfl, ?_⟩) (by assumption) ?_; rotate_left; · intro W hSw; (try dsimp only at hSw); go_simp; try with_reducible rfl
 try simp only [Act.put, tA, tB, tC]
 refine wpAnyH_take (i := 3) (oi := ⟨_,_,_,_,_,_⟩) (v := ?_) rfl (by kernel_rfl) (by kernel_rfl) (by kernel_rfl) (fun _ _ _ h => h) (Or.inl ⟨by rfl, ?_⟩) (by assumption) ?_; rotate_left; · intro W hSw; (try dsimp only at hSw); go_simp; try with_reducible rfl
 try simp only [Act.put, tA, tB, tC]
 refine wpAnyH_take (i := 4) (oi := ⟨_,_,_,_,_,_⟩) (v := ?_) rfl (by kernel_rfl) (by kernel_rfl) (by kernel_rfl) (fun _ _ _ h => h) (Or.inl ⟨by rfl, ?_⟩) (by assumption) ?_; rotate_left; · intro W hSw; (try dsimp only at hSw); go_simp; try with_reducible rfl
 try simp only [Act.put, tA, tB, tC]
 refine wpAnyH_take (i := 5) (oi := ⟨_,_,_,_,_,_⟩) (v := ?_) rfl (by kernel_rfl) (by kernel_rfl) (by kernel_rfl) (fun _ _ _ h => h) (Or.inl ⟨by rfl, ?_⟩) (by assumption) ?_; rotate_left; · intro W hSw; (try dsimp only at hSw); go_simp; try with_reducible rfl
 try simp only [Act.put, tA, tB, tC]
 refine wpAnyH_ready (rs := [2]) (by kernel_rfl) (by simp) ?_
 refine AllReadyH.cons (o := ⟨_,_,_,_,_,_⟩) rfl (fun K hK => ?_) AllReadyH.nil
 go_simp
 refine (cb _).mono ?_
 rintro e w' ⟨rfl, hC⟩
 go_simp
 refine hK.out _ _ ⟨blk_below hHeld.1 hC (blk_lt hHeld.1), (hC.cell (p := ⟨w.heap.size, b, none⟩) (blk_lt hHeld.1)).trans hHeld.2.1, bnext hHeld.2.2 hC⟩ (fun hHeld => ?_)
 clear hK K
 try simp only [Act.put, tA, tB, tC]
 refine wpAnyH_take (i := 6) (oi := ⟨_,_,_,_,_,_⟩) (v := ?_) rfl (by kernel_rfl) (by kernel_rfl) (by kernel_rfl) (fun _ _ _ h => h) (Or.inl ⟨by rfl, ?_⟩) (by assumption) ?_; rotate_left; · intro W hSw; (try dsimp only at hSw); go_simp; try with_reducible rfl
 try simp only [Act.put, tA, tB, tC]
 refine wpAnyH_take (i := 7) (oi := ⟨_,_,_,_,_,_⟩) (v := ?_) rfl (by kernel_rfl) (by kernel_rfl) (by kernel_rfl) (fun _ _ _ h => h) (Or.inl ⟨by rfl, ?_⟩) (by assumption) ?_; rotate_left; · intro W hSw; (try dsimp only at hSw); go_simp; try with_reducible rfl
 try simp only [Act.put, tA, tB, tC]
 refine wpAnyH_done (by kernel_rfl) ?_ _
 have hF := hHeld.2.2
 clear hHeld
 go_wp2_with fail
 go_ret
 exact ⟨ret_i64 (by rw [HM2.out]), hF⟩

theorem far_held {y z : Int} (hy : -9223372036854775808 ≤ y ∧ y ≤ 9223372036854775807) (hz : -9223372036854775808 ≤ z ∧ z ≤ 9223372036854775807)
 (h1 : ¬ 1048576 < max y (max (IntKind.i64.wrap (-y)) (max z (IntKind.i64.wrap (-z))))) (h2 : ¬ min y z < -1048576) : -1048576 ≤ y ∧ y ≤ 1048576 ∧ -1048576 ≤ z ∧ z ≤ 1048576 := by
 rw [IntKind.wrap_i64, IntKind.wrap_i64] at h1
 omega
theorem far_great {y z : Int} (hy : -9223372036854775808 ≤ y ∧ y ≤ 9223372036854775807) (hz : -9223372036854775808 ≤ z ∧ z ≤ 9223372036854775807)
 (h : 1048576 < max y (max (IntKind.i64.wrap (-y)) (max z (IntKind.i64.wrap (-z)))) ∨ min y z < -1048576) : ¬ (-1048576 ≤ y ∧ y ≤ 1048576 ∧ -1048576 ≤ z ∧ z ≤ 1048576) := by
 rw [IntKind.wrap_i64, IntKind.wrap_i64] at h
 omega
theorem greatB_not {y z : Int} : (!greatB y && !greatB z) = decide (-1048576 ≤ y ∧ y ≤ 1048576 ∧ -1048576 ≤ z ∧ z ≤ 1048576) := by
 rw [Bool.eq_iff_iff]
 simp [greatB]
 omega

set_option maxRecDepth 100000 in
set_option maxHeartbeats 2000000 in
theorem far_calls (ys zs : List Int) (w : World) (hly : ys.length = 4) (hlz : zs.length = 4) (hiy : ∀ z ∈ ys, -9223372036854775808 ≤ z ∧ z ≤ 9223372036854775807) (hiz : ∀ z ∈ zs, -9223372036854775808 ≤ z ∧ z ≤ 9223372036854775807) :
 Calls Tryz.prog 72 #[.agg (ints ys), .agg (ints zs)] w fun e w' => e = .returned (.int .i64 (farL ys zs)) ∧ Below w.heap.size w w' := by
 have b0 := blk_alloc (blk_new w 44 (ints ys)) (.cells (ints zs) 44)
 have b1 := blk_new (w.alloc (.cells (ints ys) 44)) 44 (ints zs)
 rw [show (w.alloc (.cells (ints ys) 44)).heap.size = w.heap.size + 1 by simp] at b1
 have hA : Below w.heap.size w ((w.alloc (.cells (ints ys) 44)).alloc (.cells (ints zs) 44)) := ((Below.refl _ w).alloc (Nat.le_refl _) _).alloc (by simp) _
 have B0 := hid b0
 have B1 := hid b1
 have HY := hid hiy
 have HZ := hid hiz
 clear b0 b1 hiy hiz
 go_enter Tryz.func72, Tryz.ntmps72
 go_wp2_with fail
 go_loopg [5, 7] 4 (fun gg s5 s7 wr => ∃ kk : Nat, kk ≤ 4 ∧ 4 - kk ≤ gg ∧ s7 = .int .i64 kk ∧ s5 = .int .i64 (farTo ys zs kk) ∧ Aside (Below w.heap.size w wr) ∧ Aside (Blk wr w.heap.size 44 (ints ys) ∧ Blk wr (w.heap.size + 1) 44 (ints zs)) ∧ Aside (heldTo ys zs kk = true))
 case atStart => exact ⟨0, Nat.zero_le _, by omega, rfl, rfl, hA, ⟨B0.out, B1.out⟩, rfl⟩
 case round =>
  clear hA B0 B1
  obtain ⟨kk, hkk, hgk, rfl, rfl, B, K, H⟩ := hrel
  by_cases hlt : kk < 4
  · have hltz : (kk : Int) < 4 := by omega
    have hk0 : 0 ≤ (kk : Int) := by omega
    have cy := blk_int K.out.1 (i := kk) (by omega)
    have cz := blk_int K.out.2 (i := kk) (by omega)
    have hy := HY.out (ys.getD kk 0) (by rw [List.getD_eq_getElem?_getD, List.getElem?_eq_getElem (by omega)]; exact List.getElem_mem (by omega))
    have hz := HZ.out (zs.getD kk 0) (by rw [List.getD_eq_getElem?_getD, List.getElem?_eq_getElem (by omega)]; exact List.getElem_mem (by omega))
    have hfb := farTo_bd H.out
    have hsu := hid (heldTo_succ ys zs kk)
    have hfu := hid (show farTo ys zs (kk + 1) = farTo ys zs kk + gapZ (ys.getD kk 0) (zs.getD kk 0) from rfl)
    generalize ys.getD kk 0 = y at *
    generalize zs.getD kk 0 = z at *
    generalize farTo ys zs kk = n at *
    have fh := far_held hy hz
    have fg := far_great hy hz
    have FH := hid fh
    have FG := hid fg
    clear fh fg
    generalize hY : IntKind.i64.wrap (-y) = y' at *
    generalize hZ : IntKind.i64.wrap (-z) = z' at *
    by_cases h1 : 1048576 < max y (max y' (max z z'))
    · have hres : farL ys zs = -1 := by
       unfold farL
       rw [if_neg]
       have : heldTo ys zs (kk + 1) = false := by rw [hsu.out, greatB_not, H.out, decide_eq_false (FG.out (Or.inl h1))]; rfl
       rw [heldTo_le (by omega) this]
       decide
      have HRES := hid hres
      clear hres FH FG
      generalize hm : max y (max y' (max z z')) = m at *
      go_wp2_with fail
      go_quiet (fail)
      go_wp2_with fail
      go_ret
      exact ⟨ret_i64 HRES.out.symm, below_draws B.out nq⟩
    · by_cases h2 : min y z < -1048576
      · have hres : farL ys zs = -1 := by
         unfold farL
         rw [if_neg]
         have : heldTo ys zs (kk + 1) = false := by rw [hsu.out, greatB_not, H.out, decide_eq_false (FG.out (Or.inr h2))]; rfl
         rw [heldTo_le (by omega) this]
         decide
        have HRES := hid hres
        clear hres FH FG
        generalize hm : max y (max y' (max z z')) = m at *
        generalize hm2 : min y z = m2 at *
        have h1' : m ≤ 1048576 := by omega
        go_wp2_with fail
        go_quiet (fail)
        go_wp2_with fail
        go_ret
        exact ⟨ret_i64 HRES.out.symm, below_draws B.out nq⟩
      · have hb := FH.out h1 h2
        have hresd : heldTo ys zs (kk + 1) = true := by rw [hsu.out, greatB_not, H.out, decide_eq_true hb]; rfl
        have HRES := hid hresd
        have hw1 : IntKind.i64.wrap (y - z) = y - z := IntWalk.i64_in _ ⟨by omega, by omega⟩
        have hw2 : IntKind.i64.wrap (z - y) = z - y := IntWalk.i64_in _ ⟨by omega, by omega⟩
        have hg := gapZ_nonneg y z
        have hg2 : gapZ y z ≤ 2097152 := by unfold gapZ; omega
        have hw3 : IntKind.i64.wrap (n + gapZ y z) = n + gapZ y z := IntWalk.i64_in _ ⟨by omega, by omega⟩
        have hgz : max (y - z) (z - y) = gapZ y z := rfl
        clear hresd FH FG hsu
        have h1m : max y (max y' (max z z')) ≤ 1048576 := by omega
        have h2m : -1048576 ≤ min y z := by omega
        clear h1 h2 hb
        generalize hm : max y (max y' (max z z')) = m at *
        generalize hm2 : min y z = m2 at *
        generalize hgg : gapZ y z = q at *
        have HGG := hid hgg
        clear hgg
        go_wp2_with fail
        go_quiet (fail)
        have h := K.out
        have BB := hid (below_draws B.out nq)
        have KK := hid (show Blk (wr.drewN nq) w.heap.size 44 (ints ys) ∧ Blk (wr.drewN nq) (w.heap.size + 1) 44 (ints zs) from ⟨blk_draws h.1 nq, blk_draws h.2 nq⟩)
        have cy' : (wr.drewN nq).cell? ⟨w.heap.size, kk, none⟩ = some (.int .i64 y) := cy
        have cz' : (wr.drewN nq).cell? ⟨w.heap.size + 1, kk, none⟩ = some (.int .i64 z) := cz
        clear cy cz hm hm2 hY hZ B K h
        generalize wr.drewN nq = w2 at *
        go_wp2_with fail
        go_quiet (fail)
        have BB2 := hid (below_draws BB.out nq)
        have h := KK.out
        have KK2 := hid (show Blk (w2.drewN nq) w.heap.size 44 (ints ys) ∧ Blk (w2.drewN nq) (w.heap.size + 1) 44 (ints zs) from ⟨blk_draws h.1 nq, blk_draws h.2 nq⟩)
        clear BB KK h cy' cz' hw1 hw2 hw3 hgz
        go_wp2_with fail
        go_roundg (4 - (kk + 1))
        case measure => omega
        case rel => exact ⟨kk + 1, by omega, by omega, by go_num, by rw [hfu.out], BB2.out, KK2.out, HRES.out⟩
  · have hltz : ¬ (kk : Int) < 4 := by omega
    obtain rfl : kk = 4 := by omega
    have hres := hid (show farL ys zs = farTo ys zs 4 by unfold farL; rw [H.out, if_pos rfl])
    go_wp2_with fail
    go_ret
    exact ⟨ret_i64 hres.out.symm, B.out⟩
end Go.Proofs.YtiigipnfnfpepaaGreatDoor
namespace Go.Proofs.YtiigipnfnfpepaaGreatDoor
open Go.RowKit
attribute [local go_sem ↓] Go.wp_at_zero Go.wp_at_succ

def mayL (s : List Int) (b : Nat) (y z : List Int) : Bool := decide (0 ≤ farL y z) && decide (farL y z ≤ movesL s b)

set_option maxRecDepth 100000 in
set_option maxHeartbeats 1000000 in
theorem may_calls (s : List Int) (b : Nat) (ys zs : List Int) (w : World) (hl : s.length = 8) (hr : rightB s = true) (hb : b < 8) (hly : ys.length = 4) (hlz : zs.length = 4) (hiy : ∀ z ∈ ys, -9223372036854775808 ≤ z ∧ z ≤ 9223372036854775807) (hiz : ∀ z ∈ zs, -9223372036854775808 ≤ z ∧ z ≤ 9223372036854775807) :
 Calls Tryz.prog 52 #[.agg (ints s), .int .i64 b, .agg (ints ys), .agg (ints zs)] w fun e w' => e = .returned (.bool (mayL s b ys zs)) ∧ Below w.heap.size w w' := by
 have b0 := blk_alloc (blk_alloc (blk_new w 42 (ints s)) (.cells (ints ys) 44)) (.cells (ints zs) 44)
 have b1 := blk_alloc (blk_new (w.alloc (.cells (ints s) 42)) 44 (ints ys)) (.cells (ints zs) 44)
 have b2 := blk_new ((w.alloc (.cells (ints s) 42)).alloc (.cells (ints ys) 44)) 44 (ints zs)
 rw [show (w.alloc (.cells (ints s) 42)).heap.size = w.heap.size + 1 by simp] at b1
 rw [show ((w.alloc (.cells (ints s) 42)).alloc (.cells (ints ys) 44)).heap.size = w.heap.size + 2 by simp] at b2
 have hA : Below w.heap.size w (((w.alloc (.cells (ints s) 42)).alloc (.cells (ints ys) 44)).alloc (.cells (ints zs) 44)) := (((Below.refl _ w).alloc (Nat.le_refl _) _).alloc (by simp) _).alloc (by simp; omega) _
 have cf := fun W => far_calls ys zs W hly hlz hiy hiz
 have cm := fun W => maskMay_calls s b W hl (right_in hr)
 rw [hr, show (true && decide (0 ≤ (b : Int)) && decide ((b : Int) < 8)) = true by simp; omega] at cm
 have cv := fun W => moves_calls s b W hl hr hb
 unfold mayL
 generalize farL ys zs = n at *
 generalize movesL s b = m at *
 clear hr hiy hiz
 go_enter Tryz.func52, Tryz.ntmps52
 go_wp2_with (first | (refine wpList_load_row rfl 44 _ rfl (w.heap.size + 1) rfl 44 (ints ys) (0, 0) _ b1 Tryz.underlying44 rfl (by rw [ints_size, hly]; kernel_rfl) ?_) | (refine wpList_load_row rfl 44 _ rfl (w.heap.size + 2) rfl 44 (ints zs) (0, 0) _ b2 Tryz.underlying44 rfl (by rw [ints_size, hlz]; kernel_rfl) ?_))
 refine (cf _).mono ?_
 rintro e w1 ⟨rfl, hB⟩
 have hE := bnext hA hB
 have k0 := blk_below b0 hB (blk_lt b0)
 clear hA hB b0 b1 b2 cf
 go_wp2_with (first | (refine wpList_load_row rfl 42 _ rfl w.heap.size rfl 42 (ints s) (0, 0) _ k0 Tryz.underlying42 rfl (by rw [ints_size, hl]; kernel_rfl) ?_))
 refine (cm _).mono ?_
 rintro e w2 ⟨rfl, hB⟩
 have hE2 := bnext hE hB
 have k1 := blk_below k0 hB (blk_lt k0)
 clear hE hB k0 cm
 by_cases h1 : 0 ≤ n
 · go_wp2_with (first | (refine wpList_load_wanted (by rfl) 42 _ rfl w.heap.size rfl 42 s _ k1 Tryz.underlying42 rfl (by rw [hl]; kernel_rfl) ?_))
   refine (cv _).mono ?_
   rintro e w3 ⟨rfl, hB⟩
   have hE3 := bnext hE2 hB
   clear hE2 hB k1 cv
   by_cases h2 : n ≤ m
   · go_wp2_with fail
     go_ret
     exact ⟨by simp [h1, h2], hE3⟩
   · go_wp2_with fail
     go_ret
     exact ⟨by simp; omega, hE3⟩
 · go_wp2_with fail
   go_ret
   exact ⟨by simp; omega, hE2⟩

end Go.Proofs.YtiigipnfnfpepaaGreatDoor
