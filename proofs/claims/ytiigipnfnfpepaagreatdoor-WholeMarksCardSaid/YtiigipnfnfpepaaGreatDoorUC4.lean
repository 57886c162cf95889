/- How many vectors there are (layer 14): the table. Vectors of so many pulses (layer 14): counts, bits, pulses. Vectors of so many pulses (layer 14): pulses. Vectors of so many pulses (layer 14): the nu -/
import Derived.Test.YtiigipnfnfpepaaGreatDoorUC3
import Derived.Test.YtiigipnfnfpepaaGreatDoorUA
namespace Go.Proofs.YtiigipnfnfpepaaGreatDoor
open Go.RowKit

def cIn (l : List Int) (m k : Nat) : Nat → List Int
 | 0 => l.set ((m + 1) * 13 + k) (l.getD (m * 13 + k) 0)
 | j + 1 => (cIn l m k j).set ((m + 1) * 13 + k) (IntKind.i64.wrap ((cIn l m k j).getD ((m + 1) * 13 + k) 0 + IntKind.i64.wrap (2 * (cIn l m k j).getD (m * 13 + j) 0)))
def cMid (l : List Int) (m : Nat) : Nat → List Int
 | 0 => l
 | k + 1 => cIn (cMid l m k) m k k
def cTo : Nat → List Int
 | 0 => (List.replicate 117 0).set 0 1
 | m + 1 => cMid (cTo m) m 13
def cntL : List Int := cTo 8
theorem cIn_len (l : List Int) (m k : Nat) : ∀ j, (cIn l m k j).length = l.length
 | 0 => by rw [cIn, List.length_set]
 | j + 1 => by rw [cIn, List.length_set]; exact cIn_len l m k j
theorem cMid_len (l : List Int) (m : Nat) : ∀ k, (cMid l m k).length = l.length
 | 0 => rfl
 | k + 1 => by rw [cMid, cIn_len]; exact cMid_len l m k
theorem cTo_len : ∀ m, (cTo m).length = 117
 | 0 => by rw [cTo, List.length_set]; exact List.length_replicate
 | m + 1 => by rw [cTo, cMid_len]; exact cTo_len m

set_option maxRecDepth 20000 in
set_option maxHeartbeats 4000000 in
theorem counts_calls (w : World) : Calls Tryz.prog 108 #[] w fun e w' => e = .returned (.pointer (some ⟨w.heap.size, 0, none⟩)) ∧ Blk w' w.heap.size 221 (ints cntL) ∧ Below w.heap.size w w' := by
 have hz : Tryz.zeroCells221 = ints (List.replicate 117 0) := by kernel_rfl
 have hz1 : Tryz.zeroCells221.setIfInBounds 0 (.int .i64 1) = ints (cTo 0) := by rw [hz, ints_set]; rfl
 have H1 := hid (show Blk (w.alloc (.cells (Tryz.zeroCells221.setIfInBounds 0 (.int .i64 1)) 221)) w.heap.size 221 (ints (cTo 0)) by rw [← hz1]; exact blk_new w _ _)
 have B1 := hid ((Below.refl w.heap.size w).alloc (Nat.le_refl _) (.cells (Tryz.zeroCells221.setIfInBounds 0 (.int .i64 1)) 221))
 have hzs : Tryz.zeroCells221[0]? = some (.int .i64 0) := by rw [hz]; rfl
 clear hz hz1
 go_enter Tryz.func108, Tryz.ntmps108
 go_wp2_with fail
 clear hzs
 generalize w.alloc (.cells (Tryz.zeroCells221.setIfInBounds 0 (.int .i64 1)) 221) = w1 at *
 go_loopg [2] 8 (fun gg s2 wr => ∃ m : Nat, m ≤ 8 ∧ 8 - m ≤ gg ∧ s2 = .int .i64 ((m : Int) + 1) ∧ Aside (Below w.heap.size w wr) ∧ Aside (Blk wr w.heap.size 221 (ints (cTo m))))
 case atStart => exact ⟨0, Nat.zero_le _, by omega, rfl, B1.out, H1.out⟩
 case round =>
  clear B1 H1
  obtain ⟨m, hm, hgm, rfl, B, O⟩ := hrel
  have hs := B.out.size
  by_cases hlt : m < 8
  · have hmz : (m : Int) + 1 ≤ 8 := by omega
    have hm0 : (0 : Int) ≤ m := by omega
    have O1 := hid (show Blk wr w.heap.size 221 (ints (cMid (cTo m) m 0)) from O.out)
    have HT := hid (show cTo (m + 1) = cMid (cTo m) m 13 from rfl)
    have HL := hid (cTo_len m)
    clear O
    generalize cTo m = l at *
    go_wp2_with fail
    go_loopg [11] 13 (fun gg s11 wr => ∃ k : Nat, k ≤ 13 ∧ 13 - k ≤ gg ∧ s11 = .int .i64 k ∧ Aside (Below w.heap.size w wr) ∧ Aside (Blk wr w.heap.size 221 (ints (cMid l m k))))
    case atStart => exact ⟨0, Nat.zero_le _, by omega, rfl, B.out, O1.out⟩
    case round =>
     clear B O1 hs
     obtain ⟨k, hk, hgk, rfl, B, O⟩ := hrel
     have hs := B.out.size
     by_cases hkl : k < 13
     · have hkz : (k : Int) < 13 := by omega
       have hk0 : (0 : Int) ≤ k := by omega
       have hm1 : (0 : Int) ≤ (m : Int) + 1 := by omega
       have hm8 : (m : Int) < 9 := by omega
       have hm9 : (m : Int) + 1 < 9 := by omega
       have i0 : IntKind.i64.wrap ((m : Int) + 1 - 1) = (m : Int) := by rw [IntWalk.i64_in _ (by omega)]; omega
       have i1 : IntKind.i64.wrap (m : Int) = (m : Int) := IntWalk.i64_in _ (by omega)
       have c0 := blk_int O.out (i := m * 13 + k) (by rw [cMid_len, HL.out]; omega)
       have c1 := blk_int O.out (i := (m + 1) * 13 + k) (by rw [cMid_len, HL.out]; omega)
       have f1 := blk_free O.out ((m + 1) * 13 + k)
       go_wp2_with fail
       have HC := hid (show cIn (cMid l m k) m k 0 = (cMid l m k).set ((m + 1) * 13 + k) ((cMid l m k).getD (m * 13 + k) 0) from rfl)
       have HM := hid (show cMid l m (k + 1) = cIn (cMid l m k) m k k from rfl)
       have HML := hid (cMid_len l m k)
       generalize (cMid l m k).getD (m * 13 + k) 0 = y at *
       have o1 := blk_set_int O.out ((m + 1) * 13 + k) y
       rw [← HC.out] at o1
       have O2 := hid o1
       have B2 := hid (below_set B.out (b := w.heap.size) (i := (m + 1) * 13 + k) (Nat.le_refl _) (.int .i64 y))
       clear o1 B O HC
       refine plain_region (S := (fun L W => (L.getD 10 true = true ∨ W.cell? ⟨w.heap.size, m * 13 + k, none⟩ = some (.int .i64 y)))) (by kernel_rfl) (Or.inr c0) (fun hHeld => ?_)
       clear hHeld
       refine aW 0 (Or.inr c0) ?_
       refine aW 1 (Or.inr c0) ?_
       refine aW 2 (Or.inr c0) ?_
       refine aW 3 (Or.inr c0) ?_
       refine aW 4 (Or.inr c0) ?_
       refine aW 5 (Or.inr c0) ?_
       refine aW 6 (Or.inr c0) ?_
       refine aL 7 10 (fun _ _ h k => rL k h) (Or.inr c0) ?_
       refine aW 8 (Or.inr c0) ?_
       refine aW 9 (Or.inr c0) ?_
       refine aR 10 (fun K hK => ?_)
       go_simp
       skip
       refine hK.out _ _ (Or.inl (by rfl)) (fun hHeld => ?_)
       clear hK K
       try simp only [Act.put, tA, tB, tC]
       clear hHeld
       refine anyU_done (by kernel_rfl) ?_ _
       clear c0 c1 f1
       have O3 := hid (blk_drew O2.out)
       have B3 := hid (below_draws B2.out 1)
       clear O2 B2
       change Exit.then _ _ Exit.normal _ (World.drewN _ 1)
       generalize hw6 : World.drewN _ 1 = w6 at B3 ⊢
       have O4 := hid (show Blk w6 w.heap.size 221 (ints (cIn (cMid l m k) m k 0)) by rw [← hw6]; exact O3.out)
       clear O3 hw6
       generalize cMid l m k = l1 at *
       go_wp2_with fail
       go_loopg [25] k (fun gg s25 wr => ∃ j : Nat, j ≤ k ∧ k - j ≤ gg ∧ s25 = .int .i64 j ∧ Aside (Below w.heap.size w wr) ∧ Aside (Blk wr w.heap.size 221 (ints (cIn l1 m k j))))
       case atStart => exact ⟨0, Nat.zero_le _, by omega, rfl, B3.out, O4.out⟩
       case round =>
        clear B3 O4 hs
        obtain ⟨j, hj, hgj, rfl, B, O⟩ := hrel
        have hs := B.out.size
        by_cases hjl : j < k
        · have hjz : (j : Int) < k := by omega
          have hj0 : (0 : Int) ≤ j := by omega
          have hj13 : (j : Int) < 13 := by omega
          have c0 := blk_int O.out (i := (m + 1) * 13 + k) (by rw [cIn_len, HML.out, HL.out]; omega)
          have c1 := blk_int O.out (i := m * 13 + j) (by rw [cIn_len, HML.out, HL.out]; omega)
          have f0 := blk_free O.out ((m + 1) * 13 + k)
          have HC := hid (show cIn l1 m k (j + 1) = (cIn l1 m k j).set ((m + 1) * 13 + k) (IntKind.i64.wrap ((cIn l1 m k j).getD ((m + 1) * 13 + k) 0 + IntKind.i64.wrap (2 * (cIn l1 m k j).getD (m * 13 + j) 0))) from rfl)
          generalize (cIn l1 m k j).getD ((m + 1) * 13 + k) 0 = y at *
          generalize (cIn l1 m k j).getD (m * 13 + j) 0 = z at *
          generalize hu : IntKind.i64.wrap (2 * z) = u at *
          generalize hv : IntKind.i64.wrap (y + u) = v at *
          have o1 := blk_set_int O.out ((m + 1) * 13 + k) v
          rw [← HC.out] at o1
          have O2 := hid o1
          have B2 := hid (below_set B.out (b := w.heap.size) (i := (m + 1) * 13 + k) (Nat.le_refl _) (.int .i64 v))
          clear o1 B O HC
          go_wp2_with fail
          refine plain_region (S := (fun L W => (L.getD 15 true = true ∨ W.cell? ⟨w.heap.size, (m + 1) * 13 + k, none⟩ = some (.int .i64 y)) ∧ (L.getD 15 true = true ∨ W.cell? ⟨w.heap.size, m * 13 + j, none⟩ = some (.int .i64 z)))) (by kernel_rfl) (⟨Or.inr c0, Or.inr c1⟩) (fun hHeld => ?_)
          clear hHeld
          refine aW 0 ⟨Or.inr c0, Or.inr c1⟩ ?_
          refine aW 1 ⟨Or.inr c0, Or.inr c1⟩ ?_
          refine aW 2 ⟨Or.inr c0, Or.inr c1⟩ ?_
          refine aW 3 ⟨Or.inr c0, Or.inr c1⟩ ?_
          refine aL 4 15 (fun _ _ h k => rL k.1 h) ⟨Or.inr c0, Or.inr c1⟩ ?_
          refine aW 5 ⟨Or.inr c0, Or.inr c1⟩ ?_
          refine aW 6 ⟨Or.inr c0, Or.inr c1⟩ ?_
          refine aW 7 ⟨Or.inr c0, Or.inr c1⟩ ?_
          refine aW 8 ⟨Or.inr c0, Or.inr c1⟩ ?_
          refine aW 9 ⟨Or.inr c0, Or.inr c1⟩ ?_
          refine aL 10 15 (fun _ _ h k => rL k.2 h) ⟨Or.inr c0, Or.inr c1⟩ ?_
          refine aW 11 ⟨Or.inr c0, Or.inr c1⟩ ?_
          refine aW 12 ⟨Or.inr c0, Or.inr c1⟩ ?_
          refine aW 13 ⟨Or.inr c0, Or.inr c1⟩ ?_
          refine aW 14 ⟨Or.inr c0, Or.inr c1⟩ ?_
          refine aR 15 (fun K hK => ?_)
          go_simp
          skip
          refine hK.out _ _ (⟨Or.inl (by rfl), Or.inl (by rfl)⟩) (fun hHeld => ?_)
          clear hK K
          try simp only [Act.put, tA, tB, tC]
          clear hHeld
          refine anyU_done (by kernel_rfl) ?_ _
          clear c0 c1 f0 hu hv
          have O3 := hid (blk_drew O2.out)
          have B3 := hid (show Below w.heap.size w (wr.setCell ⟨w.heap.size, (m + 1) * 13 + k, none⟩ (.int .i64 v)).drew from below_draws B2.out 1)
          clear O2 B2
          generalize (wr.setCell ⟨w.heap.size, (m + 1) * 13 + k, none⟩ (.int .i64 v)).drew = w7 at *
          go_wp2_with fail
          go_roundg (k - (j + 1))
          case measure => omega
          case rel => exact ⟨j + 1, by omega, by omega, by go_num, B3.out, O3.out⟩
        · obtain rfl : j = k := by omega
          have O2 := hid (show Blk wr w.heap.size 221 (ints (cMid l m (j + 1))) by rw [HM.out]; exact O.out)
          clear O
          go_wp2_with fail
          go_roundg (13 - (j + 1))
          case measure => omega
          case rel => exact ⟨j + 1, by omega, by omega, by go_num, B.out, O2.out⟩
     · obtain rfl : k = 13 := by omega
       have O2 := hid (show Blk wr w.heap.size 221 (ints (cTo (m + 1))) by rw [HT.out]; exact O.out)
       clear O
       have i2 : IntKind.i64.wrap ((m : Int) + 1 + 1) = (m : Int) + 1 + 1 := IntWalk.i64_in _ (by omega)
       go_wp2_with fail
       go_roundg (8 - (m + 1))
       case measure => omega
       case rel => exact ⟨m + 1, by omega, by omega, by go_num, B.out, O2.out⟩
  · obtain rfl : m = 8 := by omega
    have O2 := hid (show Blk wr w.heap.size 221 (ints cntL) from O.out)
    clear O
    go_wp2_with fail
    go_ret
    exact ⟨rfl, O2.out, B.out⟩
end Go.Proofs.YtiigipnfnfpepaaGreatDoor
namespace Go.Proofs.YtiigipnfnfpepaaGreatDoor
open Go.RowKit

theorem pvqMay_calls (n k : Nat) (w : World) (hn : n ≤ 8) (hk : k ≤ 12) : Calls Tryz.prog 107 #[.int .i64 n, .int .i64 k] w fun e w' => e = .returned (.bool true) ∧ w = w' := by
 have n0 : (0 : Int) ≤ n := by omega
 have n1 : (n : Int) ≤ 8 := by omega
 have k0 : (0 : Int) ≤ k := by omega
 have k1 : (k : Int) ≤ 12 := by omega
 go_enter Tryz.func107, Tryz.ntmps107
 go_wp2_with fail
 go_ret
 exact ⟨rfl, rfl⟩

def cntI (n k : Nat) : Int := cntL.getD (n * 13 + k) 0
theorem cntL_len : cntL.length = 117 := cTo_len 8

theorem pvqCount_calls (n k : Nat) (w : World) (hn : n ≤ 8) (hk : k ≤ 12) : Calls Tryz.prog 106 #[.int .i64 n, .int .i64 k] w fun e w' => e = .returned (.int .i64 (cntI n k)) ∧ Below w.heap.size w w' := by
 have cm := fun W => pvqMay_calls n k W hn hk
 have cc := counts_calls w
 have HCI := hid (show cntL.getD (n * 13 + k) 0 = cntI n k from rfl)
 have n0 : (0 : Int) ≤ n := by omega
 have n1 : (n : Int) < 9 := by omega
 have k0 : (0 : Int) ≤ k := by omega
 have k1 : (k : Int) < 13 := by omega
 go_enter Tryz.func106, Tryz.ntmps106
 go_wp2_with fail
 refine (cm _).mono ?_
 rintro e w' ⟨rfl, rfl⟩
 clear cm
 go_wp2_with fail
 refine cc.mono ?_
 rintro e w1 ⟨rfl, C, B⟩
 have c0 := blk_int C (i := n * 13 + k) (by rw [cntL_len]; omega)
 rw [HCI.out] at c0
 have B1 := hid B
 clear cc C B HCI
 generalize hci : cntI n k = c at *
 have HC2 := hid hci
 clear hci
 go_wp2_with fail
 go_ret
 exact ⟨ret_i64 HC2.out.symm, B1.out⟩

def shL (x : Int) : Nat → Int
 | 0 => x
 | t + 1 => shL x t / 2
def bitsK (k : Nat) : Nat := (List.range 40).findIdx fun t => decide (shL (cntI 4 k - 1) t ≤ 0)
theorem bitsK_all : ∀ k, k < 13 → bitsK k ≤ 30 ∧ 0 < cntI 4 k ∧ cntI 4 k < 1000000 ∧ shL (cntI 4 k - 1) (bitsK k) ≤ 0 ∧ ∀ t, t < bitsK k → 0 < shL (cntI 4 k - 1) t ∧ shL (cntI 4 k - 1) t < 1000000 := by decide +kernel

set_option maxHeartbeats 2000000 in
theorem pvqBits_calls (k : Nat) (w : World) (hk : k ≤ 12) : Calls Tryz.prog 64 #[.int .i64 k] w fun e w' => e = .returned (.int .i64 (bitsK k)) ∧ Below w.heap.size w w' := by
 obtain ⟨hb, h0, h1, he, ht⟩ := bitsK_all k (by omega)
 have cc := pvqCount_calls 4 k w (by omega) hk
 rw [show ((4 : Nat) : Int) = 4 from rfl] at cc
 generalize cntI 4 k = c at *
 have i0 : IntKind.i64.wrap (c - 1) = c - 1 := IntWalk.i64_in _ (by omega)
 generalize bitsK k = T at *
 have HE := hid he
 have HT := hid ht
 clear he ht
 go_enter Tryz.func64, Tryz.ntmps64
 go_wp2_with fail
 refine cc.mono ?_
 rintro e w1 ⟨rfl, B⟩
 have B1 := hid B
 clear cc B
 go_wp2_with fail
 go_loopg [3, 4] T (fun gg s3 s4 wr => ∃ t : Nat, t ≤ T ∧ T - t ≤ gg ∧ s3 = .int .i64 t ∧ s4 = .int .i64 (shL (c - 1) t) ∧ Aside (Below w.heap.size w wr))
 case atStart => exact ⟨0, Nat.zero_le _, by omega, rfl, rfl, B1.out⟩
 case round =>
  clear B1
  obtain ⟨t, htT, hgt, rfl, rfl, B⟩ := hrel
  have HN := hid (show shL (c - 1) (t + 1) = shL (c - 1) t / 2 from rfl)
  by_cases hlt : t < T
  · obtain ⟨p0, p1⟩ := HT.out t hlt
    generalize shL (c - 1) t = x at *
    have hT30 : (t : Int) < 30 := by omega
    go_wp2_with fail
    go_roundg (T - (t + 1))
    case measure => omega
    case rel => exact ⟨t + 1, by omega, by omega, by go_num, by rw [HN.out], B.out⟩
  · obtain rfl : t = T := by omega
    have hx := HE.out
    generalize shL (c - 1) t = x at *
    go_wp2_with fail
    go_ret
    exact ⟨rfl, B.out⟩

def sizeI (x : Int) : Int := if x < -12 ∨ 12 < x then 13 else if x < 0 then -x else x
theorem sizeI_in (x : Int) : 0 ≤ sizeI x ∧ sizeI x ≤ 13 := by unfold sizeI; split <;> (try split) <;> omega
theorem pvqSize_calls (x : Int) (w : World) : Calls Tryz.prog 70 #[.int .i64 x] w fun e w' => e = .returned (.int .i64 (sizeI x)) ∧ w = w' := by
 go_enter Tryz.func70, Tryz.ntmps70
 by_cases h0 : x < -12
 · have HX := hid (show sizeI x = 13 by unfold sizeI; rw [if_pos (Or.inl h0)])
   go_wp2_with fail
   go_ret
   exact ⟨ret_i64 HX.out.symm, rfl⟩
 · by_cases h1 : 12 < x
   · have HX := hid (show sizeI x = 13 by unfold sizeI; rw [if_pos (Or.inr h1)])
     go_wp2_with fail
     go_ret
     exact ⟨ret_i64 HX.out.symm, rfl⟩
   · have i0 : IntKind.i64.wrap (-x) = -x := IntWalk.i64_in _ (by omega)
     go_wp2_with fail
     all_goals (
      go_ret
      exact ⟨ret_i64 (by unfold sizeI; rw [if_neg (by omega)]; split <;> omega), rfl⟩)
end Go.Proofs.YtiigipnfnfpepaaGreatDoor
namespace Go.Proofs.YtiigipnfnfpepaaGreatDoor
open Go.RowKit

def Row (w : World) (g : Nat) (ys : List Int) : Prop := ∀ i, i < ys.length → w.cell? ⟨g, i, none⟩ = some (.int .i64 (ys.getD i 0))
theorem row_blk {w : World} {g : Nat} {t : TypeId} {ys : List Int} (h : Blk w g t (ints ys)) : Row w g ys := fun _ hi => blk_int h hi
theorem row_drew {w : World} {g : Nat} {ys : List Int} (h : Row w g ys) : Row w.drew g ys := h
def sumTo' (ys : List Int) : Nat → Int
 | 0 => 0
 | k + 1 => sumTo' ys k + sizeI (ys.getD k 0)
def pulsesI (ys : List Int) : Int := min (sumTo' ys ys.length) 13
theorem sumTo'_in (ys : List Int) : ∀ k, 0 ≤ sumTo' ys k ∧ sumTo' ys k ≤ 13 * k
 | 0 => ⟨Int.le_refl _, Int.le_refl _⟩
 | k + 1 => by
  have := sumTo'_in ys k
  have := sizeI_in (ys.getD k 0)
  unfold sumTo'
  omega

set_option maxHeartbeats 2000000 in
theorem pulses_calls (ys : List Int) (g c : Nat) (w : World) (hl : ys.length ≤ 8) (hr : Row w g ys) : Calls Tryz.prog 39 #[.slice (some ⟨g, 0, none⟩) ys.length c] w fun e w' => e = .returned (.int .i64 (pulsesI ys)) ∧ w = w' := by
 have HR := hid hr
 have HP := hid (show min (sumTo' ys ys.length) 13 = pulsesI ys from rfl)
 obtain ⟨n, hn⟩ : ∃ n, n = ys.length := ⟨_, rfl⟩
 rw [← hn] at hl HP ⊢
 have HN := hid hn
 clear hr hn
 have n8 : (n : Int) ≤ 8 := by omega
 go_enter Tryz.func39, Tryz.ntmps39
 go_wp2_with fail
 go_loopg [3, 11] n (fun gg s3 s11 wr => ∃ k : Nat, k ≤ n ∧ n - k ≤ gg ∧ s11 = .int .i64 k ∧ s3 = .int .i64 (sumTo' ys k) ∧ w = wr)
 case atStart => exact ⟨0, Nat.zero_le _, by omega, rfl, rfl, rfl⟩
 case round =>
  obtain ⟨k, hk, hgk, rfl, rfl, rfl⟩ := hrel
  by_cases hlt : k < n
  · have hkz : (k : Int) < n := by omega
    have hk0 : (0 : Int) ≤ k := by omega
    have cx := HR.out k (by rw [← HN.out]; exact hlt)
    have HS := hid (show sumTo' ys (k + 1) = sumTo' ys k + sizeI (ys.getD k 0) from rfl)
    obtain ⟨s0, s1⟩ := sumTo'_in ys k
    generalize sumTo' ys k = s at *
    generalize ys.getD k 0 = y at *
    have cs := fun W => pvqSize_calls y W
    obtain ⟨z0, z1⟩ := sizeI_in y
    generalize sizeI y = z at *
    have i0 : IntKind.i64.wrap (s + z) = s + z := IntWalk.i64_in _ (by omega)
    go_wp2_with fail
    refine (cs _).mono ?_
    rintro e w' ⟨rfl, rfl⟩
    clear cs cx
    go_wp2_with fail
    go_roundg (n - (k + 1))
    case measure => omega
    case rel => exact ⟨k + 1, by omega, by omega, by go_num, by rw [HS.out], rfl⟩
  · obtain rfl : n = k := by omega
    generalize sumTo' ys n = s at *
    go_wp2_with fail
    all_goals (
     go_ret
     exact ⟨ret_i64 (by rw [← HP.out]; omega), rfl⟩)
end Go.Proofs.YtiigipnfnfpepaaGreatDoor
namespace Go.Proofs.YtiigipnfnfpepaaGreatDoor
open Go.RowKit

theorem owns_ints {w : World} {base n : Nat} {v : Value} {zs : List Int} (h : w.ownsRow base 3 1 v n (zs.map (Value.int .i64))) (hn : 0 < n) :
 ∃ g c, v = .slice (some ⟨g, 0, none⟩) n c ∧ n ≤ c ∧ base ≤ g ∧ g < w.heap.size ∧ zs.length = n ∧ Row w g zs := by
 have hl := h.1
 rw [List.length_map] at hl
 obtain ⟨_, ⟨_, h2⟩ | ⟨g, cap, cur, rfl, h1, h2, h3, h4, h5, h6⟩⟩ := h
 · omega
 · refine ⟨g, cap, rfl, by omega, h1, (Array.getElem?_eq_some_iff.1 h2).1, by omega, fun j hj => ?_⟩
   have h7 := congrArg (fun l : List Value => l[j]?) h6
   simp only [List.getElem?_take, List.getElem?_map, Array.getElem?_toList] at h7
   rw [if_pos (by omega), List.getElem?_eq_getElem (by omega)] at h7
   rw [List.getD_eq_getElem?_getD, List.getElem?_eq_getElem (by omega)]
   simpa [World.cell?, h2] using h7

def numsL : Nat → List Int
 | 0 => [0]
 | k + 1 => numsL k ++ [(k : Int) + 1, -((k : Int) + 1)]
theorem numsL_len : ∀ k, (numsL k).length = 2 * k + 1
 | 0 => rfl
 | k + 1 => by rw [numsL, List.length_append, numsL_len k]; simp; omega
theorem mem_numsL {x : Int} : ∀ {k : Nat}, -(k : Int) ≤ x → x ≤ k → x ∈ numsL k
 | 0, h0, h1 => by
  have : x = 0 := by omega
  subst this
  exact List.mem_singleton.2 rfl
 | k + 1, h0, h1 => by
  rw [numsL, List.mem_append]
  by_cases h : -(k : Int) ≤ x ∧ x ≤ k
  · exact .inl (mem_numsL h.1 h.2)
  · refine .inr ?_
    simp only [List.mem_cons, List.not_mem_nil, or_false]
    omega
theorem numsL_mem {x : Int} : ∀ {k : Nat}, x ∈ numsL k → -(k : Int) ≤ x ∧ x ≤ k
 | 0, h => by
  rw [numsL, List.mem_singleton] at h
  omega
 | k + 1, h => by
  rw [numsL, List.mem_append] at h
  rcases h with h | h
  · have := numsL_mem h
    omega
  · simp only [List.mem_cons, List.not_mem_nil, or_false] at h
    omega

set_option maxHeartbeats 2000000 in
theorem numbers_calls (k : Nat) (w : World) (hk : k ≤ 1000) : Calls Tryz.prog 109 #[.int .i64 k] w fun e w' => ∃ g c, e = .returned (.slice (some ⟨g, 0, none⟩) (2 * k + 1) c) ∧ 2 * k + 1 ≤ c ∧ w.heap.size ≤ g ∧ Row w' g (numsL k) ∧ Below w.heap.size w w' := by
 obtain ⟨inf, hinf, hzr, hsz, hby⟩ := info_parts (P := Tryz.prog) (e := 3) (z := .int .i64 0) (size := 1) (bytes := 8) (by kernel_rfl)
 have HF := hid (And.intro hinf (And.intro hzr (And.intro hsz hby)))
 have B0 := hid ((Below.refl w.heap.size w).alloc (Nat.le_refl _) (.cells #[.int .i64 0] 3))
 have O0 : (w.alloc (.cells #[.int .i64 0] 3)).ownsRow w.heap.size 3 1 (.slice (some ⟨w.heap.size, 0, none⟩) 1 1) 1 ((numsL 0).map (Value.int .i64)) :=
  ⟨rfl, .inr ⟨_, _, _, rfl, Nat.le_refl _, blk_new w 3 #[.int .i64 0], Nat.le_refl _, by unfold maxLen; omega, rfl, rfl⟩⟩
 have HO := hid O0
 clear hinf hzr hsz hby O0
 have kz : (k : Int) ≤ 1000 := by omega
 go_enter Tryz.func109, Tryz.ntmps109
 go_wp2_with fail
 generalize w.alloc (.cells #[.int .i64 0] 3) = w1 at *
 go_loopg [3, 4] k (fun gg s3 s4 wr => ∃ j : Nat, j ≤ k ∧ k - j ≤ gg ∧ s4 = .int .i64 ((j : Int) + 1) ∧ Aside (Below w.heap.size w wr) ∧ Aside (wr.ownsRow w.heap.size 3 1 s3 (2 * j + 1) ((numsL j).map (Value.int .i64))))
 case atStart => exact ⟨0, Nat.zero_le _, by omega, rfl, B0.out, HO.out⟩
 case round =>
  clear B0 HO
  obtain ⟨j, hj, hgj, rfl, B, O⟩ := hrel
  have hs := B.out.size
  by_cases hlt : j < k
  · have hjz : (j : Int) + 1 ≤ k := by omega
    have hj0 : (0 : Int) ≤ j := by omega
    have i0 : IntKind.i64.wrap ((j : Int) + 1 + 1) = (j : Int) + 1 + 1 := IntWalk.i64_in _ (by omega)
    have i1 : IntKind.i64.wrap (-((j : Int) + 1)) = -((j : Int) + 1) := IntWalk.i64_in _ (by omega)
    have HN := hid (show numsL (j + 1) = numsL j ++ [(j : Int) + 1, -((j : Int) + 1)] from rfl)
    have nn := blk_new wr 3 #[.int .i64 ((j : Int) + 1), .int .i64 (-((j : Int) + 1))]
    have hr := blk_range nn
    go_wp2_with (first | (at_builtin; refine wpList_append_own _ rfl _ _ 24 rfl w.heap.size 3 inf (.int .i64 0) 1 8 Tryz.underlying24 HF.out.1 HF.out.2.1 HF.out.2.2.1 HF.out.2.2.2 rfl (by decide) _ (2 * j + 1) _ rfl (O.out.alloc _) ⟨wr.heap.size, 0, none⟩ 2 2 [.int .i64 ((j : Int) + 1), .int .i64 (-((j : Int) + 1))] rfl rfl (fun q u hq => by rw [Addr.add_mid]; exact hr q u hq) (by simp [Value.oneCell']) (by unfold maxLen; omega) (by omega) (by simp; omega) ?_; intro v' w5 hown' hgrow _))
    have hol := O.out.lt
    have B5 := hid ((B.out.alloc hs (.cells #[.int .i64 ((j : Int) + 1), .int .i64 (-((j : Int) + 1))] 3)).grown hgrow (by simp; omega) (fun k e => by have := (hol k e).1; omega))
    have hm : (numsL j).map (Value.int .i64) ++ [.int .i64 ((j : Int) + 1), .int .i64 (-((j : Int) + 1))] = (numsL (j + 1)).map (Value.int .i64) := by rw [HN.out, List.map_append]; rfl
    rw [hm, show 2 * j + 1 + 2 = 2 * (j + 1) + 1 by omega] at hown'
    have O5 := hid hown'
    clear hown' hgrow hol O B nn hr hm
    go_roundg (k - (j + 1))
    case measure => omega
    case rel => exact ⟨j + 1, by omega, by omega, by go_num, B5.out, O5.out⟩
  · obtain rfl : k = j := by omega
    obtain ⟨g, c, rfl, hc, hg, _, _, R⟩ := owns_ints O.out (by omega)
    have R1 := hid R
    clear O R
    have hjz : (k : Int) < k + 1 := by omega
    go_wp2_with fail
    go_ret
    exact ⟨g, c, rfl, hc, hg, R1.out, B.out⟩
end Go.Proofs.YtiigipnfnfpepaaGreatDoor
namespace Go.Proofs.YtiigipnfnfpepaaGreatDoor
open Go.RowKit

def posL (zs : List Int) (x : Int) : Nat := zs.findIdx (· == x)
theorem posL_lt {zs : List Int} {x : Int} (h : x ∈ zs) : posL zs x < zs.length := List.findIdx_lt_length_of_exists ⟨x, h, by simp⟩
theorem posL_at {zs : List Int} {x : Int} (h : x ∈ zs) : zs.getD (posL zs x) 0 = x := by
 have hl := posL_lt h
 have := List.findIdx_getElem (p := (· == x)) (xs := zs) (w := hl)
 rw [List.getD_eq_getElem?_getD, List.getElem?_eq_getElem hl]
 exact eq_of_beq this
theorem posL_before {zs : List Int} {x : Int} {i : Nat} (h : i < posL zs x) (hl : i < zs.length) : zs.getD i 0 ≠ x := by
 have := List.not_of_lt_findIdx (p := (· == x)) (xs := zs) h
 rw [List.getD_eq_getElem?_getD, List.getElem?_eq_getElem hl]
 simpa using this

set_option maxHeartbeats 2000000 in
theorem slIndex_calls (zs : List Int) (x : Int) (g n c : Nat) (w : World) (hn : zs.length = n) (hl : n ≤ 10000) (hm : x ∈ zs) (hr : Row w g zs) : Calls Tryz.prog 128 #[.slice (some ⟨g, 0, none⟩) n c, .int .i64 x] w fun e w' => e = .returned (.int .i64 (posL zs x)) ∧ w = w' := by
 have HR := hid hr
 have HN := hid hn
 have hp := posL_lt hm
 have HA := hid (posL_at hm)
 have HB := hid (fun (i : Nat) (h : i < posL zs x) (hl : i < zs.length) => posL_before h hl)
 rw [hn] at hp
 generalize posL zs x = q at *
 clear hr hn hm
 go_enter Tryz.func128, Tryz.ntmps128
 go_wp2_with fail
 go_loopg [8] n (fun gg s8 wr => ∃ k : Nat, k ≤ q ∧ n - k ≤ gg ∧ s8 = .int .i64 k ∧ w = wr)
 case atStart => exact ⟨0, Nat.zero_le _, by omega, rfl, rfl⟩
 case round =>
  obtain ⟨k, hk, hgk, rfl, rfl⟩ := hrel
  have hkz : (k : Int) < n := by omega
  have hk0 : (0 : Int) ≤ k := by omega
  have cx := HR.out k (by rw [HN.out]; omega)
  by_cases hlt : k < q
  · have hne := HB.out k hlt (by rw [HN.out]; omega)
    generalize zs.getD k 0 = y at *
    have he : (x == y) = false := by simpa using fun h : x = y => hne h.symm
    clear hne
    go_wp2_with fail
    go_roundg (n - (k + 1))
    case measure => omega
    case rel => exact ⟨k + 1, by omega, by omega, by go_num, rfl⟩
  · obtain rfl : q = k := by omega
    rw [HA.out] at cx
    go_wp2_with fail
    go_ret
    exact ⟨rfl, rfl⟩
end Go.Proofs.YtiigipnfnfpepaaGreatDoor
namespace Go.Proofs.YtiigipnfnfpepaaGreatDoor
open Go.RowKit

def plN : List Int → Nat
 | [] => 0
 | y :: r => y.natAbs + plN r
theorem sumTo'_cons (y : Int) (r : List Int) : ∀ k, sumTo' (y :: r) (k + 1) = sizeI y + sumTo' r k
 | 0 => by simp [sumTo']
 | k + 1 => by
  rw [sumTo', sumTo'_cons y r k, sumTo', List.getD_cons_succ]
  omega
theorem sizeI_abs {x : Int} (h : sizeI x ≤ 12) : sizeI x = x.natAbs := by
 unfold sizeI at h ⊢
 split at h
 · omega
 · rw [if_neg (by assumption)]
   split <;> omega
theorem sizeI_of {x : Int} (h : x.natAbs ≤ 12) : sizeI x = x.natAbs := by
 unfold sizeI
 rw [if_neg (by omega)]
 split <;> omega
theorem sumTo'_pl : ∀ {ys : List Int}, sumTo' ys ys.length ≤ 12 → sumTo' ys ys.length = plN ys
 | [], _ => rfl
 | y :: r, h => by
  rw [List.length_cons, sumTo'_cons] at h ⊢
  have h1 := sizeI_in y
  have h2 := sumTo'_in r r.length
  rw [sumTo'_pl (by omega), sizeI_abs (by omega), plN]
  omega
theorem pulses_pl {ys : List Int} (h : pulsesI ys ≤ 12) : pulsesI ys = plN ys ∧ plN ys ≤ 12 := by
 unfold pulsesI at h ⊢
 have h1 : sumTo' ys ys.length ≤ 12 := by omega
 have h2 := sumTo'_pl h1
 omega
def idxAdd (n k : Nat) : List Int → Int → Int
 | [], i => i
 | z :: r, i => idxAdd n k r (IntKind.i64.wrap (i + cntI n (k - z.natAbs)))
def idxGo : List Int → Nat → Int → Int
 | [], _, i => i
 | y :: r, k, i => idxGo r (k - y.natAbs) (idxAdd r.length k ((numsL k).take (posL (numsL k) y)) i)
def indexI (ys : List Int) : Int := idxGo ys (plN ys) 0
theorem idxAdd_snoc (n k : Nat) (z : Int) : ∀ (l : List Int) (i : Int), idxAdd n k (l ++ [z]) i = IntKind.i64.wrap (idxAdd n k l i + cntI n (k - z.natAbs))
 | [], _ => rfl
 | _ :: r, _ => idxAdd_snoc n k z r _
theorem row_below {B : Nat} {w w' : World} {g : Nat} {ys : List Int} (h : Row w g ys) (hb : Below B w w') (hg : g < B) : Row w' g ys := fun i hi => by
 have := hb.block g hg
 have h1 := h i hi
 simp only [World.cell?] at h1 ⊢
 rw [this]
 exact h1
theorem drop_succ {ys : List Int} {a : Nat} (h : a < ys.length) : ys.drop a = ys.getD a 0 :: ys.drop (a + 1) := by
 rw [List.getD_eq_getElem?_getD, List.getElem?_eq_getElem h]
 exact List.drop_eq_getElem_cons h

set_option maxRecDepth 20000 in
set_option maxHeartbeats 4000000 in
theorem index_calls (ys : List Int) (g c : Nat) (w : World) (hl : ys.length ≤ 8) (hg : g < w.heap.size) (hp : pulsesI ys ≤ 12) (hr : Row w g ys) :
 Calls Tryz.prog 84 #[.slice (some ⟨g, 0, none⟩) ys.length c] w fun e w' => e = .returned (.tuple #[.int .i64 (indexI ys), .int .i64 0]) ∧ Below w.heap.size w w' := by
 have cp := pulses_calls ys g c w hl hr
 obtain ⟨e0, e1⟩ := pulses_pl hp
 rw [e0] at cp
 have cc := counts_calls w
 have HR := hid hr
 have HI := hid (show idxGo (ys.drop 0) (plN (ys.drop 0)) 0 = indexI ys from rfl)
 have HP := hid (show plN (ys.drop 0) = plN ys from rfl)
 clear hr hp e0
 obtain ⟨N, hN⟩ : ∃ N, N = ys.length := ⟨_, rfl⟩
 have HN := hid hN
 rw [← hN] at cp hl ⊢
 clear hN
 obtain ⟨K, hK⟩ : ∃ K, K = plN ys := ⟨_, rfl⟩
 rw [← hK] at cp e1 HP
 clear hK
 have K12 : (K : Int) ≤ 12 := by omega
 go_enter Tryz.func84, Tryz.ntmps84
 go_wp2_with fail
 refine cp.mono ?_
 rintro e w' ⟨rfl, rfl⟩
 clear cp
 go_wp2_with fail
 refine cc.mono ?_
 rintro e w1 ⟨rfl, C, B⟩
 have C1 := hid C
 have B1 := hid B
 have hh := blk_lt C
 clear cc C B
 go_wp2_with fail
 go_loopg [4, 6, 19] N (fun gg s4 s6 s19 wr => ∃ (a k : Nat) (i : Int), a ≤ N ∧ N - a ≤ gg ∧ s19 = .int .i64 a ∧ s4 = .int .i64 k ∧ s6 = .int .i64 i ∧ k ≤ 12 ∧ Aside (plN (ys.drop a) = k) ∧ Aside (idxGo (ys.drop a) k i = indexI ys) ∧ Aside (Below w.heap.size w wr) ∧ Aside (Blk wr w.heap.size 221 (ints cntL)))
 case atStart => exact ⟨0, K, 0, Nat.zero_le _, by omega, rfl, rfl, rfl, e1, HP.out, by rw [← HP.out]; exact HI.out, B1.out, C1.out⟩
 case round =>
  clear B1 C1 HI HP
  obtain ⟨a, k, i, ha, hga, rfl, rfl, rfl, hk, P, I, B, C⟩ := hrel
  have hs := blk_lt C.out
  by_cases hlt : a < N
  · have haz : (a : Int) < N := by omega
    have ha0 : (0 : Int) ≤ a := by omega
    have hd := drop_succ (ys := ys) (a := a) (by rw [← HN.out]; exact hlt)
    have hP := P.out
    have hI := I.out
    rw [hd] at hP hI
    have cx := (row_below HR.out B.out hg) a (by rw [← HN.out]; exact hlt)
    generalize ys.getD a 0 = y at *
    simp only [plN, idxGo] at hP hI
    have hyk : y.natAbs ≤ k := by omega
    have hym : y ∈ numsL k := mem_numsL (by omega) (by omega)
    have cn := numbers_calls k wr (by omega)
    have HM := hid hym
    have HPP := hid hP
    have HII := hid hI
    clear hd P I hym hP hI
    go_wp2_with fail
    refine cn.mono ?_
    rintro e w2 ⟨gl, cl, rfl, hcl, hgl, L, B2⟩
    have cs := slIndex_calls (numsL k) y gl (2 * k + 1) cl w2 (numsL_len k) (by omega) HM.out L
    have hpl := posL_lt HM.out
    rw [numsL_len] at hpl
    have C2 := hid (blk_below C.out B2 hs)
    have B3 := hid (bnext B.out B2)
    have HL := hid L
    clear cn C B B2 L cx
    generalize hj : posL (numsL k) y = j at *
    have HJ := hid hj
    clear hj
    go_wp2_with fail
    refine cs.mono ?_
    rintro e w' ⟨rfl, rfl⟩
    have hj0 : (0 : Int) ≤ j := by omega
    have hjc : (j : Int) ≤ cl := by omega
    go_wp2_with fail
    clear cs
    obtain ⟨R, hR⟩ : ∃ R, R = N - a - 1 := ⟨_, rfl⟩
    have hRN : (N : Int) = a + R + 1 := by omega
    have HRL := hid (show (ys.drop (a + 1)).length = R by rw [List.length_drop, ← HN.out]; omega)
    have HNL := hid (numsL_len k)
    have HRN := hid hRN
    clear hR hRN
    go_loopg [6, 32] j (fun gg s6 s32 wr => ∃ t : Nat, t ≤ j ∧ j - t ≤ gg ∧ s32 = .int .i64 t ∧ s6 = .int .i64 (idxAdd R k ((numsL k).take t) i) ∧ Aside (Below w.heap.size w wr) ∧ Aside (Blk wr w.heap.size 221 (ints cntL)) ∧ Aside (Row wr gl (numsL k)))
    case atStart => exact ⟨0, Nat.zero_le _, by omega, rfl, rfl, B3.out, C2.out, HL.out⟩
    case round =>
     clear B3 C2 HL
     obtain ⟨t, ht, hgt, rfl, rfl, B, C, L⟩ := hrel
     by_cases htl : t < j
     · have htz : (t : Int) < j := by omega
       have ht0 : (0 : Int) ≤ t := by omega
       have cz := L.out t (by rw [HNL.out]; omega)
       have HS := hid (show idxAdd R k ((numsL k).take (t + 1)) i = IntKind.i64.wrap (idxAdd R k ((numsL k).take t) i + cntI R (k - ((numsL k).getD t 0).natAbs)) by
        rw [← idxAdd_snoc, ← List.take_append_getElem (l := numsL k) (i := t) (by rw [HNL.out]; omega), List.getD_eq_getElem?_getD, List.getElem?_eq_getElem (by rw [HNL.out]; omega)]
        rfl)
       have hzm : (numsL k).getD t 0 ∈ numsL k := by
        rw [List.getD_eq_getElem?_getD, List.getElem?_eq_getElem (by rw [HNL.out]; omega)]
        exact List.getElem_mem _
       have hzk := numsL_mem hzm
       clear hzm
       generalize (numsL k).getD t 0 = z at *
       generalize idxAdd R k ((numsL k).take t) i = x at *
       have hzs := sizeI_of (x := z) (by omega)
       have cs := fun W => pvqSize_calls z W
       rw [hzs] at cs
       clear hzs
       obtain ⟨q, hq⟩ : ∃ q, q = z.natAbs := ⟨_, rfl⟩
       rw [← hq] at HS cs
       have hqk : q ≤ k := by omega
       clear hzk hq
       obtain ⟨p, hp⟩ : ∃ p, p = k - q := ⟨_, rfl⟩
       rw [← hp] at HS
       have hRN := HRN.out
       have ct := blk_int C.out (i := R * 13 + p) (by rw [cntL_len]; omega)
       rw [show cntL.getD (R * 13 + p) 0 = cntI R p from rfl] at ct
       generalize cntI R p = v at *
       have e1 : IntKind.i64.wrap ((N : Int) - a) = (R : Int) + 1 := by rw [IntWalk.i64_in _ (by omega)]; omega
       have e2 : IntKind.i64.wrap ((R : Int) + 1 - 1) = (R : Int) := by rw [IntWalk.i64_in _ (by omega)]; omega
       have e3 : IntKind.i64.wrap (R : Int) = (R : Int) := IntWalk.i64_in _ (by omega)
       have e4 : IntKind.i64.wrap ((k : Int) - q) = (p : Int) := by rw [IntWalk.i64_in _ (by omega)]; omega
       have r0 : (0 : Int) ≤ R := by omega
       have r9 : (R : Int) < 9 := by omega
       have p0 : (0 : Int) ≤ p := by omega
       have p13 : (p : Int) < 13 := by omega
       clear hp hqk hRN
       go_wp2_with fail
       refine plain_region (S := (fun L W => W.cell? ⟨w.heap.size, R * 13 + p, none⟩ = some (.int .i64 v))) (by kernel_rfl) (ct) (fun hHeld => ?_)
       clear hHeld
       refine aW 0 ct ?_
       refine aW 1 ct ?_
       refine aW 2 ct ?_
       refine aW 3 ct ?_
       refine aW 4 ct ?_
       refine aW 5 ct ?_
       refine aW 6 ct ?_
       refine aW 7 ct ?_
       refine aW 8 ct ?_
       refine aW 11 ct ?_
       refine aW 12 ct ?_
       refine aR 9 (fun K hK => ?_)
       go_simp
       refine (cs _).mono ?_
       rintro e w' ⟨rfl, rfl⟩
       refine hK.out _ _ (ct) (fun hHeld => ?_)
       clear hK K
       try simp only [Act.put, tA, tB, tC]
       clear hHeld
       refine aW 10 ct ?_
       refine aW 13 ct ?_
       refine aL 14 15 (fun _ _ _ k => k) ct ?_
       refine aW 15 ct ?_
       refine aW 16 ct ?_
       refine anyU_done (by kernel_rfl) ?_ _
       have B2 := hid (show Below w.heap.size w wr.drew from below_draws B.out 1)
       have C2 := hid (show Blk wr.drew w.heap.size 221 (ints cntL) from blk_draws C.out 1)
       have L2 := hid (show Row wr.drew gl (numsL k) from L.out)
       clear B C L ct cz e1 e2 e3 e4 cs
       generalize wr.drew = w5 at *
       go_wp2_with fail
       go_roundg (j - (t + 1))
       case measure => omega
       case rel => exact ⟨t + 1, by omega, by omega, by go_num, by rw [HS.out], B2.out, C2.out, L2.out⟩
     · obtain rfl : j = t := by omega
       have HT := hid (show idxGo (ys.drop (a + 1)) (k - y.natAbs) (idxAdd R k ((numsL k).take j) i) = indexI ys by rw [← HII.out, HRL.out])
       have hys := sizeI_of (x := y) (by omega)
       have cs := fun W => pvqSize_calls y W
       rw [hys] at cs
       have hPP := HPP.out
       generalize y.natAbs = q at *
       generalize idxAdd R k ((numsL k).take j) i = x at *
       have e4 : IntKind.i64.wrap ((k : Int) - q) = ((k - q : Nat) : Int) := by rw [IntWalk.i64_in _ (by omega)]; omega
       have HK := hid (show ((k - q : Nat) : Int) = (k : Int) - q by omega)
       rw [HK.out] at e4
       have HPD := hid (show plN (ys.drop (a + 1)) = k - q by omega)
       clear hys hPP HII HPP L htl
       go_wp2_with fail
       refine (cs _).mono ?_
       rintro e w' ⟨rfl, rfl⟩
       clear cs
       go_wp2_with fail
       go_roundg (N - (a + 1))
       case measure => omega
       case rel => exact ⟨a + 1, k - q, x, by omega, by omega, by go_num, by rw [HK.out], rfl, by omega, HPD.out, HT.out, B.out, C.out⟩
  · obtain rfl : a = N := by omega
    have hI := I.out
    have hd : ys.drop a = [] := List.drop_eq_nil_of_le (by rw [← HN.out]; exact Nat.le_refl _)
    rw [hd, show idxGo [] k i = i from rfl] at hI
    have HII := hid hI
    clear hI I P hd
    go_wp2_with fail
    go_ret2
    exact ⟨by rw [← HII.out]; rfl, B.out⟩
end Go.Proofs.YtiigipnfnfpepaaGreatDoor
namespace Go.Proofs.YtiigipnfnfpepaaGreatDoor
open Go.RowKit

def shC (r : Int) : Int := bits .and .i64 (wrap64 (r * 2)) 65535
def topC (r b : Int) : Int := bits .xor .i64 (r / 32768) b
def bitC (r b : Int) : Int := if topC r b = 1 then bits .xor .i64 (shC r) 4129 else shC r

set_option maxHeartbeats 1000000 in
theorem crcBit_calls (r b : Int) (g : Nat) (w : World) (hb : Blk w g 241 (ints [r])) :
 Calls Tryz.prog 159 #[.pointer (some ⟨g, 0, none⟩), .int .i64 b] w fun e w' => e = .returned (.tuple #[]) ∧ Blk w' g 241 (ints [bitC r b]) ∧ w.grownBy w' (some g) := by
 have c0 := blk_int hb (i := 0) (by simp)
 have f0 := blk_free hb 0
 rw [show [r].getD 0 0 = r from rfl] at c0
 have b1 := blk_set_int hb 0 (shC r)
 rw [show [r].set 0 (shC r) = [shC r] from rfl] at b1
 have c1 := blk_int b1 (i := 0) (by simp)
 have f1 := blk_free b1 0
 rw [show [shC r].getD 0 0 = shC r from rfl] at c1
 have b2 := blk_set_int b1 0 (bits .xor .i64 (shC r) 4129)
 rw [show [shC r].set 0 (bits .xor .i64 (shC r) 4129) = [bits .xor .i64 (shC r) 4129] from rfl] at b2
 have g1 := grownBy_cell w g 0 (.int .i64 (shC r))
 have g2 := grown_join g1 (grownBy_cell (w.setCell ⟨g, 0, none⟩ (.int .i64 (shC r))) g 0 (.int .i64 (bits .xor .i64 (shC r) 4129)))
 have HB := hid (show bitC r b = if topC r b = 1 then bits .xor .i64 (shC r) 4129 else shC r from rfl)
 have hsh : bits .and .i64 (wrap64 (r * 2)) 65535 = shC r := rfl
 have htp : bits .xor .i64 (r / 32768) b = topC r b := rfl
 have H1 := hid (And.intro b1 g1)
 have H2 := hid (And.intro b2 g2)
 clear hb b1 b2 g1 g2
 generalize shC r = s at *
 generalize topC r b = t at *
 go_enter Tryz.func159, Tryz.ntmps159
 by_cases ht : t = 1
 · rw [if_pos ht] at HB
   go_wp2_with fail
   go_end0
   rw [HB.out]
   exact ⟨rfl, H2.out.1, H2.out.2⟩
 · rw [if_neg ht] at HB
   go_wp2_with fail
   go_end0
   rw [HB.out]
   exact ⟨rfl, H1.out.1, H1.out.2⟩

def byteC (r b : Int) : Nat → Int
 | 0 => r
 | k + 1 => bitC (byteC r b k) (bits .and .i64 (b / 2 ^ (7 - k)) 1)
def textC (r : Int) (l : List UInt8) : Nat → Int
 | 0 => r
 | k + 1 => byteC (textC r l k) ((l.getD k 0).toNat : Int) 8

set_option maxHeartbeats 4000000 in
theorem more_calls (l : List UInt8) (w : World) (hl : l.length ≤ 10000) :
 Calls Tryz.prog 140 #[.int .i64 65535, .string (str l)] w fun e w' => e = .returned (.int .i64 (textC 65535 l l.length)) ∧ Below w.heap.size w w' := by
 have HB0 := hid (show Blk (w.alloc (.cells #[.int .i64 65535] 241)) w.heap.size 241 (ints [textC 65535 l 0]) from blk_new w _ _)
 have BB := hid ((Below.refl w.heap.size w).alloc (Nat.le_refl _) (.cells #[.int .i64 65535] 241))
 have hsz := str_size l
 have hg := fun (k : Nat) (h : k < (str l).size) => str_get l h
 have HG := hid hg
 obtain ⟨n, hn⟩ : ∃ n, n = l.length := ⟨_, rfl⟩
 rw [← hn] at hsz hl ⊢
 have HN := hid hn
 clear hn hg
 go_enter Tryz.func140, Tryz.ntmps140
 go_wp2_with fail
 go_loopg [17] n (fun gg s17 wr => ∃ k : Nat, k ≤ n ∧ n - k ≤ gg ∧ s17 = .int .i64 k ∧ Aside (Below w.heap.size w wr) ∧ Aside (Blk wr w.heap.size 241 (ints [textC 65535 l k])))
 case atStart => exact ⟨0, Nat.zero_le _, by omega, rfl, BB.out, HB0.out⟩
 case round =>
  clear BB HB0
  obtain ⟨k, hk, hgk, rfl, B, O⟩ := hrel
  by_cases hlt : k < n
  · have hkz : (k : Int) < n := by omega
    have hk0 : (0 : Int) ≤ k := by omega
    go_wp2_with fail
    have hks : k < (str l).size := by rw [hsz]; exact hlt
    have hgx := HG.out k hks
    have HT := hid (show textC 65535 l (k + 1) = byteC (textC 65535 l k) ((l.getD k 0).toNat : Int) 8 from rfl)
    generalize l.getD k 0 = y at *
    have O1 := hid (show Blk wr w.heap.size 241 (ints [byteC (textC 65535 l k) (y.toNat : Int) 0]) from O.out)
    clear O
    generalize textC 65535 l k = r at *
    have wy : wrap64 (y.toNat : Int) = (y.toNat : Int) := by have := y.toNat_lt; unfold wrap64; omega
    go_loopg [8] 8 (fun gg s8 wr => ∃ j : Nat, j ≤ 8 ∧ 8 - j ≤ gg ∧ s8 = .int .i64 (7 - (j : Int)) ∧ Aside (Below w.heap.size w wr) ∧ Aside (Blk wr w.heap.size 241 (ints [byteC r (y.toNat : Int) j])))
    case atStart => exact ⟨0, Nat.zero_le _, by omega, rfl, B.out, O1.out⟩
    case round =>
     clear B O1
     obtain ⟨j, hj, hgj, rfl, B, O⟩ := hrel
     by_cases hjl : j < 8
     · obtain ⟨m, hm⟩ : ∃ m, m = 7 - j := ⟨_, rfl⟩
       have HJ := hid (show (7 : Int) - (j : Int) = m by omega)
       have HJ1 := hid (show (m : Int) - 1 = 7 - ((j + 1 : Nat) : Int) by omega)
       have HC := hid (show byteC r (y.toNat : Int) (j + 1) = bitC (byteC r (y.toNat : Int) j) (bits .and .i64 ((y.toNat : Int) / 2 ^ m) 1) by rw [byteC, hm])
       rw [HJ.out]
       have cb := fun v => crcBit_calls (byteC r (y.toNat : Int) j) v w.heap.size wr O.out
       have hm0 : (0 : Int) ≤ m := by omega
       have hm7 : (m : Int) ≤ 7 := by omega
       have i0 : IntKind.i64.wrap ((m : Int) - 1) = (m : Int) - 1 := IntWalk.i64_in _ (by omega)
       clear hm
       generalize byteC r (y.toNat : Int) j = x at *
       go_wp2_with fail
       refine (cb _).mono ?_
       rintro e w2 ⟨rfl, O2, G2⟩
       have B2 := hid (below_grown B.out G2 B.out.size (Nat.le_refl _))
       rw [← HC.out] at O2
       have O3 := hid O2
       clear cb O2 G2 B O HC
       go_wp2_with fail
       go_roundg (8 - (j + 1))
       case measure => omega
       case rel => exact ⟨j + 1, by omega, by omega, by rw [← HJ1.out], B2.out, O3.out⟩
     · obtain rfl : j = 8 := by omega
       have O2 := O.out
       rw [← HT.out] at O2
       have O3 := hid O2
       clear O O2
       rw [show (7 : Int) - ((8 : Nat) : Int) = -1 from rfl]
       go_wp2_with fail
       go_roundg (n - (k + 1))
       case measure => omega
       case rel => exact ⟨k + 1, by omega, by omega, by go_num, B.out, O3.out⟩
  · obtain rfl : n = k := by omega
    have cx := blk_int O.out (i := 0) (by simp)
    have hx : [textC 65535 l n].getD 0 0 = textC 65535 l n := rfl
    rw [hx] at cx
    clear O hx
    generalize hr : textC 65535 l n = r at *
    have HT := hid hr
    clear hr
    go_wp2_with fail
    go_ret
    exact ⟨ret_i64 HT.out.symm, B.out⟩

def crcI (l : List UInt8) : Int := textC 65535 l l.length
theorem crcSum_calls (l : List UInt8) (w : World) (hl : l.length ≤ 10000) : Calls Tryz.prog 102 #[.string (str l)] w fun e w' => e = .returned (.int .i64 (crcI l)) ∧ Below w.heap.size w w' := by
 have cm := more_calls l w hl
 rw [show textC 65535 l l.length = crcI l from rfl] at cm
 go_enter Tryz.func102, Tryz.ntmps102
 go_wp2_with fail
 refine cm.mono ?_
 rintro e w1 ⟨rfl, B⟩
 have B1 := hid B
 clear cm B
 go_wp2_with fail
 go_ret
 exact ⟨rfl, B1.out⟩
theorem str_append (a b : List UInt8) : str (a ++ b) = str a ++ str b := by
 apply ByteArray.ext
 simp [str]
def sealL (l : List UInt8) : List UInt8 := l ++ [valB (crcI l / 256 % 256), valB (crcI l % 256)]
theorem sealL_len (l : List UInt8) : (sealL l).length = l.length + 2 := by simp [sealL]

set_option maxHeartbeats 1000000 in
theorem seal_calls (l : List UInt8) (w : World) (hl : l.length ≤ 10000) : Calls Tryz.prog 55 #[.string (str l)] w fun e w' => e = .returned (.string (str (sealL l))) ∧ Below w.heap.size w w' := by
 have cs := crcSum_calls l w hl
 have HS := hid (show sealL l = l ++ [valB (crcI l / 256 % 256), valB (crcI l % 256)] from rfl)
 generalize crcI l = x at *
 go_enter Tryz.func55, Tryz.ntmps55
 go_wp2_with fail
 refine cs.mono ?_
 rintro e w1 ⟨rfl, B⟩
 have B1 := hid (B.alloc B.size (.cells #[.int .u8 (x / 256 % 256), .int .u8 (x % 256)] 5))
 have nn := hid (show Blk (w1.alloc (.cells #[.int .u8 (x / 256 % 256), .int .u8 (x % 256)] 5)) w1.heap.size 5 (bytesV [valB (x / 256 % 256), valB (x % 256)]) from by
  rw [u8_val, u8_val x]
  exact blk_new _ _ _)
 have hc := conv_part nn.out 0 2 2 (by simp)
 clear cs B
 go_wp2_with fail
 go_ret
 exact ⟨by rw [HS.out, str_append]; rfl, B1.out⟩
end Go.Proofs.YtiigipnfnfpepaaGreatDoor
