/- Contracts of the references of layer 17. -/
import Derived.Test.YtnmhbonheaoldaaMaskG
namespace Go.Proofs.Ytnmhbonheaoldaa
open Go.RowKit

/-- the first k numbers are not too great -/
def okTo (zs : List Int) (k : Nat) : Bool := (List.range k).all fun i => !greatB (zs.getD i 0)
theorem okTo_succ (zs : List Int) (k : Nat) : okTo zs (k + 1) = (okTo zs k && !greatB (zs.getD k 0)) := by
  simp [okTo, List.range_succ]
theorem heldTo_ok (y z : List Int) (k : Nat) : heldTo y z k = (okTo y k && okTo z k) := by
  induction k with
  | zero => rfl
  | succ k ih =>
    rw [heldTo_succ, okTo_succ, okTo_succ, ih]
    cases okTo y k <;> cases okTo z k <;> cases greatB (y.getD k 0) <;> cases greatB (z.getD k 0) <;> rfl
theorem okTo_le {zs : List Int} {k n : Nat} (h : k ≤ n) (hh : okTo zs k = false) : okTo zs n = false := by
  rw [Bool.eq_false_iff] at hh ⊢
  intro hn
  apply hh
  simp only [okTo, List.all_eq_true, List.mem_range] at hn ⊢
  exact fun i hi => hn i (by omega)
theorem rightTo_le {zs : List Int} {k n : Nat} (h : k ≤ n) (hh : rightTo zs k = false) : rightTo zs n = false := by
  rw [Bool.eq_false_iff] at hh ⊢
  intro hn
  apply hh
  simp only [rightTo, List.all_eq_true, List.mem_range] at hn ⊢
  exact fun i hi => hn i (by omega)

set_option maxHeartbeats 1000000 in
theorem refGreat_calls (zs : List Int) (w : World) (hl : zs.length = 4) :
    Calls Try.prog 40 #[.agg (ints zs)] w fun e w' => e = .returned (.bool (!okTo zs 4)) ∧ Below w.heap.size w w' := by
  have b0 := blk_new w 28 (ints zs)
  have hA := (Below.refl _ w).alloc (Nat.le_refl _) (.cells (ints zs) 28)
  have B0 := Lib.hid b0
  have HA := Lib.hid hA
  clear b0 hA
  go_enter Try.func40, Try.ntmps40
  go_wp2_with fail
  go_loopg [3] 4 (fun gg s3 wr => ∃ kk : Nat, kk ≤ 4 ∧ 4 - kk ≤ gg ∧ s3 = .int .i64 kk ∧ Aside (wr = w.alloc (.cells (ints zs) 28)) ∧ Aside (okTo zs kk = true))
  case atStart => exact ⟨0, Nat.zero_le _, by omega, rfl, rfl, rfl⟩
  case round =>
    obtain ⟨kk, hkk, hgk, rfl, hW, H⟩ := hrel
    obtain rfl := hW.out
    clear hW
    by_cases hlt : kk < 4
    · have hltz : (kk : Int) < 4 := by omega
      have c0 := blk_int B0.out (i := kk) (by omega)
      have hsu := Lib.hid (okTo_succ zs kk)
      generalize zs.getD kk 0 = s at *
      by_cases h1 : s < -1048576
      · have hres : okTo zs 4 = false := okTo_le (show kk + 1 ≤ 4 by omega) (by rw [hsu.out, H.out]; simp [greatB, h1])
        have HR := Lib.hid hres
        clear hres
        go_wp2_with fail
        go_ret
        exact ⟨by rw [HR.out]; rfl, HA.out⟩
      · by_cases h2 : 1048576 < s
        · have hres : okTo zs 4 = false := okTo_le (show kk + 1 ≤ 4 by omega) (by rw [hsu.out, H.out]; simp [greatB, h2])
          have HR := Lib.hid hres
          clear hres
          go_wp2_with fail
          go_ret
          exact ⟨by rw [HR.out]; rfl, HA.out⟩
        · have hres : okTo zs (kk + 1) = true := by rw [hsu.out, H.out]; simp [greatB]; omega
          have HR := Lib.hid hres
          clear hres
          go_wp2_with fail
          go_roundg (4 - (kk + 1))
          case measure => omega
          case rel => exact ⟨kk + 1, by omega, by omega, by go_num, rfl, HR.out⟩
    · have hltz : ¬ (kk : Int) < 4 := by omega
      obtain rfl : kk = 4 := by omega
      go_wp2_with fail
      go_ret
      exact ⟨by rw [H.out]; rfl, HA.out⟩

set_option maxHeartbeats 1000000 in
theorem refRight_calls (zs : List Int) (w : World) (hl : zs.length = 8) :
    Calls Try.prog 42 #[.agg (ints zs)] w fun e w' => e = .returned (.bool (rightB zs)) ∧ Below w.heap.size w w' := by
  have b0 := blk_new w 36 (ints zs)
  have hA := (Below.refl _ w).alloc (Nat.le_refl _) (.cells (ints zs) 36)
  have B0 := Lib.hid b0
  have HA := Lib.hid hA
  clear b0 hA
  rw [← rightTo_all hl]
  go_enter Try.func42, Try.ntmps42
  go_wp2_with fail
  go_loopg [3] 8 (fun gg s3 wr => ∃ kk : Nat, kk ≤ 8 ∧ 8 - kk ≤ gg ∧ s3 = .int .i64 kk ∧ Aside (wr = w.alloc (.cells (ints zs) 36)) ∧ Aside (rightTo zs kk = true))
  case atStart => exact ⟨0, Nat.zero_le _, by omega, rfl, rfl, rfl⟩
  case round =>
    obtain ⟨kk, hkk, hgk, rfl, hW, H⟩ := hrel
    obtain rfl := hW.out
    clear hW
    by_cases hlt : kk < 8
    · have hltz : (kk : Int) < 8 := by omega
      have c0 := blk_int B0.out (i := kk) (by omega)
      have hsu := Lib.hid (rightTo_succ zs kk)
      generalize zs.getD kk 0 = s at *
      by_cases h1 : s < 0
      · have hres : rightTo zs 8 = false := rightTo_le (show kk + 1 ≤ 8 by omega) (by rw [hsu.out, H.out]; simp; omega)
        have HR := Lib.hid hres
        clear hres
        go_wp2_with fail
        go_ret
        exact ⟨by rw [HR.out]; rfl, HA.out⟩
      · by_cases h2 : 15 < s
        · have hres : rightTo zs 8 = false := rightTo_le (show kk + 1 ≤ 8 by omega) (by rw [hsu.out, H.out]; simp; omega)
          have HR := Lib.hid hres
          clear hres
          go_wp2_with fail
          go_ret
          exact ⟨by rw [HR.out]; rfl, HA.out⟩
        · have hres : rightTo zs (kk + 1) = true := by rw [hsu.out, H.out]; simp; omega
          have HR := Lib.hid hres
          clear hres
          go_wp2_with fail
          go_roundg (8 - (kk + 1))
          case measure => omega
          case rel => exact ⟨kk + 1, by omega, by omega, by go_num, rfl, HR.out⟩
    · have hltz : ¬ (kk : Int) < 8 := by omega
      obtain rfl : kk = 8 := by omega
      go_wp2_with fail
      go_ret
      exact ⟨by rw [H.out]; rfl, HA.out⟩

set_option maxHeartbeats 1000000 in
theorem refFar_calls (ys zs : List Int) (w : World) (hly : ys.length = 4) (hlz : zs.length = 4) (hh : heldTo ys zs 4 = true) :
    Calls Try.prog 41 #[.agg (ints ys), .agg (ints zs)] w fun e w' => e = .returned (.int .i64 (farTo ys zs 4)) ∧ Below w.heap.size w w' := by
  have b0 := blk_alloc (blk_new w 28 (ints ys)) (.cells (ints zs) 28)
  have b1 := blk_new (w.alloc (.cells (ints ys) 28)) 28 (ints zs)
  rw [show (w.alloc (.cells (ints ys) 28)).heap.size = w.heap.size + 1 by simp] at b1
  have hA : Below w.heap.size w ((w.alloc (.cells (ints ys) 28)).alloc (.cells (ints zs) 28)) := ((Below.refl _ w).alloc (Nat.le_refl _) _).alloc (by simp) _
  have B0 := Lib.hid b0
  have B1 := Lib.hid b1
  have HH := Lib.hid hh
  clear b0 b1 hh
  go_enter Try.func41, Try.ntmps41
  go_wp2_with fail
  go_loopg [5, 6] 4 (fun gg s5 s6 wr => ∃ kk : Nat, kk ≤ 4 ∧ 4 - kk ≤ gg ∧ s6 = .int .i64 kk ∧ s5 = .int .i64 (farTo ys zs kk) ∧ Aside (Below w.heap.size w wr) ∧ Aside (Blk wr w.heap.size 28 (ints ys) ∧ Blk wr (w.heap.size + 1) 28 (ints zs)))
  case atStart => exact ⟨0, Nat.zero_le _, by omega, rfl, rfl, hA, ⟨B0.out, B1.out⟩⟩
  case round =>
    clear hA B0 B1
    obtain ⟨kk, hkk, hgk, rfl, rfl, B, K⟩ := hrel
    by_cases hlt : kk < 4
    · have hltz : (kk : Int) < 4 := by omega
      have hk0 : 0 ≤ (kk : Int) := by omega
      have cy := blk_int K.out.1 (i := kk) (by omega)
      have cz := blk_int K.out.2 (i := kk) (by omega)
      have hkh : heldTo ys zs kk = true := by
        cases hq : heldTo ys zs kk with
        | true => rfl
        | false => have := heldTo_le hkk hq; rw [HH.out] at this; cases this
      have hkg : (!greatB (ys.getD kk 0) && !greatB (zs.getD kk 0)) = true := by
        cases hq : heldTo ys zs (kk + 1) with
        | true => rw [heldTo_succ, hkh, Bool.true_and] at hq; exact hq
        | false => have := heldTo_le (show kk + 1 ≤ 4 by omega) hq; rw [HH.out] at this; cases this
      rw [greatB_not, decide_eq_true_iff] at hkg
      have hfb := farTo_bd hkh
      have hfu := Lib.hid (show farTo ys zs (kk + 1) = farTo ys zs kk + gapZ (ys.getD kk 0) (zs.getD kk 0) from rfl)
      clear hkh
      generalize ys.getD kk 0 = y at *
      generalize zs.getD kk 0 = z at *
      generalize farTo ys zs kk = n at *
      have hw1 : IntKind.i64.wrap (y - z) = y - z := IntWalk.i64_in _ ⟨by omega, by omega⟩
      have hg := gapZ_nonneg y z
      have hg2 : gapZ y z ≤ 2097152 := by unfold gapZ; omega
      have hw3 : IntKind.i64.wrap (n + gapZ y z) = n + gapZ y z := IntWalk.i64_in _ ⟨by omega, by omega⟩
      have cs := fun W => refSize_calls (y - z) W (by omega) (by omega)
      rw [show max (y - z) (-(y - z)) = gapZ y z by unfold gapZ; omega] at cs
      generalize gapZ y z = q at *
      go_wp2_with fail
      go_quiet ((go_at_call 54; exact Calls.quiet_of_same ((cs _).mono fun _ _ h => ⟨h.1, h.2.symm⟩)))
      have h := K.out
      have BB := Lib.hid (below_draws B.out nq)
      have KK := Lib.hid (show Blk (wr.drewN nq) w.heap.size 28 (ints ys) ∧ Blk (wr.drewN nq) (w.heap.size + 1) 28 (ints zs) from ⟨blk_draws h.1 nq, blk_draws h.2 nq⟩)
      clear h cy cz hw1 hw3 B K cs
      go_wp2_with fail
      go_roundg (4 - (kk + 1))
      case measure => omega
      case rel => exact ⟨kk + 1, by omega, by omega, by go_num, by rw [hfu.out], BB.out, KK.out⟩
    · have hltz : ¬ (kk : Int) < 4 := by omega
      obtain rfl : kk = 4 := by omega
      go_wp2_with fail
      go_ret
      exact ⟨rfl, B.out⟩

set_option maxHeartbeats 2000000 in
theorem refBudget_calls (s : List Int) (b : Nat) (w : World) (hl : s.length = 8) (hr : rightB s = true) (hb : b < 8) :
    Calls Try.prog 43 #[.agg (ints s), .int .i64 b] w fun e w' => e = .returned (.int .i64 (budL s b)) ∧ Below w.heap.size w w' := by
  have b0 := blk_new w 36 (ints s)
  have hA := (Below.refl _ w).alloc (Nat.le_refl _) (.cells (ints s) 36)
  have B0 := Lib.hid b0
  have HA := Lib.hid hA
  have HG := Lib.hid (right_get hr)
  have hbz : (b : Int) < 8 := by omega
  clear b0 hA hr
  go_enter Try.func43, Try.ntmps43
  go_wp2_with fail
  go_loopg [5, 6] 8 (fun gg s5 s6 wr => ∃ kk : Nat, kk ≤ 8 ∧ 8 - kk ≤ gg ∧ s6 = .int .i64 kk ∧ s5 = .int .i64 (budTo s b kk) ∧ Aside (wr = w.alloc (.cells (ints s) 36)))
  case atStart => exact ⟨0, Nat.zero_le _, by omega, rfl, rfl, rfl⟩
  case round =>
    obtain ⟨kk, hkk, hgk, rfl, rfl, hW⟩ := hrel
    obtain rfl := hW.out
    clear hW
    by_cases hlt : kk < 8
    · have hltz : (kk : Int) < 8 := by omega
      have c0 := blk_int B0.out (i := kk) (by omega)
      have hg := HG.out kk
      have hbu := Lib.hid (show budTo s b (kk + 1) = max (budTo s b kk) (termL s b kk) from rfl)
      have htl := Lib.hid (show termL s b kk = 4 * 2 ^ (s.getD kk 0).toNat / 2 ^ shN b kk from rfl)
      obtain ⟨n, hn⟩ : ∃ n : Nat, s.getD kk 0 = n := ⟨(s.getD kk 0).toNat, by omega⟩
      rw [hn] at c0 hg
      have htl2 := Lib.hid (show termL s b kk = 4 * 2 ^ n / 2 ^ shN b kk by rw [htl.out, hn]; rfl)
      clear htl hn
      have hn15 : n ≤ 15 := by omega
      have hp := pow_le15 hn15
      have cg := fun W => refGain_calls n W hn15
      generalize (2 : Int) ^ n = p at *
      go_wp2_with fail
      refine (cg _).mono ?_
      rintro e w' ⟨rfl, rfl⟩
      have h4p : 0 ≤ 4 * p := by omega
      have h4q : 4 * p ≤ 131072 := by omega
      go_wp2_with fail
      clear cg c0
      generalize 4 * p = X at *
      go_loopg [7, 8] (b - kk) (fun gg s7 s8 wr => ∃ ii : Nat, kk ≤ ii ∧ (ii ≤ b ∨ ii = kk) ∧ b - ii ≤ gg ∧ s8 = .int .i64 ii ∧ s7 = .int .i64 (X / 2 ^ (ii - kk)) ∧ Aside (wr = w.alloc (.cells (ints s) 36)))
      case atStart => exact ⟨kk, Nat.le_refl _, Or.inr rfl, by omega, rfl, by rw [Nat.sub_self, Int.pow_zero, Int.ediv_one], rfl⟩
      case round =>
        obtain ⟨ii, hki, hib, hgi, rfl, rfl, hW⟩ := hrel
        obtain rfl := hW.out
        clear hW
        have hd0 : 0 ≤ X / 2 ^ (ii - kk) := Int.ediv_nonneg h4p (Int.le_of_lt (pow_pos' _))
        have hd1 : X / 2 ^ (ii - kk) ≤ 131072 := Int.le_trans (Int.ediv_le_self _ h4p) h4q
        by_cases hlb : ii < b
        · have hlbz : (ii : Int) < b := by omega
          have hs := Lib.hid (show X / 2 ^ (ii + 1 - kk) = X / 2 ^ (ii - kk) / 2 by rw [show ii + 1 - kk = (ii - kk) + 1 by omega, div_pow_add]; rfl)
          generalize X / 2 ^ (ii - kk) = Y at *
          go_wp2_with fail
          go_roundg (b - (ii + 1))
          case measure => omega
          case rel => exact ⟨ii + 1, by omega, by omega, by omega, by go_num, by rw [hs.out], rfl⟩
        · have hlbz : ¬ (ii : Int) < b := by omega
          have hsh := Lib.hid (show termL s b kk = X / 2 ^ (ii - kk) / 2 ^ (2 * (kk - min kk b)) by
            rw [htl2.out, ← div_pow_add]
            congr 2
            unfold shN
            split <;> omega)
          generalize X / 2 ^ (ii - kk) = Y at *
          go_wp2_with fail
          go_loopg [7, 9] (kk - b) (fun gg s7 s9 wr => ∃ jj : Nat, jj ≤ kk ∧ (b ≤ jj ∨ jj = kk) ∧ jj - b ≤ gg ∧ s9 = .int .i64 jj ∧ s7 = .int .i64 (Y / 2 ^ (2 * (kk - jj))) ∧ Aside (wr = w.alloc (.cells (ints s) 36)))
          case atStart => exact ⟨kk, Nat.le_refl _, Or.inr rfl, by omega, rfl, by rw [Nat.sub_self, Nat.mul_zero, Int.pow_zero, Int.ediv_one], rfl⟩
          case round =>
            obtain ⟨jj, hjk, hbj, hgj, rfl, rfl, hW⟩ := hrel
            obtain rfl := hW.out
            clear hW
            have hd2 : 0 ≤ Y / 2 ^ (2 * (kk - jj)) := Int.ediv_nonneg hd0 (Int.le_of_lt (pow_pos' _))
            have hd3 : Y / 2 ^ (2 * (kk - jj)) ≤ 131072 := Int.le_trans (Int.ediv_le_self _ hd0) hd1
            by_cases hjb : b < jj
            · have hjbz : (b : Int) < jj := by omega
              have hs := Lib.hid (show Y / 2 ^ (2 * (kk - (jj - 1))) = Y / 2 ^ (2 * (kk - jj)) / 2 / 2 by
                rw [show 2 * (kk - (jj - 1)) = 2 * (kk - jj) + 1 + 1 by omega, div_pow_add, div_pow_add]; rfl)
              have hjc := Lib.hid (show ((jj : Int) - 1) = ((jj - 1 : Nat) : Int) by omega)
              generalize Y / 2 ^ (2 * (kk - jj)) = V at *
              go_wp2_with fail
              go_roundg (jj - 1 - b)
              case measure => omega
              case rel => exact ⟨jj - 1, by omega, by omega, by omega, by rw [hjc.out], by rw [hs.out], rfl⟩
            · have hjbz : ¬ (b : Int) < jj := by omega
              have hfin := Lib.hid (show termL s b kk = Y / 2 ^ (2 * (kk - jj)) by
                rw [hsh.out]
                congr 3
                omega)
              generalize Y / 2 ^ (2 * (kk - jj)) = V at *
              generalize budTo s b kk = bt at *
              by_cases hmx : bt < V
              · go_wp2_with fail
                go_roundg (8 - (kk + 1))
                case measure => omega
                case rel => exact ⟨kk + 1, by omega, by omega, by go_num, by rw [hbu.out, hfin.out, Int.max_eq_right (by omega)], rfl⟩
              · go_wp2_with fail
                go_roundg (8 - (kk + 1))
                case measure => omega
                case rel => exact ⟨kk + 1, by omega, by omega, by go_num, by rw [hbu.out, hfin.out, Int.max_eq_left (by omega)], rfl⟩
    · have hltz : ¬ (kk : Int) < 8 := by omega
      obtain rfl : kk = 8 := by omega
      go_wp2_with fail
      go_ret
      exact ⟨rfl, HA.out⟩
end Go.Proofs.Ytnmhbonheaoldaa
