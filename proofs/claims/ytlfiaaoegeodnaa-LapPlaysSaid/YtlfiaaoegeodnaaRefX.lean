/- The contract of the reference's waves. Printed by genrefw.py. -/
import Derived.Test.YtlfiaaoegeodnaaRefW
import Derived.Test.YtlfiaaoegeodnaaRefL
import Derived.Deep.QuietTactic
import Derived.BigQuiet
import Derived.Deep.LoopGhost
namespace Go.Proofs.Ytlfiaaoegeodnaa
open Go.RowKit
attribute [local go_sem ↓] Go.wp_at_zero Go.wp_at_succ

/-- the frame, the result, the two rows -/
structure RW (w : World) (gx gy : Nat) (zs x y : List Int) (wr : World) : Prop where
  box : Blk wr w.heap.size 43 (ints zs)
  res : Blk wr (w.heap.size + 1) 43 (ints (List.replicate 32 0))
  x : Blk wr gx 82 (ints x)
  y : Blk wr gy 82 (ints y)
  below : Below w.heap.size w wr
section
variable {w wr : World} {gx gy : Nat} {zs x y : List Int}
theorem rw_draws (h : RW w gx gy zs x y wr) (n : Nat) : RW w gx gy zs x y (wr.drewN n) := ⟨blk_draws h.box n, blk_draws h.res n, blk_draws h.x n, blk_draws h.y n, below_draws h.below n⟩
theorem rw_setx (h : RW w gx gy zs x y wr) (h1 : w.heap.size + 2 ≤ gx) (hne : gx ≠ gy) (i : Nat) (v : Int) : RW w gx gy zs (x.set i v) y (wr.setCell ⟨gx, i, none⟩ (.int .i64 v)) :=
  ⟨blk_far h.box (by omega) _, blk_far h.res (by omega) _, blk_set_int h.x i v, blk_far h.y (fun e => hne e.symm) _, h.below.setCell (p := ⟨gx, i, none⟩) (by simp; omega) _⟩
theorem rw_sety (h : RW w gx gy zs x y wr) (h1 : w.heap.size + 2 ≤ gy) (hne : gx ≠ gy) (i : Nat) (v : Int) : RW w gx gy zs x (y.set i v) (wr.setCell ⟨gy, i, none⟩ (.int .i64 v)) :=
  ⟨blk_far h.box (by omega) _, blk_far h.res (by omega) _, blk_far h.x hne _, blk_set_int h.y i v, h.below.setCell (p := ⟨gy, i, none⟩) (by simp; omega) _⟩
theorem rw_alloc (h : RW w gx gy zs x y wr) (o : Obj) : RW w gx gy zs x y (wr.alloc o) := ⟨blk_alloc h.box o, blk_alloc h.res o, blk_alloc h.x o, blk_alloc h.y o, h.below.alloc h.below.size o⟩
theorem rw_far (h : RW w gx gy zs x y wr) {g : Nat} (h1 : w.heap.size + 2 ≤ g) (hx : gx ≠ g) (hy : gy ≠ g) (i : Nat) (v : Value) : RW w gx gy zs x y (wr.setCell ⟨g, i, none⟩ v) :=
  ⟨blk_far h.box (by omega) _, blk_far h.res (by omega) _, blk_far h.x hx _, blk_far h.y hy _, h.below.setCell (p := ⟨g, i, none⟩) (by simp; omega) _⟩
end

theorem rOut_succ (st : List Int) (n : Nat) : rOut st (n + 1) = ((rOut st n).set (2 * n) (turnL ((ev st).getD (flipN n) 0) ((od st).getD (flipN n) 0) (-(8 * (n : Int) + 2))).1).set (31 - 2 * n) (-(turnL ((ev st).getD (flipN n) 0) ((od st).getD (flipN n) 0) (-(8 * (n : Int) + 2))).2) := by
  rw [rOut, edgeN]
theorem rflip_calls (k : Nat) (w : World) (h : k < 16) : Calls Try.prog 52 #[.int .i64 k] w fun e w' => e = .returned (.int .i64 (flipN k)) ∧ w = w' := by
  have hk : k = 0 ∨ k = 1 ∨ k = 2 ∨ k = 3 ∨ k = 4 ∨ k = 5 ∨ k = 6 ∨ k = 7 ∨ k = 8 ∨ k = 9 ∨ k = 10 ∨ k = 11 ∨ k = 12 ∨ k = 13 ∨ k = 14 ∨ k = 15 := by omega
  rcases hk with rfl | rfl | rfl | rfl | rfl | rfl | rfl | rfl | rfl | rfl | rfl | rfl | rfl | rfl | rfl | rfl <;>
    (go_enter Try.func52, Try.ntmps52; go_wp2; go_ret; exact ⟨rfl, rfl⟩)

/-- the state behind r stages; the next stage's size -/
def stN (z : List Int) : Nat → List Int
  | 0 => z
  | 1 => stageTo wAhead 16 1 z
  | 2 => stageTo wAhead 8 2 (stageTo wAhead 16 1 z)
  | 3 => stageTo wAhead 4 4 (stageTo wAhead 8 2 (stageTo wAhead 16 1 z))
  | _ => stageTo wAhead 2 8 (stageTo wAhead 4 4 (stageTo wAhead 8 2 (stageTo wAhead 16 1 z)))
def szN : Nat → Int
  | 0 => 16
  | 1 => 8
  | 2 => 4
  | 3 => 2
  | _ => 1
theorem stN_len (z : List Int) (r : Nat) : (stN z r).length = z.length := by
  unfold stN
  split <;> simp only [stageTo_len wAhead_len]

set_option maxRecDepth 20000 in
set_option maxHeartbeats 8000000 in
theorem rwaves_calls (zs : List Int) (w : World) (hl : zs.length = 32) (hi : AllIn 1073741824 zs) :
    Calls Try.prog 53 #[.agg (ints zs)] w fun e w' => e = .returned (.agg (ints (wavesL zs))) ∧ Below w.heap.size w w' := by
  have hfit := waves_fit hi
  have hz32 : #[Value.int .i64 0, Value.int .i64 0, Value.int .i64 0, Value.int .i64 0, Value.int .i64 0, Value.int .i64 0, Value.int .i64 0, Value.int .i64 0, Value.int .i64 0, Value.int .i64 0, Value.int .i64 0, Value.int .i64 0, Value.int .i64 0, Value.int .i64 0, Value.int .i64 0, Value.int .i64 0, Value.int .i64 0, Value.int .i64 0, Value.int .i64 0, Value.int .i64 0, Value.int .i64 0, Value.int .i64 0, Value.int .i64 0, Value.int .i64 0, Value.int .i64 0, Value.int .i64 0, Value.int .i64 0, Value.int .i64 0, Value.int .i64 0, Value.int .i64 0, Value.int .i64 0, Value.int .i64 0] = ints (List.replicate 32 0) := by kernel_rfl
  have hz16 : #[Value.int .i64 0, Value.int .i64 0, Value.int .i64 0, Value.int .i64 0, Value.int .i64 0, Value.int .i64 0, Value.int .i64 0, Value.int .i64 0, Value.int .i64 0, Value.int .i64 0, Value.int .i64 0, Value.int .i64 0, Value.int .i64 0, Value.int .i64 0, Value.int .i64 0, Value.int .i64 0] = ints (ev (inTo zs 0)) := by kernel_rfl
  have hz17 : #[Value.int .i64 0, Value.int .i64 0, Value.int .i64 0, Value.int .i64 0, Value.int .i64 0, Value.int .i64 0, Value.int .i64 0, Value.int .i64 0, Value.int .i64 0, Value.int .i64 0, Value.int .i64 0, Value.int .i64 0, Value.int .i64 0, Value.int .i64 0, Value.int .i64 0, Value.int .i64 0] = ints (od (inTo zs 0)) := by kernel_rfl
  rw [← rOut_waves hl]
  obtain ⟨m4, hm4⟩ : ∃ m, m = mid4 (inTo zs 16) := ⟨_, rfl⟩
  rw [← hm4]
  have HM := Lib.hid hm4
  obtain ⟨out, ho16⟩ : ∃ o, o = rOut m4 16 := ⟨_, rfl⟩
  rw [← ho16]
  have HO16 := Lib.hid ho16
  clear hm4 ho16
  have r0 : RW w (w.heap.size + 2) (w.heap.size + 2 + 1) zs (ev (inTo zs 0)) (od (inTo zs 0)) ((((w.alloc (.cells (ints zs) 43)).alloc (.cells #[Value.int .i64 0, Value.int .i64 0, Value.int .i64 0, Value.int .i64 0, Value.int .i64 0, Value.int .i64 0, Value.int .i64 0, Value.int .i64 0, Value.int .i64 0, Value.int .i64 0, Value.int .i64 0, Value.int .i64 0, Value.int .i64 0, Value.int .i64 0, Value.int .i64 0, Value.int .i64 0, Value.int .i64 0, Value.int .i64 0, Value.int .i64 0, Value.int .i64 0, Value.int .i64 0, Value.int .i64 0, Value.int .i64 0, Value.int .i64 0, Value.int .i64 0, Value.int .i64 0, Value.int .i64 0, Value.int .i64 0, Value.int .i64 0, Value.int .i64 0, Value.int .i64 0, Value.int .i64 0] 43)).alloc (.cells #[Value.int .i64 0, Value.int .i64 0, Value.int .i64 0, Value.int .i64 0, Value.int .i64 0, Value.int .i64 0, Value.int .i64 0, Value.int .i64 0, Value.int .i64 0, Value.int .i64 0, Value.int .i64 0, Value.int .i64 0, Value.int .i64 0, Value.int .i64 0, Value.int .i64 0, Value.int .i64 0] 82)).alloc (.cells #[Value.int .i64 0, Value.int .i64 0, Value.int .i64 0, Value.int .i64 0, Value.int .i64 0, Value.int .i64 0, Value.int .i64 0, Value.int .i64 0, Value.int .i64 0, Value.int .i64 0, Value.int .i64 0, Value.int .i64 0, Value.int .i64 0, Value.int .i64 0, Value.int .i64 0, Value.int .i64 0] 82)) := by
    refine ⟨blk_alloc (blk_alloc (blk_alloc (blk_new _ _ _) _) _) _, ?_, ?_, ?_, ?_⟩
    · have h := blk_alloc (blk_alloc (blk_new (w.alloc (.cells (ints zs) 43)) 43 #[Value.int .i64 0, Value.int .i64 0, Value.int .i64 0, Value.int .i64 0, Value.int .i64 0, Value.int .i64 0, Value.int .i64 0, Value.int .i64 0, Value.int .i64 0, Value.int .i64 0, Value.int .i64 0, Value.int .i64 0, Value.int .i64 0, Value.int .i64 0, Value.int .i64 0, Value.int .i64 0, Value.int .i64 0, Value.int .i64 0, Value.int .i64 0, Value.int .i64 0, Value.int .i64 0, Value.int .i64 0, Value.int .i64 0, Value.int .i64 0, Value.int .i64 0, Value.int .i64 0, Value.int .i64 0, Value.int .i64 0, Value.int .i64 0, Value.int .i64 0, Value.int .i64 0, Value.int .i64 0]) (.cells #[Value.int .i64 0, Value.int .i64 0, Value.int .i64 0, Value.int .i64 0, Value.int .i64 0, Value.int .i64 0, Value.int .i64 0, Value.int .i64 0, Value.int .i64 0, Value.int .i64 0, Value.int .i64 0, Value.int .i64 0, Value.int .i64 0, Value.int .i64 0, Value.int .i64 0, Value.int .i64 0] 82)) (.cells #[Value.int .i64 0, Value.int .i64 0, Value.int .i64 0, Value.int .i64 0, Value.int .i64 0, Value.int .i64 0, Value.int .i64 0, Value.int .i64 0, Value.int .i64 0, Value.int .i64 0, Value.int .i64 0, Value.int .i64 0, Value.int .i64 0, Value.int .i64 0, Value.int .i64 0, Value.int .i64 0] 82)
      rw [hz32] at h ⊢
      simpa using h
    · have h := blk_alloc (blk_new ((w.alloc (.cells (ints zs) 43)).alloc (.cells #[Value.int .i64 0, Value.int .i64 0, Value.int .i64 0, Value.int .i64 0, Value.int .i64 0, Value.int .i64 0, Value.int .i64 0, Value.int .i64 0, Value.int .i64 0, Value.int .i64 0, Value.int .i64 0, Value.int .i64 0, Value.int .i64 0, Value.int .i64 0, Value.int .i64 0, Value.int .i64 0, Value.int .i64 0, Value.int .i64 0, Value.int .i64 0, Value.int .i64 0, Value.int .i64 0, Value.int .i64 0, Value.int .i64 0, Value.int .i64 0, Value.int .i64 0, Value.int .i64 0, Value.int .i64 0, Value.int .i64 0, Value.int .i64 0, Value.int .i64 0, Value.int .i64 0, Value.int .i64 0] 43)) 82 #[Value.int .i64 0, Value.int .i64 0, Value.int .i64 0, Value.int .i64 0, Value.int .i64 0, Value.int .i64 0, Value.int .i64 0, Value.int .i64 0, Value.int .i64 0, Value.int .i64 0, Value.int .i64 0, Value.int .i64 0, Value.int .i64 0, Value.int .i64 0, Value.int .i64 0, Value.int .i64 0]) (.cells #[Value.int .i64 0, Value.int .i64 0, Value.int .i64 0, Value.int .i64 0, Value.int .i64 0, Value.int .i64 0, Value.int .i64 0, Value.int .i64 0, Value.int .i64 0, Value.int .i64 0, Value.int .i64 0, Value.int .i64 0, Value.int .i64 0, Value.int .i64 0, Value.int .i64 0, Value.int .i64 0] 82)
      rw [← hz16]
      simpa using h
    · have h := blk_new (((w.alloc (.cells (ints zs) 43)).alloc (.cells #[Value.int .i64 0, Value.int .i64 0, Value.int .i64 0, Value.int .i64 0, Value.int .i64 0, Value.int .i64 0, Value.int .i64 0, Value.int .i64 0, Value.int .i64 0, Value.int .i64 0, Value.int .i64 0, Value.int .i64 0, Value.int .i64 0, Value.int .i64 0, Value.int .i64 0, Value.int .i64 0, Value.int .i64 0, Value.int .i64 0, Value.int .i64 0, Value.int .i64 0, Value.int .i64 0, Value.int .i64 0, Value.int .i64 0, Value.int .i64 0, Value.int .i64 0, Value.int .i64 0, Value.int .i64 0, Value.int .i64 0, Value.int .i64 0, Value.int .i64 0, Value.int .i64 0, Value.int .i64 0] 43)).alloc (.cells #[Value.int .i64 0, Value.int .i64 0, Value.int .i64 0, Value.int .i64 0, Value.int .i64 0, Value.int .i64 0, Value.int .i64 0, Value.int .i64 0, Value.int .i64 0, Value.int .i64 0, Value.int .i64 0, Value.int .i64 0, Value.int .i64 0, Value.int .i64 0, Value.int .i64 0, Value.int .i64 0] 82)) 82 #[Value.int .i64 0, Value.int .i64 0, Value.int .i64 0, Value.int .i64 0, Value.int .i64 0, Value.int .i64 0, Value.int .i64 0, Value.int .i64 0, Value.int .i64 0, Value.int .i64 0, Value.int .i64 0, Value.int .i64 0, Value.int .i64 0, Value.int .i64 0, Value.int .i64 0, Value.int .i64 0]
      rw [← hz17]
      simpa using h
    · exact ((((Below.refl _ w).alloc (Nat.le_refl _) _).alloc (by simp) _).alloc (by simp; omega) _).alloc (by simp; omega) _
  have R0 := Lib.hid r0
  have HI := Lib.hid hi
  have HF := Lib.hid hfit
  have HL := Lib.hid hl
  clear r0 hz32 hz16 hz17 hi hfit hl
  go_enter Try.func53, Try.ntmps53
  go_wp2_with fail
  generalize hgy : w.heap.size + 2 + 1 = gy at *
  generalize hgx : w.heap.size + 2 = gx at *
  have hx2 : w.heap.size + 2 ≤ gx := by omega
  have hy2 : w.heap.size + 2 ≤ gy := by omega
  have hne : gx ≠ gy := by omega
  clear hgx hgy
  go_loopg [5] 16 (fun gg s5 wr => ∃ n : Nat, n ≤ 16 ∧ 16 - n ≤ gg ∧ s5 = .int .i64 n ∧ Aside (RW w gx gy zs (ev (inTo zs n)) (od (inTo zs n)) wr))
  case atStart => exact ⟨0, Nat.zero_le _, by omega, rfl, R0.out⟩
  case round =>
    clear R0
    obtain ⟨n, hn, hgn, rfl, R⟩ := hrel
    by_cases hlt : n < 16
    · have hltz : (n : Int) < 16 := by omega
      have hn0 : 0 ≤ (n : Int) := by omega
      have k1 : 0 ≤ 2 * (n : Int) := by omega
      have k2 : 2 * (n : Int) < 32 := by omega
      have k3 : (2 * (n : Int)).toNat = 2 * n := by omega
      have k4 : 0 ≤ 31 - 2 * (n : Int) := by omega
      have k5 : 31 - 2 * (n : Int) < 32 := by omega
      have k6 : (31 - 2 * (n : Int)).toNat = 31 - 2 * n := by omega
      have k7 : 2 * (n : Int) ≤ 31 := by omega
      have q1 : IntKind.i64.wrap (2 * (n : Int)) = 2 * n := IntWalk.i64_in _ ⟨by omega, by omega⟩
      have q2 : IntKind.i64.wrap (31 - 2 * (n : Int)) = 31 - 2 * n := IntWalk.i64_in _ ⟨by omega, by omega⟩
      have q3 : IntKind.i64.wrap (8 * (n : Int)) = 8 * n := IntWalk.i64_in _ ⟨by omega, by omega⟩
      have q4 : IntKind.i64.wrap (8 * (n : Int) + 2) = 8 * n + 2 := IntWalk.i64_in _ ⟨by omega, by omega⟩
      have q5 : IntKind.i64.wrap (-(8 * (n : Int) + 2)) = -(8 * n + 2) := IntWalk.i64_in _ ⟨by omega, by omega⟩
      have ca := blk_int R.out.box (i := 2 * n) (by rw [HL.out]; omega)
      have cb := blk_int R.out.box (i := 31 - 2 * n) (by rw [HL.out]; omega)
      have ha := allIn_get HI.out (2 * n)
      have hb := allIn_get HI.out (31 - 2 * n)
      have EV := Lib.hid (in_ev zs hlt)
      have OD := Lib.hid (in_od zs hlt)
      have XL := Lib.hid (ev_len (inTo zs n))
      have YL := Lib.hid (od_len (inTo zs n))
      unfold edgeN at EV OD
      generalize zs.getD (2 * n) 0 = a at *
      generalize zs.getD (31 - 2 * n) 0 = b at *
      have ct := fun W => rturnL_calls a b (-(8 * (n : Int) + 2)) W (by omega) (by omega) (by omega) (by omega)
      generalize turnL a b (-(8 * (n : Int) + 2)) = tt at *
      generalize ev (inTo zs n) = x at *
      generalize od (inTo zs n) = y at *
      clear ha hb
      go_wp2_with fail
      go_quiet ((go_at_call 41; exact Calls.quiet_of_same ((ct _).mono fun _ _ h => ⟨h.1, h.2.symm⟩)))
      have R1 := rw_draws R.out nq
      clear R ca cb ct q1 q2 q3 q4 q5 k1 k2 k3 k4 k5 k6 k7
      generalize wr.drewN nq = w1 at *
      have cx := blk_int R1.x (i := n) (by rw [XL.out]; exact hlt)
      have fx := blk_free R1.x n
      have R2 := rw_setx R1 hx2 hne n tt.1
      have cy := blk_int R2.y (i := n) (by rw [YL.out]; exact hlt)
      have fy := blk_free R2.y n
      have R3 := Lib.hid (rw_sety R2 hy2 hne n tt.2)
      rw [← EV.out, ← OD.out] at R3
      clear R1 R2
      go_wp2_with fail
      go_roundg (16 - (n + 1))
      case measure => omega
      case rel => exact ⟨n + 1, by omega, by omega, by go_num, R3.out⟩
    · obtain rfl : n = 16 := by omega
      have F16 := Lib.hid HF.out.2.1
      have F8 := Lib.hid HF.out.2.2.1
      have F4 := Lib.hid HF.out.2.2.2.1
      have F2 := Lib.hid HF.out.2.2.2.2.1
      have FM := Lib.hid (HF.out.2.2.2.2.2 0 (Nat.zero_le _))
      have ZL := Lib.hid (inTo_len zs 16)
      clear HF hn hgn hlt
      rw [← HM.out] at FM
      generalize inTo zs 16 = z at *
      have HS := Lib.hid fun r => (stN_len z r).trans ZL.out
      have R4 := Lib.hid R.out
      clear R ZL
      go_wp2_with fail
      go_loopg [8] 4 (fun gg s8 wr => ∃ r : Nat, r ≤ 4 ∧ 4 - r ≤ gg ∧ s8 = .int .i64 (szN r) ∧ Aside (RW w gx gy zs (ev (stN z r)) (od (stN z r)) wr))
      case atStart => exact ⟨0, Nat.zero_le _, by omega, rfl, R4.out⟩
      case round =>
        clear R4
        obtain ⟨r, hr, hgr, rfl, R⟩ := hrel
        obtain rfl | rfl | rfl | rfl | rfl : r = 0 ∨ r = 1 ∨ r = 2 ∨ r = 3 ∨ r = 4 := by omega
        · have ZL := Lib.hid (HS.out 0)
          have FT := Lib.hid (show StageFit wAhead 16 1 (stN z 0) from F16.out)
          have ST : stN z (0 + 1) = stageTo wAhead 16 1 (stN z 0) := rfl
          have HST := Lib.hid ST
          clear ST HS F16 F8 F4 F2
          rw [show szN 0 = 16 from rfl]
          generalize stN z 0 = z' at *
          have R4 := Lib.hid R.out
          clear R
          go_wp2_with fail
          go_loopg [9] 1 (fun gg s9 wr => ∃ t b : Nat, t ≤ 1 ∧ 1 - t ≤ gg ∧ Aside (b = t * 16) ∧ s9 = .int .i64 b ∧ Aside (RW w gx gy zs (ev (stageTo wAhead 16 t z')) (od (stageTo wAhead 16 t z')) wr))
          case atStart => exact ⟨0, 0, Nat.zero_le _, by omega, rfl, rfl, R4.out⟩
          case round =>
            clear R4
            obtain ⟨t, b, ht, hgt, hbt, rfl, R⟩ := hrel
            have hbt2 := hbt.out
            by_cases hlt : t < 1
            · have hb16 : b + 16 ≤ 16 := by omega
              have hbz : (b : Int) < 16 := by omega
              have R5 := Lib.hid R.out
              clear R hbt2
              go_wp2_with fail
              go_loopg [10] 8 (fun gg s10 wr => ∃ m : Nat, m ≤ 8 ∧ 8 - m ≤ gg ∧ s10 = .int .i64 m ∧ Aside (RW w gx gy zs (ev (stageIn wAhead 16 b m (stageTo wAhead 16 t z'))) (od (stageIn wAhead 16 b m (stageTo wAhead 16 t z'))) wr))
              case atStart => exact ⟨0, Nat.zero_le _, by omega, rfl, R5.out⟩
              case round =>
                clear R5
                obtain ⟨m, hm, hgm, rfl, R⟩ := hrel
                by_cases hlt2 : m < 8
                · have hmz : (m : Int) < 8 := by omega
                  have hm0 : 0 ≤ (m : Int) := by omega
                  obtain ⟨p, hp⟩ : ∃ p, p = b + m := ⟨_, rfl⟩
                  obtain ⟨q, hq⟩ : ∃ q, q = p + 8 := ⟨_, rfl⟩
                  have hpz : (b : Int) + m = p := by omega
                  have hqz : (p : Int) + 8 = q := by omega
                  have hp0 : 0 ≤ (p : Int) := by omega
                  have hp16 : (p : Int) < 16 := by omega
                  have hq0 : 0 ≤ (q : Int) := by omega
                  have hq16 : (q : Int) < 16 := by omega
                  have hpn : p < 16 := by omega
                  have hqn : q < 16 := by omega
                  have hst : stageIn wAhead 16 b (m + 1) (stageTo wAhead 16 t z') = wAhead p q (-((m : Int) * 512 / 16)) (stageIn wAhead 16 b m (stageTo wAhead 16 t z')) := by rw [hq, hp]; rfl
                  have hfz : Fit (stageIn wAhead 16 b m (stageTo wAhead 16 t z')) := by rw [hbt.out]; exact FT.out t m hlt (by omega)
                  have hlz : (stageIn wAhead 16 b m (stageTo wAhead 16 t z')).length = 32 := by rw [stageIn_len wAhead_len, stageTo_len wAhead_len]; exact ZL.out
                  have EV := ahead_ev hlz hpn hqn (-((m : Int) * 512 / 16))
                  have OD := ahead_od hlz hpn hqn (-((m : Int) * 512 / 16))
                  rw [← hst] at EV OD
                  generalize stageIn wAhead 16 b m (stageTo wAhead 16 t z') = zz at *
                  have bp := allIn_get hfz (p * 2)
                  have bq := allIn_get hfz (q * 2)
                  have dp := allIn_get hfz (p * 2 + 1)
                  have dq := allIn_get hfz (q * 2 + 1)
                  rw [← ev_get zz hpn] at bp
                  rw [← ev_get zz hqn] at bq
                  rw [← od_get zz hpn] at dp
                  rw [← od_get zz hqn] at dq
                  have XL := Lib.hid (ev_len zz)
                  have YL := Lib.hid (od_len zz)
                  clear hfz hlz hst hp hq
                  generalize ev zz = x at *
                  generalize od zz = y at *
                  have cp := blk_int R.out.x (i := p) (by rw [XL.out]; exact hpn)
                  have cq := blk_int R.out.x (i := q) (by rw [XL.out]; exact hqn)
                  generalize x.getD p 0 = xp at *
                  generalize x.getD q 0 = xq at *
                  have c1 := fun W => rturnL_calls xp xq 64 W (by omega) (by omega) (by omega) (by omega)
                  have tb := turnL_in (k := 64) (c := 274877906944) (by omega) bp.1 bp.2 bq.1 bq.2
                  generalize turnL xp xq 64 = T1 at *
                  clear bp bq
                  have ry0 := Lib.hid fun (W : World) (h : RW w gx gy zs x y W) => And.intro (blk_int h.y (i := p) (by rw [YL.out]; exact hpn)) (blk_int h.y (i := q) (by rw [YL.out]; exact hqn))
                  generalize y.getD p 0 = yp at *
                  generalize y.getD q 0 = yq at *
                  have c2 := fun W => rturnL_calls yp yq 64 W (by omega) (by omega) (by omega) (by omega)
                  have ub := turnL_in (k := 64) (c := 274877906944) (by omega) dp.1 dp.2 dq.1 dq.2
                  generalize turnL yp yq 64 = U1 at *
                  clear dp dq
                  have c3 := fun W => rturnL_calls T1.1 U1.1 (-((m : Int) * 512 / 16)) W (by omega) (by omega) (by omega) (by omega)
                  generalize turnL T1.1 U1.1 (-((m : Int) * 512 / 16)) = V1 at *
                  have HEV := Lib.hid EV
                  have HOD := Lib.hid OD
                  clear tb ub EV OD
                  go_wp2_with fail
                  go_quiet ((go_at_call 41; exact Calls.quiet_of_same ((c1 _).mono fun _ _ h => ⟨h.1, h.2.symm⟩)))
                  have R1 := rw_draws R.out nq
                  clear R cp cq c1
                  generalize wr.drewN nq = w1 at *
                  have cp := (ry0.out _ R1).1
                  have cq := (ry0.out _ R1).2
                  clear ry0
                  go_wp2_with fail
                  go_quiet ((go_at_call 41; exact Calls.quiet_of_same ((c2 _).mono fun _ _ h => ⟨h.1, h.2.symm⟩)))
                  have R2 := rw_draws R1 nq
                  clear R1 cp cq c2
                  generalize w1.drewN nq = w2 at *
                  have cx := blk_int R2.x (i := p) (by rw [XL.out]; exact hpn)
                  have fx := blk_free R2.x p
                  have R3 := rw_setx R2 hx2 hne p T1.2
                  have cy := blk_int R3.y (i := p) (by rw [YL.out]; exact hpn)
                  have fy := blk_free R3.y p
                  have R4 := Lib.hid (rw_sety R3 hy2 hne p U1.2)
                  clear R2 R3
                  go_wp2_with fail
                  refine (c3 _).mono ?_
                  rintro e w' ⟨rfl, rfl⟩
                  clear c3 cx fx cy fy
                  have R5 := R4.out
                  clear R4
                  generalize World.setCell _ _ _ = w3 at *
                  have cx := blk_int R5.x (i := q) (by rw [List.length_set, XL.out]; exact hqn)
                  have fx := blk_free R5.x q
                  have R6 := rw_setx R5 hx2 hne q V1.1
                  have cy := blk_int R6.y (i := q) (by rw [List.length_set, YL.out]; exact hqn)
                  have fy := blk_free R6.y q
                  have R7 := rw_sety R6 hy2 hne q V1.2
                  rw [← HEV.out, ← HOD.out] at R7
                  have R8 := Lib.hid R7
                  clear R5 R6 R7
                  go_wp2_with fail
                  go_roundg (8 - (m + 1))
                  case measure => omega
                  case rel => exact ⟨m + 1, by omega, by omega, by go_num, R8.out⟩
                · obtain rfl : m = 8 := by omega
                  have R6 := R.out
                  clear R
                  have hnx : stageIn wAhead 16 b 8 (stageTo wAhead 16 t z') = stageTo wAhead 16 (t + 1) z' := by rw [hbt.out]; rfl
                  rw [hnx] at R6
                  have R7 := Lib.hid R6
                  clear R6 hnx
                  go_wp2_with fail
                  go_roundg (1 - (t + 1))
                  case measure => omega
                  case rel => exact ⟨t + 1, b + 16, by omega, by omega, by have := hbt.out; show b + 16 = (t + 1) * 16; omega, by go_num, R7.out⟩
            · obtain rfl : t = 1 := by omega
              have hbz : ¬ (b : Int) < 16 := by omega
              have R6 := R.out
              rw [← HST.out] at R6
              have R7 := Lib.hid R6
              clear R R6 hbt2
              go_wp2_with fail
              go_roundg (4 - (0 + 1))
              case measure => omega
              case rel => exact ⟨0 + 1, by omega, by omega, rfl, R7.out⟩
        · have ZL := Lib.hid (HS.out 1)
          have FT := Lib.hid (show StageFit wAhead 8 2 (stN z 1) from F8.out)
          have ST : stN z (1 + 1) = stageTo wAhead 8 2 (stN z 1) := rfl
          have HST := Lib.hid ST
          clear ST HS F16 F8 F4 F2
          rw [show szN 1 = 8 from rfl]
          generalize stN z 1 = z' at *
          have R4 := Lib.hid R.out
          clear R
          go_wp2_with fail
          go_loopg [9] 2 (fun gg s9 wr => ∃ t b : Nat, t ≤ 2 ∧ 2 - t ≤ gg ∧ Aside (b = t * 8) ∧ s9 = .int .i64 b ∧ Aside (RW w gx gy zs (ev (stageTo wAhead 8 t z')) (od (stageTo wAhead 8 t z')) wr))
          case atStart => exact ⟨0, 0, Nat.zero_le _, by omega, rfl, rfl, R4.out⟩
          case round =>
            clear R4
            obtain ⟨t, b, ht, hgt, hbt, rfl, R⟩ := hrel
            have hbt2 := hbt.out
            by_cases hlt : t < 2
            · have hb16 : b + 8 ≤ 16 := by omega
              have hbz : (b : Int) < 16 := by omega
              have R5 := Lib.hid R.out
              clear R hbt2
              go_wp2_with fail
              go_loopg [10] 4 (fun gg s10 wr => ∃ m : Nat, m ≤ 4 ∧ 4 - m ≤ gg ∧ s10 = .int .i64 m ∧ Aside (RW w gx gy zs (ev (stageIn wAhead 8 b m (stageTo wAhead 8 t z'))) (od (stageIn wAhead 8 b m (stageTo wAhead 8 t z'))) wr))
              case atStart => exact ⟨0, Nat.zero_le _, by omega, rfl, R5.out⟩
              case round =>
                clear R5
                obtain ⟨m, hm, hgm, rfl, R⟩ := hrel
                by_cases hlt2 : m < 4
                · have hmz : (m : Int) < 4 := by omega
                  have hm0 : 0 ≤ (m : Int) := by omega
                  obtain ⟨p, hp⟩ : ∃ p, p = b + m := ⟨_, rfl⟩
                  obtain ⟨q, hq⟩ : ∃ q, q = p + 4 := ⟨_, rfl⟩
                  have hpz : (b : Int) + m = p := by omega
                  have hqz : (p : Int) + 4 = q := by omega
                  have hp0 : 0 ≤ (p : Int) := by omega
                  have hp16 : (p : Int) < 16 := by omega
                  have hq0 : 0 ≤ (q : Int) := by omega
                  have hq16 : (q : Int) < 16 := by omega
                  have hpn : p < 16 := by omega
                  have hqn : q < 16 := by omega
                  have hst : stageIn wAhead 8 b (m + 1) (stageTo wAhead 8 t z') = wAhead p q (-((m : Int) * 512 / 8)) (stageIn wAhead 8 b m (stageTo wAhead 8 t z')) := by rw [hq, hp]; rfl
                  have hfz : Fit (stageIn wAhead 8 b m (stageTo wAhead 8 t z')) := by rw [hbt.out]; exact FT.out t m hlt (by omega)
                  have hlz : (stageIn wAhead 8 b m (stageTo wAhead 8 t z')).length = 32 := by rw [stageIn_len wAhead_len, stageTo_len wAhead_len]; exact ZL.out
                  have EV := ahead_ev hlz hpn hqn (-((m : Int) * 512 / 8))
                  have OD := ahead_od hlz hpn hqn (-((m : Int) * 512 / 8))
                  rw [← hst] at EV OD
                  generalize stageIn wAhead 8 b m (stageTo wAhead 8 t z') = zz at *
                  have bp := allIn_get hfz (p * 2)
                  have bq := allIn_get hfz (q * 2)
                  have dp := allIn_get hfz (p * 2 + 1)
                  have dq := allIn_get hfz (q * 2 + 1)
                  rw [← ev_get zz hpn] at bp
                  rw [← ev_get zz hqn] at bq
                  rw [← od_get zz hpn] at dp
                  rw [← od_get zz hqn] at dq
                  have XL := Lib.hid (ev_len zz)
                  have YL := Lib.hid (od_len zz)
                  clear hfz hlz hst hp hq
                  generalize ev zz = x at *
                  generalize od zz = y at *
                  have cp := blk_int R.out.x (i := p) (by rw [XL.out]; exact hpn)
                  have cq := blk_int R.out.x (i := q) (by rw [XL.out]; exact hqn)
                  generalize x.getD p 0 = xp at *
                  generalize x.getD q 0 = xq at *
                  have c1 := fun W => rturnL_calls xp xq 64 W (by omega) (by omega) (by omega) (by omega)
                  have tb := turnL_in (k := 64) (c := 274877906944) (by omega) bp.1 bp.2 bq.1 bq.2
                  generalize turnL xp xq 64 = T1 at *
                  clear bp bq
                  have ry0 := Lib.hid fun (W : World) (h : RW w gx gy zs x y W) => And.intro (blk_int h.y (i := p) (by rw [YL.out]; exact hpn)) (blk_int h.y (i := q) (by rw [YL.out]; exact hqn))
                  generalize y.getD p 0 = yp at *
                  generalize y.getD q 0 = yq at *
                  have c2 := fun W => rturnL_calls yp yq 64 W (by omega) (by omega) (by omega) (by omega)
                  have ub := turnL_in (k := 64) (c := 274877906944) (by omega) dp.1 dp.2 dq.1 dq.2
                  generalize turnL yp yq 64 = U1 at *
                  clear dp dq
                  have c3 := fun W => rturnL_calls T1.1 U1.1 (-((m : Int) * 512 / 8)) W (by omega) (by omega) (by omega) (by omega)
                  generalize turnL T1.1 U1.1 (-((m : Int) * 512 / 8)) = V1 at *
                  have HEV := Lib.hid EV
                  have HOD := Lib.hid OD
                  clear tb ub EV OD
                  go_wp2_with fail
                  go_quiet ((go_at_call 41; exact Calls.quiet_of_same ((c1 _).mono fun _ _ h => ⟨h.1, h.2.symm⟩)))
                  have R1 := rw_draws R.out nq
                  clear R cp cq c1
                  generalize wr.drewN nq = w1 at *
                  have cp := (ry0.out _ R1).1
                  have cq := (ry0.out _ R1).2
                  clear ry0
                  go_wp2_with fail
                  go_quiet ((go_at_call 41; exact Calls.quiet_of_same ((c2 _).mono fun _ _ h => ⟨h.1, h.2.symm⟩)))
                  have R2 := rw_draws R1 nq
                  clear R1 cp cq c2
                  generalize w1.drewN nq = w2 at *
                  have cx := blk_int R2.x (i := p) (by rw [XL.out]; exact hpn)
                  have fx := blk_free R2.x p
                  have R3 := rw_setx R2 hx2 hne p T1.2
                  have cy := blk_int R3.y (i := p) (by rw [YL.out]; exact hpn)
                  have fy := blk_free R3.y p
                  have R4 := Lib.hid (rw_sety R3 hy2 hne p U1.2)
                  clear R2 R3
                  go_wp2_with fail
                  refine (c3 _).mono ?_
                  rintro e w' ⟨rfl, rfl⟩
                  clear c3 cx fx cy fy
                  have R5 := R4.out
                  clear R4
                  generalize World.setCell _ _ _ = w3 at *
                  have cx := blk_int R5.x (i := q) (by rw [List.length_set, XL.out]; exact hqn)
                  have fx := blk_free R5.x q
                  have R6 := rw_setx R5 hx2 hne q V1.1
                  have cy := blk_int R6.y (i := q) (by rw [List.length_set, YL.out]; exact hqn)
                  have fy := blk_free R6.y q
                  have R7 := rw_sety R6 hy2 hne q V1.2
                  rw [← HEV.out, ← HOD.out] at R7
                  have R8 := Lib.hid R7
                  clear R5 R6 R7
                  go_wp2_with fail
                  go_roundg (4 - (m + 1))
                  case measure => omega
                  case rel => exact ⟨m + 1, by omega, by omega, by go_num, R8.out⟩
                · obtain rfl : m = 4 := by omega
                  have R6 := R.out
                  clear R
                  have hnx : stageIn wAhead 8 b 4 (stageTo wAhead 8 t z') = stageTo wAhead 8 (t + 1) z' := by rw [hbt.out]; rfl
                  rw [hnx] at R6
                  have R7 := Lib.hid R6
                  clear R6 hnx
                  go_wp2_with fail
                  go_roundg (2 - (t + 1))
                  case measure => omega
                  case rel => exact ⟨t + 1, b + 8, by omega, by omega, by have := hbt.out; show b + 8 = (t + 1) * 8; omega, by go_num, R7.out⟩
            · obtain rfl : t = 2 := by omega
              have hbz : ¬ (b : Int) < 16 := by omega
              have R6 := R.out
              rw [← HST.out] at R6
              have R7 := Lib.hid R6
              clear R R6 hbt2
              go_wp2_with fail
              go_roundg (4 - (1 + 1))
              case measure => omega
              case rel => exact ⟨1 + 1, by omega, by omega, rfl, R7.out⟩
        · have ZL := Lib.hid (HS.out 2)
          have FT := Lib.hid (show StageFit wAhead 4 4 (stN z 2) from F4.out)
          have ST : stN z (2 + 1) = stageTo wAhead 4 4 (stN z 2) := rfl
          have HST := Lib.hid ST
          clear ST HS F16 F8 F4 F2
          rw [show szN 2 = 4 from rfl]
          generalize stN z 2 = z' at *
          have R4 := Lib.hid R.out
          clear R
          go_wp2_with fail
          go_loopg [9] 4 (fun gg s9 wr => ∃ t b : Nat, t ≤ 4 ∧ 4 - t ≤ gg ∧ Aside (b = t * 4) ∧ s9 = .int .i64 b ∧ Aside (RW w gx gy zs (ev (stageTo wAhead 4 t z')) (od (stageTo wAhead 4 t z')) wr))
          case atStart => exact ⟨0, 0, Nat.zero_le _, by omega, rfl, rfl, R4.out⟩
          case round =>
            clear R4
            obtain ⟨t, b, ht, hgt, hbt, rfl, R⟩ := hrel
            have hbt2 := hbt.out
            by_cases hlt : t < 4
            · have hb16 : b + 4 ≤ 16 := by omega
              have hbz : (b : Int) < 16 := by omega
              have R5 := Lib.hid R.out
              clear R hbt2
              go_wp2_with fail
              go_loopg [10] 2 (fun gg s10 wr => ∃ m : Nat, m ≤ 2 ∧ 2 - m ≤ gg ∧ s10 = .int .i64 m ∧ Aside (RW w gx gy zs (ev (stageIn wAhead 4 b m (stageTo wAhead 4 t z'))) (od (stageIn wAhead 4 b m (stageTo wAhead 4 t z'))) wr))
              case atStart => exact ⟨0, Nat.zero_le _, by omega, rfl, R5.out⟩
              case round =>
                clear R5
                obtain ⟨m, hm, hgm, rfl, R⟩ := hrel
                by_cases hlt2 : m < 2
                · have hmz : (m : Int) < 2 := by omega
                  have hm0 : 0 ≤ (m : Int) := by omega
                  obtain ⟨p, hp⟩ : ∃ p, p = b + m := ⟨_, rfl⟩
                  obtain ⟨q, hq⟩ : ∃ q, q = p + 2 := ⟨_, rfl⟩
                  have hpz : (b : Int) + m = p := by omega
                  have hqz : (p : Int) + 2 = q := by omega
                  have hp0 : 0 ≤ (p : Int) := by omega
                  have hp16 : (p : Int) < 16 := by omega
                  have hq0 : 0 ≤ (q : Int) := by omega
                  have hq16 : (q : Int) < 16 := by omega
                  have hpn : p < 16 := by omega
                  have hqn : q < 16 := by omega
                  have hst : stageIn wAhead 4 b (m + 1) (stageTo wAhead 4 t z') = wAhead p q (-((m : Int) * 512 / 4)) (stageIn wAhead 4 b m (stageTo wAhead 4 t z')) := by rw [hq, hp]; rfl
                  have hfz : Fit (stageIn wAhead 4 b m (stageTo wAhead 4 t z')) := by rw [hbt.out]; exact FT.out t m hlt (by omega)
                  have hlz : (stageIn wAhead 4 b m (stageTo wAhead 4 t z')).length = 32 := by rw [stageIn_len wAhead_len, stageTo_len wAhead_len]; exact ZL.out
                  have EV := ahead_ev hlz hpn hqn (-((m : Int) * 512 / 4))
                  have OD := ahead_od hlz hpn hqn (-((m : Int) * 512 / 4))
                  rw [← hst] at EV OD
                  generalize stageIn wAhead 4 b m (stageTo wAhead 4 t z') = zz at *
                  have bp := allIn_get hfz (p * 2)
                  have bq := allIn_get hfz (q * 2)
                  have dp := allIn_get hfz (p * 2 + 1)
                  have dq := allIn_get hfz (q * 2 + 1)
                  rw [← ev_get zz hpn] at bp
                  rw [← ev_get zz hqn] at bq
                  rw [← od_get zz hpn] at dp
                  rw [← od_get zz hqn] at dq
                  have XL := Lib.hid (ev_len zz)
                  have YL := Lib.hid (od_len zz)
                  clear hfz hlz hst hp hq
                  generalize ev zz = x at *
                  generalize od zz = y at *
                  have cp := blk_int R.out.x (i := p) (by rw [XL.out]; exact hpn)
                  have cq := blk_int R.out.x (i := q) (by rw [XL.out]; exact hqn)
                  generalize x.getD p 0 = xp at *
                  generalize x.getD q 0 = xq at *
                  have c1 := fun W => rturnL_calls xp xq 64 W (by omega) (by omega) (by omega) (by omega)
                  have tb := turnL_in (k := 64) (c := 274877906944) (by omega) bp.1 bp.2 bq.1 bq.2
                  generalize turnL xp xq 64 = T1 at *
                  clear bp bq
                  have ry0 := Lib.hid fun (W : World) (h : RW w gx gy zs x y W) => And.intro (blk_int h.y (i := p) (by rw [YL.out]; exact hpn)) (blk_int h.y (i := q) (by rw [YL.out]; exact hqn))
                  generalize y.getD p 0 = yp at *
                  generalize y.getD q 0 = yq at *
                  have c2 := fun W => rturnL_calls yp yq 64 W (by omega) (by omega) (by omega) (by omega)
                  have ub := turnL_in (k := 64) (c := 274877906944) (by omega) dp.1 dp.2 dq.1 dq.2
                  generalize turnL yp yq 64 = U1 at *
                  clear dp dq
                  have c3 := fun W => rturnL_calls T1.1 U1.1 (-((m : Int) * 512 / 4)) W (by omega) (by omega) (by omega) (by omega)
                  generalize turnL T1.1 U1.1 (-((m : Int) * 512 / 4)) = V1 at *
                  have HEV := Lib.hid EV
                  have HOD := Lib.hid OD
                  clear tb ub EV OD
                  go_wp2_with fail
                  go_quiet ((go_at_call 41; exact Calls.quiet_of_same ((c1 _).mono fun _ _ h => ⟨h.1, h.2.symm⟩)))
                  have R1 := rw_draws R.out nq
                  clear R cp cq c1
                  generalize wr.drewN nq = w1 at *
                  have cp := (ry0.out _ R1).1
                  have cq := (ry0.out _ R1).2
                  clear ry0
                  go_wp2_with fail
                  go_quiet ((go_at_call 41; exact Calls.quiet_of_same ((c2 _).mono fun _ _ h => ⟨h.1, h.2.symm⟩)))
                  have R2 := rw_draws R1 nq
                  clear R1 cp cq c2
                  generalize w1.drewN nq = w2 at *
                  have cx := blk_int R2.x (i := p) (by rw [XL.out]; exact hpn)
                  have fx := blk_free R2.x p
                  have R3 := rw_setx R2 hx2 hne p T1.2
                  have cy := blk_int R3.y (i := p) (by rw [YL.out]; exact hpn)
                  have fy := blk_free R3.y p
                  have R4 := Lib.hid (rw_sety R3 hy2 hne p U1.2)
                  clear R2 R3
                  go_wp2_with fail
                  refine (c3 _).mono ?_
                  rintro e w' ⟨rfl, rfl⟩
                  clear c3 cx fx cy fy
                  have R5 := R4.out
                  clear R4
                  generalize World.setCell _ _ _ = w3 at *
                  have cx := blk_int R5.x (i := q) (by rw [List.length_set, XL.out]; exact hqn)
                  have fx := blk_free R5.x q
                  have R6 := rw_setx R5 hx2 hne q V1.1
                  have cy := blk_int R6.y (i := q) (by rw [List.length_set, YL.out]; exact hqn)
                  have fy := blk_free R6.y q
                  have R7 := rw_sety R6 hy2 hne q V1.2
                  rw [← HEV.out, ← HOD.out] at R7
                  have R8 := Lib.hid R7
                  clear R5 R6 R7
                  go_wp2_with fail
                  go_roundg (2 - (m + 1))
                  case measure => omega
                  case rel => exact ⟨m + 1, by omega, by omega, by go_num, R8.out⟩
                · obtain rfl : m = 2 := by omega
                  have R6 := R.out
                  clear R
                  have hnx : stageIn wAhead 4 b 2 (stageTo wAhead 4 t z') = stageTo wAhead 4 (t + 1) z' := by rw [hbt.out]; rfl
                  rw [hnx] at R6
                  have R7 := Lib.hid R6
                  clear R6 hnx
                  go_wp2_with fail
                  go_roundg (4 - (t + 1))
                  case measure => omega
                  case rel => exact ⟨t + 1, b + 4, by omega, by omega, by have := hbt.out; show b + 4 = (t + 1) * 4; omega, by go_num, R7.out⟩
            · obtain rfl : t = 4 := by omega
              have hbz : ¬ (b : Int) < 16 := by omega
              have R6 := R.out
              rw [← HST.out] at R6
              have R7 := Lib.hid R6
              clear R R6 hbt2
              go_wp2_with fail
              go_roundg (4 - (2 + 1))
              case measure => omega
              case rel => exact ⟨2 + 1, by omega, by omega, rfl, R7.out⟩
        · have ZL := Lib.hid (HS.out 3)
          have FT := Lib.hid (show StageFit wAhead 2 8 (stN z 3) from F2.out)
          have ST : stN z (3 + 1) = stageTo wAhead 2 8 (stN z 3) := rfl
          have HST := Lib.hid ST
          clear ST HS F16 F8 F4 F2
          rw [show szN 3 = 2 from rfl]
          generalize stN z 3 = z' at *
          have R4 := Lib.hid R.out
          clear R
          go_wp2_with fail
          go_loopg [9] 8 (fun gg s9 wr => ∃ t b : Nat, t ≤ 8 ∧ 8 - t ≤ gg ∧ Aside (b = t * 2) ∧ s9 = .int .i64 b ∧ Aside (RW w gx gy zs (ev (stageTo wAhead 2 t z')) (od (stageTo wAhead 2 t z')) wr))
          case atStart => exact ⟨0, 0, Nat.zero_le _, by omega, rfl, rfl, R4.out⟩
          case round =>
            clear R4
            obtain ⟨t, b, ht, hgt, hbt, rfl, R⟩ := hrel
            have hbt2 := hbt.out
            by_cases hlt : t < 8
            · have hb16 : b + 2 ≤ 16 := by omega
              have hbz : (b : Int) < 16 := by omega
              have R5 := Lib.hid R.out
              clear R hbt2
              go_wp2_with fail
              go_loopg [10] 1 (fun gg s10 wr => ∃ m : Nat, m ≤ 1 ∧ 1 - m ≤ gg ∧ s10 = .int .i64 m ∧ Aside (RW w gx gy zs (ev (stageIn wAhead 2 b m (stageTo wAhead 2 t z'))) (od (stageIn wAhead 2 b m (stageTo wAhead 2 t z'))) wr))
              case atStart => exact ⟨0, Nat.zero_le _, by omega, rfl, R5.out⟩
              case round =>
                clear R5
                obtain ⟨m, hm, hgm, rfl, R⟩ := hrel
                by_cases hlt2 : m < 1
                · have hmz : (m : Int) < 1 := by omega
                  have hm0 : 0 ≤ (m : Int) := by omega
                  obtain ⟨p, hp⟩ : ∃ p, p = b + m := ⟨_, rfl⟩
                  obtain ⟨q, hq⟩ : ∃ q, q = p + 1 := ⟨_, rfl⟩
                  have hpz : (b : Int) + m = p := by omega
                  have hqz : (p : Int) + 1 = q := by omega
                  have hp0 : 0 ≤ (p : Int) := by omega
                  have hp16 : (p : Int) < 16 := by omega
                  have hq0 : 0 ≤ (q : Int) := by omega
                  have hq16 : (q : Int) < 16 := by omega
                  have hpn : p < 16 := by omega
                  have hqn : q < 16 := by omega
                  have hst : stageIn wAhead 2 b (m + 1) (stageTo wAhead 2 t z') = wAhead p q (-((m : Int) * 512 / 2)) (stageIn wAhead 2 b m (stageTo wAhead 2 t z')) := by rw [hq, hp]; rfl
                  have hfz : Fit (stageIn wAhead 2 b m (stageTo wAhead 2 t z')) := by rw [hbt.out]; exact FT.out t m hlt (by omega)
                  have hlz : (stageIn wAhead 2 b m (stageTo wAhead 2 t z')).length = 32 := by rw [stageIn_len wAhead_len, stageTo_len wAhead_len]; exact ZL.out
                  have EV := ahead_ev hlz hpn hqn (-((m : Int) * 512 / 2))
                  have OD := ahead_od hlz hpn hqn (-((m : Int) * 512 / 2))
                  rw [← hst] at EV OD
                  generalize stageIn wAhead 2 b m (stageTo wAhead 2 t z') = zz at *
                  have bp := allIn_get hfz (p * 2)
                  have bq := allIn_get hfz (q * 2)
                  have dp := allIn_get hfz (p * 2 + 1)
                  have dq := allIn_get hfz (q * 2 + 1)
                  rw [← ev_get zz hpn] at bp
                  rw [← ev_get zz hqn] at bq
                  rw [← od_get zz hpn] at dp
                  rw [← od_get zz hqn] at dq
                  have XL := Lib.hid (ev_len zz)
                  have YL := Lib.hid (od_len zz)
                  clear hfz hlz hst hp hq
                  generalize ev zz = x at *
                  generalize od zz = y at *
                  have cp := blk_int R.out.x (i := p) (by rw [XL.out]; exact hpn)
                  have cq := blk_int R.out.x (i := q) (by rw [XL.out]; exact hqn)
                  generalize x.getD p 0 = xp at *
                  generalize x.getD q 0 = xq at *
                  have c1 := fun W => rturnL_calls xp xq 64 W (by omega) (by omega) (by omega) (by omega)
                  have tb := turnL_in (k := 64) (c := 274877906944) (by omega) bp.1 bp.2 bq.1 bq.2
                  generalize turnL xp xq 64 = T1 at *
                  clear bp bq
                  have ry0 := Lib.hid fun (W : World) (h : RW w gx gy zs x y W) => And.intro (blk_int h.y (i := p) (by rw [YL.out]; exact hpn)) (blk_int h.y (i := q) (by rw [YL.out]; exact hqn))
                  generalize y.getD p 0 = yp at *
                  generalize y.getD q 0 = yq at *
                  have c2 := fun W => rturnL_calls yp yq 64 W (by omega) (by omega) (by omega) (by omega)
                  have ub := turnL_in (k := 64) (c := 274877906944) (by omega) dp.1 dp.2 dq.1 dq.2
                  generalize turnL yp yq 64 = U1 at *
                  clear dp dq
                  have c3 := fun W => rturnL_calls T1.1 U1.1 (-((m : Int) * 512 / 2)) W (by omega) (by omega) (by omega) (by omega)
                  generalize turnL T1.1 U1.1 (-((m : Int) * 512 / 2)) = V1 at *
                  have HEV := Lib.hid EV
                  have HOD := Lib.hid OD
                  clear tb ub EV OD
                  go_wp2_with fail
                  go_quiet ((go_at_call 41; exact Calls.quiet_of_same ((c1 _).mono fun _ _ h => ⟨h.1, h.2.symm⟩)))
                  have R1 := rw_draws R.out nq
                  clear R cp cq c1
                  generalize wr.drewN nq = w1 at *
                  have cp := (ry0.out _ R1).1
                  have cq := (ry0.out _ R1).2
                  clear ry0
                  go_wp2_with fail
                  go_quiet ((go_at_call 41; exact Calls.quiet_of_same ((c2 _).mono fun _ _ h => ⟨h.1, h.2.symm⟩)))
                  have R2 := rw_draws R1 nq
                  clear R1 cp cq c2
                  generalize w1.drewN nq = w2 at *
                  have cx := blk_int R2.x (i := p) (by rw [XL.out]; exact hpn)
                  have fx := blk_free R2.x p
                  have R3 := rw_setx R2 hx2 hne p T1.2
                  have cy := blk_int R3.y (i := p) (by rw [YL.out]; exact hpn)
                  have fy := blk_free R3.y p
                  have R4 := Lib.hid (rw_sety R3 hy2 hne p U1.2)
                  clear R2 R3
                  go_wp2_with fail
                  refine (c3 _).mono ?_
                  rintro e w' ⟨rfl, rfl⟩
                  clear c3 cx fx cy fy
                  have R5 := R4.out
                  clear R4
                  generalize World.setCell _ _ _ = w3 at *
                  have cx := blk_int R5.x (i := q) (by rw [List.length_set, XL.out]; exact hqn)
                  have fx := blk_free R5.x q
                  have R6 := rw_setx R5 hx2 hne q V1.1
                  have cy := blk_int R6.y (i := q) (by rw [List.length_set, YL.out]; exact hqn)
                  have fy := blk_free R6.y q
                  have R7 := rw_sety R6 hy2 hne q V1.2
                  rw [← HEV.out, ← HOD.out] at R7
                  have R8 := Lib.hid R7
                  clear R5 R6 R7
                  go_wp2_with fail
                  go_roundg (1 - (m + 1))
                  case measure => omega
                  case rel => exact ⟨m + 1, by omega, by omega, by go_num, R8.out⟩
                · obtain rfl : m = 1 := by omega
                  have R6 := R.out
                  clear R
                  have hnx : stageIn wAhead 2 b 1 (stageTo wAhead 2 t z') = stageTo wAhead 2 (t + 1) z' := by rw [hbt.out]; rfl
                  rw [hnx] at R6
                  have R7 := Lib.hid R6
                  clear R6 hnx
                  go_wp2_with fail
                  go_roundg (8 - (t + 1))
                  case measure => omega
                  case rel => exact ⟨t + 1, b + 2, by omega, by omega, by have := hbt.out; show b + 2 = (t + 1) * 2; omega, by go_num, R7.out⟩
            · obtain rfl : t = 8 := by omega
              have hbz : ¬ (b : Int) < 16 := by omega
              have R6 := R.out
              rw [← HST.out] at R6
              have R7 := Lib.hid R6
              clear R R6 hbt2
              go_wp2_with fail
              go_roundg (4 - (3 + 1))
              case measure => omega
              case rel => exact ⟨3 + 1, by omega, by omega, rfl, R7.out⟩
        · have hm : stN z 4 = m4 := by rw [HM.out]; rfl
          have R3 := R.out
          rw [hm] at R3
          have R4 := Lib.hid (rw_alloc R3 (.cells #[Value.int .i64 0, Value.int .i64 0, Value.int .i64 0, Value.int .i64 0, Value.int .i64 0, Value.int .i64 0, Value.int .i64 0, Value.int .i64 0, Value.int .i64 0, Value.int .i64 0, Value.int .i64 0, Value.int .i64 0, Value.int .i64 0, Value.int .i64 0, Value.int .i64 0, Value.int .i64 0, Value.int .i64 0, Value.int .i64 0, Value.int .i64 0, Value.int .i64 0, Value.int .i64 0, Value.int .i64 0, Value.int .i64 0, Value.int .i64 0, Value.int .i64 0, Value.int .i64 0, Value.int .i64 0, Value.int .i64 0, Value.int .i64 0, Value.int .i64 0, Value.int .i64 0, Value.int .i64 0] 43))
          have hz32 : #[Value.int .i64 0, Value.int .i64 0, Value.int .i64 0, Value.int .i64 0, Value.int .i64 0, Value.int .i64 0, Value.int .i64 0, Value.int .i64 0, Value.int .i64 0, Value.int .i64 0, Value.int .i64 0, Value.int .i64 0, Value.int .i64 0, Value.int .i64 0, Value.int .i64 0, Value.int .i64 0, Value.int .i64 0, Value.int .i64 0, Value.int .i64 0, Value.int .i64 0, Value.int .i64 0, Value.int .i64 0, Value.int .i64 0, Value.int .i64 0, Value.int .i64 0, Value.int .i64 0, Value.int .i64 0, Value.int .i64 0, Value.int .i64 0, Value.int .i64 0, Value.int .i64 0, Value.int .i64 0] = ints (rOut m4 0) := by kernel_rfl
          have ho := blk_new wr 43 #[Value.int .i64 0, Value.int .i64 0, Value.int .i64 0, Value.int .i64 0, Value.int .i64 0, Value.int .i64 0, Value.int .i64 0, Value.int .i64 0, Value.int .i64 0, Value.int .i64 0, Value.int .i64 0, Value.int .i64 0, Value.int .i64 0, Value.int .i64 0, Value.int .i64 0, Value.int .i64 0, Value.int .i64 0, Value.int .i64 0, Value.int .i64 0, Value.int .i64 0, Value.int .i64 0, Value.int .i64 0, Value.int .i64 0, Value.int .i64 0, Value.int .i64 0, Value.int .i64 0, Value.int .i64 0, Value.int .i64 0, Value.int .i64 0, Value.int .i64 0, Value.int .i64 0, Value.int .i64 0]
          have hgx := blk_lt R3.x
          have hgy := blk_lt R3.y
          have hsz := R3.below.size
          have O4 : Hid (Blk (wr.alloc (.cells #[Value.int .i64 0, Value.int .i64 0, Value.int .i64 0, Value.int .i64 0, Value.int .i64 0, Value.int .i64 0, Value.int .i64 0, Value.int .i64 0, Value.int .i64 0, Value.int .i64 0, Value.int .i64 0, Value.int .i64 0, Value.int .i64 0, Value.int .i64 0, Value.int .i64 0, Value.int .i64 0, Value.int .i64 0, Value.int .i64 0, Value.int .i64 0, Value.int .i64 0, Value.int .i64 0, Value.int .i64 0, Value.int .i64 0, Value.int .i64 0, Value.int .i64 0, Value.int .i64 0, Value.int .i64 0, Value.int .i64 0, Value.int .i64 0, Value.int .i64 0, Value.int .i64 0, Value.int .i64 0] 43)) wr.heap.size 43 (ints (rOut m4 0))) := Lib.hid (by rw [← hz32]; exact ho)
          have FZ : Fit m4 := FM.out
          have FZ2 := Lib.hid FZ
          clear R R3 hm HS F16 F8 F4 F2 HM hz32 ho FZ FM
          rw [show szN 4 = 1 from rfl]
          go_wp2_with fail
          generalize hgo : wr.heap.size = go at *
          clear hgo
          go_loopg [20] 16 (fun gg s20 wq => ∃ n : Nat, n ≤ 16 ∧ 16 - n ≤ gg ∧ s20 = .int .i64 n ∧ Aside (RW w gx gy zs (ev m4) (od m4) wq) ∧ Aside (Blk wq go 43 (ints (rOut m4 n))))
          case atStart => exact ⟨0, Nat.zero_le _, by omega, rfl, R4.out, O4.out⟩
          case round =>
            clear R4 O4
            obtain ⟨n, hn, hgn, rfl, R, O⟩ := hrel
            by_cases hlt : n < 16
            · have hltz : (n : Int) < 16 := by omega
              have hn0 : 0 ≤ (n : Int) := by omega
              have q3 : IntKind.i64.wrap (8 * (n : Int)) = 8 * n := IntWalk.i64_in _ ⟨by omega, by omega⟩
              have q4 : IntKind.i64.wrap (8 * (n : Int) + 2) = 8 * n + 2 := IntWalk.i64_in _ ⟨by omega, by omega⟩
              have q5 : IntKind.i64.wrap (-(8 * (n : Int) + 2)) = -(8 * n + 2) := IntWalk.i64_in _ ⟨by omega, by omega⟩
              have hst := rOut_succ m4 n
              have cf := fun W => rflip_calls n W hlt
              have hfl := flip_lt n
              generalize flipN n = fl at *
              have f0 : 0 ≤ (fl : Int) := by omega
              have f1 : (fl : Int) < 16 := by omega
              have ca := blk_int R.out.x (i := fl) (by rw [ev_len]; exact hfl)
              have cb := blk_int R.out.y (i := fl) (by rw [od_len]; exact hfl)
              have ha := allIn_get FZ2.out (fl * 2)
              have hb := allIn_get FZ2.out (fl * 2 + 1)
              rw [← ev_get m4 hfl] at ha
              rw [← od_get m4 hfl] at hb
              generalize (ev m4).getD fl 0 = a at *
              generalize (od m4).getD fl 0 = b at *
              have ct := fun W => rturnL_calls a b (-(8 * (n : Int) + 2)) W (by omega) (by omega) (by omega) (by omega)
              have tb := turnL_in (k := -(8 * (n : Int) + 2)) (c := 274877906944) (by omega) ha.1 ha.2 hb.1 hb.2
              generalize turnL a b (-(8 * (n : Int) + 2)) = tt at *
              have HST := Lib.hid hst
              have OL := Lib.hid (rOut_len m4 n)
              generalize rOut m4 n = ou at *
              clear ha hb hst
              go_wp2_with fail
              go_quiet (first | (go_at_call 52; exact Calls.quiet_of_same ((cf _).mono fun _ _ h => ⟨h.1, h.2.symm⟩)) | (go_at_call 41; exact Calls.quiet_of_same ((ct _).mono fun _ _ h => ⟨h.1, h.2.symm⟩)))
              have R1 := rw_draws R.out nq
              have O1 := blk_draws O.out nq
              clear R O ca cb ct cf q3 q4 q5
              generalize wr.drewN nq = w1 at *
              have k1 : 0 ≤ 2 * (n : Int) := by omega
              have k2 : 2 * (n : Int) < 32 := by omega
              have k3 : (2 * (n : Int)).toNat = 2 * n := by omega
              have k4 : 0 ≤ 31 - 2 * (n : Int) := by omega
              have k5 : 31 - 2 * (n : Int) < 32 := by omega
              have k6 : (31 - 2 * (n : Int)).toNat = 31 - 2 * n := by omega
              have k7 : 2 * (n : Int) ≤ 31 := by omega
              have cx := blk_int O1 (i := 2 * n) (by rw [OL.out]; omega)
              have fx := blk_free O1 (2 * n)
              have O2 := blk_set_int O1 (2 * n) tt.1
              have cy := blk_int O2 (i := 31 - 2 * n) (by rw [List.length_set, OL.out]; omega)
              have fy := blk_free O2 (31 - 2 * n)
              have O3 := blk_set_int O2 (31 - 2 * n) (-tt.2)
              have R3 := Lib.hid (rw_far (rw_far R1 (g := go) (by omega) (by omega) (by omega) (2 * n) (.int .i64 tt.1)) (g := go) (by omega) (by omega) (by omega) (31 - 2 * n) (.int .i64 (-tt.2)))
              rw [← HST.out] at O3
              have O4 := Lib.hid O3
              clear R1 O1 O2 O3
              go_wp2_with fail
              go_roundg (16 - (n + 1))
              case measure => omega
              case rel => exact ⟨n + 1, by omega, by omega, by go_num, R3.out, O4.out⟩
            · obtain rfl : n = 16 := by omega
              have ol := rOut_len m4 16
              rw [← HO16.out] at ol
              have OL := Lib.hid ol
              have bR := R.out.below
              have hs := bR.size
              have rr := R.out.res
              have ro := O.out
              rw [← HO16.out] at ro
              clear hlt hn hgn R O HO16 ol
              go_wp2_with (first | (refine wpList_load_row rfl 43 _ rfl go rfl 43 (ints out) (0, 0) _ ro Try.underlying43 rfl (by rw [ints_size, OL.out]; kernel_rfl) ?_) | (refine wpList_store_blk rfl 43 _ _ rfl (w.heap.size + 1) 43 _ (ints out) rfl rfl rr (by rw [ints_size, ints_size, OL.out]; simp) (by rw [ints_size, OL.out]; kernel_rfl) (ints_one _) ?_; intro w2 n0 hg))
              exact bodyPost_ret (results_cell_row rfl _ _ (w.heap.size + 1) 43 (ints out) (0, 0) _ rfl n0 Try.underlying43 rfl (by rw [ints_size, OL.out]; kernel_rfl)) rfl ⟨rfl, below_grown bR hg hs (by omega)⟩
end Go.Proofs.Ytlfiaaoegeodnaa
