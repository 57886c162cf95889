/- Plain laws of layer 16: the step of four numbers, bands, numbers brought into their range. No Go in it. Contracts of the package band: whether there is a band, the step of coefficients. Contracts of t -/
import Derived.Test.YtiigipnfnfpepaaGreatDoorChecked
import Derived.Test.YtiigipnfnfpepaaGreatDoorUA
import Derived.Deep.LoopGhost
import Derived.IntWalk
import Derived.WalkLawsBesides
import Derived.Lib.MinMax
import Derived.Laws.IdiomCopy
import Derived.Test.YtiigipnfnfpepaaGreatDoorUC4
namespace Go.Proofs.YtiigipnfnfpepaaGreatDoor

def fitsB (m : Int) (zs : List Int) : Bool := !(zs.any fun x => decide (x < -m) || decide (m < x))
def stepUp (zs : List Int) : Nat → Nat
 | 0 => 15
 | k + 1 => if fitsB (6 * 2 ^ (14 - k)) zs then 14 - k else stepUp zs k
def stepL (zs : List Int) : Nat := stepUp zs 15
def IsStep (zs : List Int) (s : Nat) : Prop := s ≤ 15 ∧ (∀ j, j < s → fitsB (6 * 2 ^ j) zs = false) ∧ (s < 15 → fitsB (6 * 2 ^ s) zs = true)

theorem stepUp_of {zs : List Int} {s : Nat} (h : IsStep zs s) : ∀ k, k ≤ 15 → 15 - k ≤ s → stepUp zs k = s
 | 0, _, hs => by have := h.1; simp [stepUp]; omega
 | k + 1, hk, hs => by
  unfold stepUp
  split
  · next hf =>
    rcases Nat.lt_or_ge (14 - k) s with hlt | hge
    · have := h.2.1 _ hlt
      rw [this] at hf
      cases hf
    · omega
  · next hf =>
    refine stepUp_of h k (by omega) ?_
    rcases Nat.lt_or_ge s (15 - k) with hlt | hge
    · have e : s = 14 - k := by omega
      rw [← e] at hf
      exact absurd (h.2.2 (by omega)) hf
    · exact hge
theorem stepL_of {zs : List Int} {s : Nat} (h : IsStep zs s) : stepL zs = s := stepUp_of h 15 (Nat.le_refl _) (by omega)
theorem pow_le15 {s : Nat} (h : s ≤ 15) : (2 : Int) ^ s ≤ 32768 ∧ (1 : Int) ≤ 2 ^ s := by
 have hs : s = 0 ∨ s = 1 ∨ s = 2 ∨ s = 3 ∨ s = 4 ∨ s = 5 ∨ s = 6 ∨ s = 7 ∨ s = 8 ∨ s = 9 ∨ s = 10 ∨ s = 11 ∨ s = 12 ∨ s = 13 ∨ s = 14 ∨ s = 15 := by omega
 rcases hs with rfl | rfl | rfl | rfl | rfl | rfl | rfl | rfl | rfl | rfl | rfl | rfl | rfl | rfl | rfl | rfl <;> decide

def clampZ (x : Int) : Int := max (min x 1048576) (-1048576)
def bandL (zs : List Int) (b : Nat) : List Int := [zs.getD (4 * b) 0, zs.getD (4 * b + 1) 0, zs.getD (4 * b + 2) 0, zs.getD (4 * b + 3) 0]
theorem bandL_len (zs : List Int) (b : Nat) : (bandL zs b).length = 4 := rfl
def stepsL (zs : List Int) : List Int := (List.range 8).map fun b => (stepL (bandL zs b) : Int)
end Go.Proofs.YtiigipnfnfpepaaGreatDoor
namespace Go.Proofs.YtiigipnfnfpepaaGreatDoor
open Go.RowKit


set_option maxRecDepth 100000 in
theorem bandMay_calls (b : Int) (w : World) : Calls Tryz.prog 126 #[.int .i64 b] w fun e w' => e = .returned (.bool (decide (0 ≤ b) && decide (b < 8))) ∧ w = w' := by
 by_cases h : 0 ≤ b
 · by_cases h2 : b < 8
   · go_enter Tryz.func126, Tryz.ntmps126
     go_wp2
     go_ret
     exact ⟨by simp [h, h2], rfl⟩
   · go_enter Tryz.func126, Tryz.ntmps126
     go_wp2
     go_ret
     exact ⟨by simp [h2], rfl⟩
 · go_enter Tryz.func126, Tryz.ntmps126
   go_wp2
   go_ret
   exact ⟨by simp; omega, rfl⟩

set_option maxRecDepth 100000 in
theorem stepf_calls (x m : Int) (b : Nat) (W : World) (hm0 : 0 ≤ m) (hm : m ≤ 1099511627776) (hc : W.cell? ⟨b, 0, none⟩ = some (.int .i64 m)) :
 Calls Tryz.prog 153 #[.int .i64 x, .pointer (some ⟨b, 0, none⟩)] W fun e w' => e = .returned (.bool (decide (x < -m) || decide (m < x))) ∧ Below W.heap.size W w' := by
 by_cases h : x < -m
 · go_enter Tryz.func153, Tryz.ntmps153
   go_wp2
   go_ret
   exact ⟨by simp [h], by first | exact Below.refl _ _ | exact (Below.refl _ _).drew | exact below_draws (Below.refl _ _) _⟩
 · by_cases h2 : m < x
   · go_enter Tryz.func153, Tryz.ntmps153
     go_wp2
     go_ret
     exact ⟨by simp, by first | exact Below.refl _ _ | exact (Below.refl _ _).drew | exact below_draws (Below.refl _ _) _⟩
   · go_enter Tryz.func153, Tryz.ntmps153
     go_wp2
     go_ret
     exact ⟨by simp [h, h2], by first | exact Below.refl _ _ | exact (Below.refl _ _).drew | exact below_draws (Below.refl _ _) _⟩

set_option maxRecDepth 100000 in
set_option maxHeartbeats 1000000 in
theorem step_calls (zs : List Int) (w : World) (hl : zs.length = 4) (hi : ∀ z ∈ zs, -9223372036854775808 ≤ z ∧ z ≤ 9223372036854775807) :
 Calls Tryz.prog 121 #[.agg (ints zs)] w fun e w' => e = .returned (.int .i64 (stepL zs)) ∧ Below w.heap.size w w' := by
 have hg := blk_new w 43 (ints zs)
 have hA := (Below.refl _ w).alloc (Nat.le_refl _) (.cells (ints zs) 43)
 have eg : ∀ args w, (callFunc 153 args).run Tryz.prog w = .ok (.enter 153 args) w := enters_at Tryz.func153 (by kernel_rfl) rfl
 have EG := hid eg
 clear eg
 have HI := hid hi
 clear hi
 have HB := hid hg
 clear hg
 go_enter Tryz.func121, Tryz.ntmps121
 go_wp2_with fail
 go_loopg [5] 15 (fun gg s5 wr => ∃ kk : Nat, kk ≤ 15 ∧ 15 - kk ≤ gg ∧ s5 = .int .i64 kk ∧ Aside (Below w.heap.size w wr) ∧ Aside (Blk wr w.heap.size 43 (ints zs)) ∧ Aside (∀ j, j < kk → fitsB (6 * 2 ^ j) zs = false))
 case atStart => exact ⟨0, Nat.zero_le _, by omega, rfl, hA, HB.out, fun j hj => absurd hj (Nat.not_lt_zero _)⟩
 case round =>
  obtain ⟨kk, hkk, hg, rfl, B, K, A⟩ := hrel
  by_cases hlt : kk < 15
  · have hltz : (kk : Int) < 15 := by omega
    have hk0 : 0 ≤ (kk : Int) := by omega
    have hp := pow_le15 (s := kk) (by omega)
    have hw : wrap64 (6 * 2 ^ kk) = 6 * 2 ^ kk := IntWalk.wrap64_in _ ⟨by omega, by omega⟩
    have B1 := B.out.alloc (B.out.size) (.cells #[.int .i64 (6 * 2 ^ kk)] 3)
    have K1 := blk_alloc K.out (.cells #[.int .i64 (6 * 2 ^ kk)] 3)
    have hcall := containsf_calls 153 #[.pointer (some ⟨wr.heap.size, 0, none⟩)] (fun x => decide (x < -(6 * 2 ^ kk)) || decide (6 * 2 ^ kk < x)) w.heap.size 0 4 4 zs (wr.alloc (.cells #[.int .i64 (6 * 2 ^ kk)] 3)) hl (by omega) (blk_lt K1)
     (fun j hj => by rw [Nat.zero_add]; exact blk_int K1 (by omega)) HI.out EG.out (fun W x hb _ _ => (stepf_calls x (6 * 2 ^ kk) wr.heap.size W (by omega) (by omega) ((hb.cell (p := ⟨wr.heap.size, 0, none⟩) (by simp)).trans (by simp))).mono fun _ _ h => ⟨h.1, bnext hb h.2⟩)
    have HF := hid (show fitsB (6 * 2 ^ kk) zs = !(zs.any (fun x => decide (x < -(6 * 2 ^ kk)) || decide (6 * 2 ^ kk < x))) from rfl)
    clear hp
    generalize (zs.any (fun x => decide (x < -(6 * 2 ^ kk)) || decide (6 * 2 ^ kk < x))) = r at *
    cases r
    all_goals
     go_wp2_with fail
     refine hcall.mono ?_
     rintro e w1 ⟨rfl, hC⟩
     clear hcall
     go_wp2_with fail
    · go_ret
      have hz := HF.out
      exact ⟨ret_i64 (by rw [stepL_of ⟨by omega, A.out, fun _ => hz⟩]), bnext B1 hC⟩
    · go_roundg (15 - (kk + 1))
      case measure => omega
      case rel =>
       refine ⟨kk + 1, by omega, by omega, by go_num, bnext B1 hC, blk_below K1 hC (blk_lt K1), (show Aside _ from fun j hj => ?_)⟩
       by_cases e : j = kk
       · subst e; exact HF.out
       · exact A.out j (by omega)
  · have hltz : ¬ (kk : Int) < 15 := by omega
    have : kk = 15 := by omega
    subst this
    go_wp2_with fail
    go_ret
    exact ⟨ret_i64 (by rw [stepL_of ⟨Nat.le_refl _, A.out, fun hc => absurd hc (by omega)⟩]; rfl), B.out⟩
end Go.Proofs.YtiigipnfnfpepaaGreatDoor
namespace Go.Proofs.YtiigipnfnfpepaaGreatDoor
open Go.RowKit

theorem run_arrayAt {P : Program} (t e : TypeId) (n : Nat) (h : P.underlying t = some (.array n e)) (a : Option Addr) (len cap : Nat) (hl : n ≤ len) (w : World) :
 (Instr.arrayAt t (.slice a len cap)).run P w = .ok (.pointer a) w := by
 simp [Instr.arrayAt, run_underlying h, Nat.not_lt.2 hl]

theorem band_range {w : World} {g : Nat} {t : TypeId} {zs : List Int} {b : Nat} (h : Blk w g t (ints zs)) (hl : zs.length = 32) (hb : b < 8) : w.rangeAt g (4 * b) ((bandL zs b).map (Value.int .i64)) := fun j v hv => by
 have hj : j = 0 ∨ j = 1 ∨ j = 2 ∨ j = 3 := by
  have := (List.getElem?_eq_some_iff.1 hv).1
  simp [bandL] at this
  omega
 rcases hj with rfl | rfl | rfl | rfl <;> (simp only [bandL, List.map_cons, List.getElem?_cons_succ, List.getElem?_cons_zero, Option.some.injEq] at hv; subst hv; exact blk_int h (by omega))

set_option maxRecDepth 100000 in
set_option maxHeartbeats 1000000 in
theorem of_calls (zs : List Int) (b : Nat) (w : World) (hl : zs.length = 32) (hb : b < 8) :
 Calls Tryz.prog 81 #[.agg (ints zs), .int .i64 b] w fun e w' => e = .returned (.agg (ints (bandL zs b))) ∧ Below w.heap.size w w' := by
 have b0 := blk_alloc (blk_new w 94 (ints zs)) (.cells #[Value.int .i64 0, .int .i64 0, .int .i64 0, .int .i64 0] 43)
 have b1 := blk_new (w.alloc (.cells (ints zs) 94)) 43 #[Value.int .i64 0, .int .i64 0, .int .i64 0, .int .i64 0]
 have hA : Below w.heap.size w ((w.alloc (.cells (ints zs) 94)).alloc (.cells #[Value.int .i64 0, .int .i64 0, .int .i64 0, .int .i64 0] 43)) := ((Below.refl _ w).alloc (Nat.le_refl _) _).alloc (by simp) _
 have br := band_range b0 hl hb
 rw [show (w.alloc (.cells (ints zs) 94)).heap.size = w.heap.size + 1 by simp] at b1
 have ra := fun a len cap hl w => run_arrayAt (P := Tryz.prog) 43 3 4 Tryz.underlying43 a len cap hl w
 have hbb : b = 0 ∨ b = 1 ∨ b = 2 ∨ b = 3 ∨ b = 4 ∨ b = 5 ∨ b = 6 ∨ b = 7 := by omega
 clear b0 hb
 rcases hbb with rfl | rfl | rfl | rfl | rfl | rfl | rfl | rfl
 all_goals
  go_enter Tryz.func81, Tryz.ntmps81
  go_wp2_with (first | (go_at_call 126; refine (bandMay_calls _ _).mono ?_; rintro e w' ⟨rfl, rfl⟩) | (refine wpList_load_mid rfl 43 _ rfl w.heap.size _ rfl ((bandL zs _).map (Value.int .i64)) _ br Tryz.underlying43 rfl (by kernel_rfl) ?_) | (refine wpList_store_blk rfl 43 _ _ rfl (w.heap.size + 1) 43 _ (ints (bandL zs _)) rfl rfl b1 (by rw [ints_size]; rfl) (by rw [ints_size]; kernel_rfl) (ints_one _) ?_; intro w2 n0 hg))
  exact bodyPost_ret (results_cell_row rfl _ _ (w.heap.size + 1) 43 (ints (bandL zs _)) (0, 0) _ rfl n0 Tryz.underlying43 rfl (by rw [ints_size]; kernel_rfl)) rfl ⟨rfl, below_grown hA hg (by simp; omega) (by omega)⟩

set_option maxRecDepth 100000 in
theorem rightf_calls (x : Int) (W : World) : Calls Tryz.prog 103 #[.int .i64 x] W fun e w' => e = .returned (.bool (decide (x < 0) || decide (15 < x))) ∧ Below W.heap.size W w' := by
 by_cases h : x < 0
 · go_enter Tryz.func103, Tryz.ntmps103
   go_wp2
   go_ret
   exact ⟨by simp [h], by first | exact Below.refl _ _ | exact (Below.refl _ _).drew | exact below_draws (Below.refl _ _) _⟩
 · by_cases h2 : 15 < x
   · go_enter Tryz.func103, Tryz.ntmps103
     go_wp2
     go_ret
     exact ⟨by simp, by first | exact Below.refl _ _ | exact (Below.refl _ _).drew | exact below_draws (Below.refl _ _) _⟩
   · go_enter Tryz.func103, Tryz.ntmps103
     go_wp2
     go_ret
     exact ⟨by simp; omega, by first | exact Below.refl _ _ | exact (Below.refl _ _).drew | exact below_draws (Below.refl _ _) _⟩

def rightB (zs : List Int) : Bool := !(zs.any fun x => decide (x < 0) || decide (15 < x))

set_option maxRecDepth 100000 in
theorem right_calls (zs : List Int) (w : World) (hl : zs.length = 8) (hi : ∀ z ∈ zs, -9223372036854775808 ≤ z ∧ z ≤ 9223372036854775807) :
 Calls Tryz.prog 58 #[.agg (ints zs)] w fun e w' => e = .returned (.bool (rightB zs)) ∧ Below w.heap.size w w' := by
 have hg := blk_new w 42 (ints zs)
 have eg : ∀ args w, (callFunc 103 args).run Tryz.prog w = .ok (.enter 103 args) w := enters_at Tryz.func103 (by kernel_rfl) rfl
 have hcall := containsf_calls 103 #[] (fun x => decide (x < 0) || decide (15 < x)) w.heap.size 0 8 8 zs (w.alloc (.cells (ints zs) 42)) hl (by omega) (by simp)
  (fun j hj => by rw [Nat.zero_add]; exact blk_int hg (by omega)) hi eg (fun W x hb _ _ => (rightf_calls x W).mono fun _ _ h => ⟨h.1, bnext hb h.2⟩)
 unfold rightB
 clear eg hg hi
 generalize zs.any (fun x => decide (x < 0) || decide (15 < x)) = r at *
 go_enter Tryz.func58, Tryz.ntmps58
 go_wp2_with fail
 refine hcall.mono ?_
 rintro e w1 ⟨rfl, hB⟩
 go_wp2_with fail
 go_ret
 exact ⟨rfl, bnext ((Below.refl _ w).alloc (Nat.le_refl _) _) hB⟩
end Go.Proofs.YtiigipnfnfpepaaGreatDoor
namespace Go.Proofs.YtiigipnfnfpepaaGreatDoor
open Go.RowKit

theorem bandL_in {zs : List Int} (hi : ∀ z ∈ zs, -9223372036854775808 ≤ z ∧ z ≤ 9223372036854775807) (b : Nat) : ∀ z ∈ bandL zs b, -9223372036854775808 ≤ z ∧ z ≤ 9223372036854775807 := by
 have h : ∀ i, -9223372036854775808 ≤ zs.getD i 0 ∧ zs.getD i 0 ≤ 9223372036854775807 := fun i => by
  rw [List.getD_eq_getElem?_getD]
  rcases Nat.lt_or_ge i zs.length with hlt | hge
  · rw [List.getElem?_eq_getElem hlt]; exact hi _ (List.getElem_mem hlt)
  · rw [List.getElem?_eq_none hge]; decide
 intro z hz
 simp only [bandL, List.mem_cons, List.not_mem_nil, or_false] at hz
 rcases hz with rfl | rfl | rfl | rfl <;> exact h _

set_option maxRecDepth 100000 in
set_option maxHeartbeats 1000000 in
theorem steps_calls (zs : List Int) (w : World) (hl : zs.length = 32) (hi : ∀ z ∈ zs, -9223372036854775808 ≤ z ∧ z ≤ 9223372036854775807) :
 Calls Tryz.prog 79 #[.agg (ints zs)] w fun e w' => e = .returned (.agg (ints (stepsL zs))) ∧ Below w.heap.size w w' := by
 have b0 := blk_alloc (blk_alloc (blk_new w 94 (ints zs)) (.cells #[Value.int .i64 0, .int .i64 0, .int .i64 0, .int .i64 0, .int .i64 0, .int .i64 0, .int .i64 0, .int .i64 0] 42)) (.cells #[Value.int .i64 0, .int .i64 0, .int .i64 0, .int .i64 0, .int .i64 0, .int .i64 0, .int .i64 0, .int .i64 0] 42)
 have b1 := blk_alloc (blk_new (w.alloc (.cells (ints zs) 94)) 42 (ints (List.replicate 8 0))) (.cells #[Value.int .i64 0, .int .i64 0, .int .i64 0, .int .i64 0, .int .i64 0, .int .i64 0, .int .i64 0, .int .i64 0] 42)
 have b2 := blk_new ((w.alloc (.cells (ints zs) 94)).alloc (.cells #[Value.int .i64 0, .int .i64 0, .int .i64 0, .int .i64 0, .int .i64 0, .int .i64 0, .int .i64 0, .int .i64 0] 42)) 42 (ints (List.replicate 8 0))
 rw [show (w.alloc (.cells (ints zs) 94)).heap.size = w.heap.size + 1 by simp] at b1
 rw [show ((w.alloc (.cells (ints zs) 94)).alloc (.cells #[Value.int .i64 0, .int .i64 0, .int .i64 0, .int .i64 0, .int .i64 0, .int .i64 0, .int .i64 0, .int .i64 0] 42)).heap.size = w.heap.size + 2 by simp] at b2
 have hA : Below w.heap.size w (((w.alloc (.cells (ints zs) 94)).alloc (.cells #[Value.int .i64 0, .int .i64 0, .int .i64 0, .int .i64 0, .int .i64 0, .int .i64 0, .int .i64 0, .int .i64 0] 42)).alloc (.cells #[Value.int .i64 0, .int .i64 0, .int .i64 0, .int .i64 0, .int .i64 0, .int .i64 0, .int .i64 0, .int .i64 0] 42)) := (((Below.refl _ w).alloc (Nat.le_refl _) _).alloc (by simp) _).alloc (by simp; omega) _
 have B0 := hid b0
 have B1 := hid b1
 have B2 := hid b2
 have HI := hid hi
 clear b0 b1 b2 hi
 go_enter Tryz.func79, Tryz.ntmps79
 go_wp2_with fail
 go_loopg [5] 8 (fun gg s5 wr => ∃ kk : Nat, kk ≤ 8 ∧ 8 - kk ≤ gg ∧ s5 = .int .i64 kk ∧ Aside (Below w.heap.size w wr) ∧ Aside (Blk wr w.heap.size 94 (ints zs)) ∧ Aside (Blk wr (w.heap.size + 1) 42 (ints (List.replicate 8 0))) ∧ Aside (Blk wr (w.heap.size + 2) 42 (ints (overTo (fun b => (stepL (bandL zs b) : Int)) (List.replicate 8 0) kk))))
 case atStart => exact ⟨0, Nat.zero_le _, by omega, rfl, hA, B0.out, B1.out, by rw [overTo_zero]; exact B2.out⟩
 case round =>
  obtain ⟨kk, hkk, hg, rfl, B, K0, K1, K2⟩ := hrel
  by_cases hlt : kk < 8
  · have hltz : (kk : Int) < 8 := by omega
    have k0 := K0.out
    go_wp2_with (first | (refine wpList_load_row rfl 94 _ rfl w.heap.size rfl 94 (ints zs) (0, 0) _ k0 Tryz.underlying94 rfl (by rw [ints_size, hl]; kernel_rfl) ?_))
    refine (of_calls zs kk _ hl hlt).mono ?_
    rintro e w1 ⟨rfl, hC⟩
    have B1 := bnext B.out hC
    have k0' := blk_below k0 hC (blk_lt k0)
    have k1' := blk_below K1.out hC (blk_lt K1.out)
    have k2' := blk_below K2.out hC (blk_lt K2.out)
    clear k0 hC B K0 K1 K2
    have E0 := hid k0'
    have E1 := hid k1'
    have E2 := hid k2'
    have BB := hid B1
    clear k0' k1' k2' B1
    go_wp2_with fail
    refine (step_calls (bandL zs kk) _ (bandL_len _ _) (bandL_in HI.out kk)).mono ?_
    rintro e w2 ⟨rfl, hC⟩
    have B2 := bnext BB.out hC
    have k0 := blk_below E0.out hC (blk_lt E0.out)
    have k1 := blk_below E1.out hC (blk_lt E1.out)
    have k2 := blk_below E2.out hC (blk_lt E2.out)
    clear hC E0 E1 E2 BB
    have hlo := overTo_len (fun b => (stepL (bandL zs b) : Int)) (List.replicate 8 0) kk
    have c2 := blk_int k2 (i := kk) (by rw [hlo]; simpa using hlt)
    have f2 := blk_free k2 kk
    generalize hs : (stepL (bandL zs kk) : Int) = s at *
    have HS := hid hs
    have F0 := hid k0
    have F1 := hid k1
    have F2 := hid k2
    clear hs k0 k1 k2
    go_wp2_with fail
    go_roundg (8 - (kk + 1))
    case measure => omega
    case rel =>
     refine ⟨kk + 1, by omega, by omega, by go_num, B2.setCell (p := ⟨_, _, none⟩) (by show w.heap.size ≤ w.heap.size + 1 + 1; omega) _, blk_far F0.out (by omega) _, blk_far F1.out (by omega) _, ?_⟩
     have h := blk_set_int F2.out kk s
     rw [overTo_succ (by rw [← HS.out]) (by simpa using hlt)] at h
     exact h
  · have hltz : ¬ (kk : Int) < 8 := by omega
    have : kk = 8 := by omega
    subst this
    have k1 := K1.out
    have k2 := K2.out
    rw [overTo_all (by simp), show (List.range 8).map (fun b => (stepL (bandL zs b) : Int)) = stepsL zs from rfl] at k2
    have hls : (stepsL zs).length = 8 := by simp [stepsL]
    have hsz := B.out.size
    clear K0 K1 K2
    go_wp2_with (first | (refine wpList_load_row rfl 42 _ rfl (w.heap.size + 2) rfl 42 (ints (stepsL zs)) (0, 0) _ k2 Tryz.underlying42 rfl (by rw [ints_size, hls]; kernel_rfl) ?_) | (refine wpList_store_blk rfl 42 _ _ rfl (w.heap.size + 1) 42 _ (ints (stepsL zs)) rfl rfl k1 (by rw [ints_size, ints_size, hls]; simp) (by rw [ints_size, hls]; kernel_rfl) (ints_one _) ?_; intro w2 n0 hg))
    exact bodyPost_ret (results_cell_row rfl _ _ (w.heap.size + 1) 42 (ints (stepsL zs)) (0, 0) _ rfl n0 Tryz.underlying42 rfl (by rw [ints_size, hls]; kernel_rfl)) rfl ⟨rfl, below_grown B.out hg hsz (by omega)⟩

theorem run_index_ints {P : Program} {t e : TypeId} {n : Nat} {inf : TypeInfo} (ht : P.underlying t = some (.array n e)) (he : P.underlying e = some (.int .i64)) (hi : P.info? e = some inf) (h1 : inf.size = 1) (zs : List Int) (hl : zs.length = n) (i : Nat) (hlt : i < n) (w : World) :
 (Instr.index t (.agg (ints zs)) (.int .i64 i)).run P w = .ok (.int .i64 (zs.getD i 0)) w := by
 have hx : (ints zs)[i]? = some (.int .i64 (zs.getD i 0)) := by rw [ints_get, List.getElem?_eq_getElem (by omega)]; simp [List.getD, List.getElem?_eq_getElem (by omega : i < zs.length)]
 have hp : P.plainKey e = true := by simp [Program.plainKey, he]
 have hlz : (0 : Int) ≤ (i : Int) ∧ (i : Int) < (n : Int) := by omega
 have hr := run_part_plain w hp hx
 have hlz1 := hlz.1
 have hlz2 := hlz.2
 simp [Instr.index, asIntOf, run_underlying ht, hlt, sizeOf, typeInfo, hi, h1, hr, -List.getD_eq_getElem?_getD]

set_option maxRecDepth 100000 in
set_option maxHeartbeats 1000000 in
theorem clamp_calls (zs : List Int) (w : World) (hl : zs.length = 32) :
 Calls Tryz.prog 78 #[.agg (ints zs)] w fun e w' => e = .returned (.agg (ints (zs.map clampZ))) ∧ Below w.heap.size w w' := by
 have b0 := blk_alloc (blk_new w 94 (ints zs)) (.cells #[Value.int .i64 0, .int .i64 0, .int .i64 0, .int .i64 0, .int .i64 0, .int .i64 0, .int .i64 0, .int .i64 0, .int .i64 0, .int .i64 0, .int .i64 0, .int .i64 0, .int .i64 0, .int .i64 0, .int .i64 0, .int .i64 0, .int .i64 0, .int .i64 0, .int .i64 0, .int .i64 0, .int .i64 0, .int .i64 0, .int .i64 0, .int .i64 0, .int .i64 0, .int .i64 0, .int .i64 0, .int .i64 0, .int .i64 0, .int .i64 0, .int .i64 0, .int .i64 0] 94)
 have b1 := blk_new (w.alloc (.cells (ints zs) 94)) 94 (ints (List.replicate 32 0))
 rw [show (w.alloc (.cells (ints zs) 94)).heap.size = w.heap.size + 1 by simp] at b1
 have hA : Below w.heap.size w ((w.alloc (.cells (ints zs) 94)).alloc (.cells #[Value.int .i64 0, .int .i64 0, .int .i64 0, .int .i64 0, .int .i64 0, .int .i64 0, .int .i64 0, .int .i64 0, .int .i64 0, .int .i64 0, .int .i64 0, .int .i64 0, .int .i64 0, .int .i64 0, .int .i64 0, .int .i64 0, .int .i64 0, .int .i64 0, .int .i64 0, .int .i64 0, .int .i64 0, .int .i64 0, .int .i64 0, .int .i64 0, .int .i64 0, .int .i64 0, .int .i64 0, .int .i64 0, .int .i64 0, .int .i64 0, .int .i64 0, .int .i64 0] 94)) := ((Below.refl _ w).alloc (Nat.le_refl _) _).alloc (by simp) _
 obtain ⟨inf, hinf⟩ := info_of_underlying (P := Tryz.prog) (t := 3) Tryz.underlying3
 have hsz1 : inf.size = 1 := by have h : (Tryz.prog.info? 3).map (·.size) = some 1 := by kernel_rfl
                                rw [hinf] at h; simpa using h
 have hx := fun i hlt w => run_index_ints (P := Tryz.prog) (t := 94) Tryz.underlying94 Tryz.underlying3 hinf hsz1 zs hl i hlt w
 have HX := hid hx
 have B0 := hid b0
 have B1 := hid b1
 clear b1 hx hinf hsz1
 go_enter Tryz.func78, Tryz.ntmps78
 go_wp2_with (first | (refine wpList_load_row rfl 94 _ rfl w.heap.size rfl 94 (ints zs) (0, 0) _ b0 Tryz.underlying94 rfl (by rw [ints_size, hl]; kernel_rfl) ?_))
 clear b0
 go_loopg [6] 32 (fun gg s6 wr => ∃ kk : Nat, kk ≤ 32 ∧ 32 - kk ≤ gg ∧ s6 = .int .i64 kk ∧ Aside (Below w.heap.size w wr) ∧ Aside (Blk wr w.heap.size 94 (ints (overTo (fun i => clampZ (zs.getD i 0)) zs kk))) ∧ Aside (Blk wr (w.heap.size + 1) 94 (ints (List.replicate 32 0))))
 case atStart => exact ⟨0, Nat.zero_le _, by omega, rfl, hA, by rw [overTo_zero]; exact B0.out, B1.out⟩
 case round =>
  obtain ⟨kk, hkk, hg, rfl, B, K0, K1⟩ := hrel
  by_cases hlt : kk < 32
  · have hltz : (kk : Int) < 32 := by omega
    have hlo := overTo_len (fun i => clampZ (zs.getD i 0)) zs kk
    have c0 := blk_int K0.out (i := kk) (by omega)
    have f0 := blk_free K0.out kk
    have hxx := HX.out kk hlt
    generalize hs : zs.getD kk 0 = s at *
    have HS := hid hs
    clear hs
    go_wp2_with fail
    go_roundg (32 - (kk + 1))
    case measure => omega
    case rel =>
     refine ⟨kk + 1, by omega, by omega, by go_num, B.out.setCell (p := ⟨_, _, none⟩) (Nat.le_refl _) _, ?_, blk_far K1.out (by omega) _⟩
     have h := blk_set_int K0.out kk (clampZ s)
     rw [overTo_succ (by rw [← HS.out]) (by omega)] at h
     exact h
  · have hltz : ¬ (kk : Int) < 32 := by omega
    have : kk = 32 := by omega
    subst this
    have k0 := K0.out
    have k1 := K1.out
    rw [overTo_all hl, range_map_get hl] at k0
    have hls : (zs.map clampZ).length = 32 := by rw [List.length_map, hl]
    have hsz := B.out.size
    clear K0 K1
    go_wp2_with (first | (refine wpList_load_row rfl 94 _ rfl w.heap.size rfl 94 (ints (zs.map clampZ)) (0, 0) _ k0 Tryz.underlying94 rfl (by rw [ints_size, hls]; kernel_rfl) ?_) | (refine wpList_store_blk rfl 94 _ _ rfl (w.heap.size + 1) 94 _ (ints (zs.map clampZ)) rfl rfl k1 (by rw [ints_size, ints_size, hls]; simp) (by rw [ints_size, hls]; kernel_rfl) (ints_one _) ?_; intro w2 n0 hg))
    exact bodyPost_ret (results_cell_row rfl _ _ (w.heap.size + 1) 94 (ints (zs.map clampZ)) (0, 0) _ rfl n0 Tryz.underlying94 rfl (by rw [ints_size, hls]; kernel_rfl)) rfl ⟨rfl, below_grown B.out hg hsz (by omega)⟩
end Go.Proofs.YtiigipnfnfpepaaGreatDoor
namespace Go.Proofs.YtiigipnfnfpepaaGreatDoor
open Go.RowKit

theorem pGain_calls (s : Nat) (w : World) (hs : s ≤ 15) : Calls Tryz.prog 122 #[.int .i64 s] w fun e w' => e = .returned (.int .i64 (2 ^ s)) ∧ w = w' := by
 have s0 : (0 : Int) ≤ s := by omega
 have s1 : (s : Int) ≤ 15 := by omega
 have hp : (2 : Int) ^ s ≤ 32768 := by
  have h : s = 0 ∨ s = 1 ∨ s = 2 ∨ s = 3 ∨ s = 4 ∨ s = 5 ∨ s = 6 ∨ s = 7 ∨ s = 8 ∨ s = 9 ∨ s = 10 ∨ s = 11 ∨ s = 12 ∨ s = 13 ∨ s = 14 ∨ s = 15 := by omega
  rcases h with rfl | rfl | rfl | rfl | rfl | rfl | rfl | rfl | rfl | rfl | rfl | rfl | rfl | rfl | rfl | rfl <;> decide
 have hp0 : (0 : Int) < 2 ^ s := Int.pow_pos (by omega)
 have i0 : IntKind.i64.wrap (2 ^ s) = (2 : Int) ^ s := IntWalk.i64_in _ (by omega)
 have i1 : IntKind.i64.wrap (1 * 2 ^ s) = (2 : Int) ^ s := by rw [Int.one_mul]; exact i0
 clear hp hp0
 go_enter Tryz.func122, Tryz.ntmps122
 go_wp2_with fail
 go_ret
 exact ⟨rfl, rfl⟩

theorem pSize_calls (x : Int) (w : World) (h0 : -4611686018427387904 ≤ x) (h1 : x ≤ 4611686018427387904) : Calls Tryz.prog 124 #[.int .i64 x] w fun e w' => e = .returned (.int .i64 (x.natAbs : Int)) ∧ w = w' := by
 have i0 : IntKind.i64.wrap (-x) = -x := IntWalk.i64_in _ (by omega)
 go_enter Tryz.func124, Tryz.ntmps124
 go_wp2_with fail
 all_goals (
  go_ret
  exact ⟨ret_i64 (by omega), rfl⟩)

set_option maxRecDepth 20000 in
set_option maxHeartbeats 1000000 in
theorem pHeld_calls (zs : List Int) (w : World) (hl : zs.length = 4) (hi : ∀ i, i < 4 → -1048576 ≤ zs.getD i 0 ∧ zs.getD i 0 ≤ 1048576) : Calls Tryz.prog 123 #[.agg (ints zs)] w fun e w' => e = .returned (.bool true) ∧ Below w.heap.size w w' := by
 obtain ⟨inf, hinf⟩ := info_of_underlying (P := Tryz.prog) (t := 3) Tryz.underlying3
 have hsz1 : inf.size = 1 := by have h : (Tryz.prog.info? 3).map (·.size) = some 1 := by kernel_rfl
                                rw [hinf] at h; simpa using h
 have HX := hid (fun i hlt w => run_index_ints (P := Tryz.prog) (t := 43) Tryz.underlying43 Tryz.underlying3 hinf hsz1 zs hl i hlt w)
 have HI := hid hi
 have HB := hid (blk_new w 43 (ints zs))
 have B0 := hid ((Below.refl w.heap.size w).alloc (Nat.le_refl _) (.cells (ints zs) 43))
 have HSZ := hid (show (Tryz.prog.info? 43).map (·.size) = some (ints zs).size by rw [ints_size, hl]; kernel_rfl)
 clear hinf hsz1 hi hl
 go_enter Tryz.func123, Tryz.ntmps123
 go_wp2_with (first | (refine wpList_load_blk (by rfl) 43 _ rfl w.heap.size rfl 43 (ints zs) _ HB.out Tryz.underlying43 rfl HSZ.out ?_))
 go_loopg [6] 4 (fun gg s6 wr => ∃ k : Nat, k ≤ 4 ∧ 4 - k ≤ gg ∧ s6 = .int .i64 k ∧ Aside (Below w.heap.size w wr))
 case atStart => exact ⟨0, Nat.zero_le _, by omega, rfl, B0.out⟩
 case round =>
  clear B0 HB
  obtain ⟨k, hk, hgk, rfl, B⟩ := hrel
  by_cases hlt : k < 4
  · have hkz : (k : Int) < 4 := by omega
    have hx := HX.out k hlt
    obtain ⟨h0, h1⟩ := HI.out k hlt
    generalize zs.getD k 0 = y at *
    go_wp2_with fail
    go_roundg (4 - (k + 1))
    case measure => omega
    case rel => exact ⟨k + 1, by omega, by omega, by go_num, B.out⟩
  · obtain rfl : k = 4 := by omega
    go_wp2_with fail
    go_ret
    exact ⟨rfl, B.out⟩
end Go.Proofs.YtiigipnfnfpepaaGreatDoor
namespace Go.Proofs.YtiigipnfnfpepaaGreatDoor
open Go.RowKit

theorem gBits_calls (s : Nat) (w : World) (h0 : 12 ≤ s) (h1 : s ≤ 24) : Calls Tryz.prog 26 #[.int .i64 s] w fun e w' => e = .returned (.int .i64 (8 * (s : Int) - 64)) ∧ w = w' := by
 have f0 : (12 : Int) ≤ s := by omega
 have f1 : (s : Int) ≤ 24 := by omega
 have i0 : IntKind.i64.wrap (8 * (s : Int)) = 8 * (s : Int) := IntWalk.i64_in _ (by omega)
 have i1 : IntKind.i64.wrap (8 * (s : Int) - 64) = 8 * (s : Int) - 64 := IntWalk.i64_in _ (by omega)
 go_enter Tryz.func26, Tryz.ntmps26
 go_wp2_with fail
 go_ret
 exact ⟨rfl, rfl⟩

def costTo (k : Nat) : List Int := (List.range 13).map fun i => if i < k then (bitsK i : Int) else 0
def costL : List Int := (List.range 13).map fun i => (bitsK i : Int)
theorem costTo_len (k : Nat) : (costTo k).length = 13 := by simp [costTo]
theorem costTo_succ {k : Nat} (_hk : k < 13) : (costTo k).set k (bitsK k : Int) = costTo (k + 1) := by
 apply List.ext_getElem (by simp [costTo])
 intro i h1 h2
 rw [List.getElem_set]
 simp only [costTo, List.getElem_map, List.getElem_range]
 by_cases e : k = i
 · subst e
   rw [if_pos rfl, if_pos (by omega)]
 · rw [if_neg e]
   by_cases h : i < k
   · rw [if_pos h, if_pos (by omega)]
   · rw [if_neg h, if_neg (by omega)]
theorem costTo_all : costTo 13 = costL := by
 apply List.map_congr_left
 intro i hi
 rw [if_pos (List.mem_range.1 hi)]

set_option maxRecDepth 20000 in
set_option maxHeartbeats 1000000 in
theorem table_calls (w : World) : Calls Tryz.prog 59 #[] w fun e w' => e = .returned (.agg (ints costL)) ∧ Below w.heap.size w w' := by
 have hz : (#[Value.int .i64 0, .int .i64 0, .int .i64 0, .int .i64 0, .int .i64 0, .int .i64 0, .int .i64 0, .int .i64 0, .int .i64 0, .int .i64 0, .int .i64 0, .int .i64 0, .int .i64 0] : Array Value) = ints (costTo 0) := by kernel_rfl
 have HZ := hid (blk_alloc (blk_new w 116 #[Value.int .i64 0, .int .i64 0, .int .i64 0, .int .i64 0, .int .i64 0, .int .i64 0, .int .i64 0, .int .i64 0, .int .i64 0, .int .i64 0, .int .i64 0, .int .i64 0, .int .i64 0]) (.cells #[Value.int .i64 0, .int .i64 0, .int .i64 0, .int .i64 0, .int .i64 0, .int .i64 0, .int .i64 0, .int .i64 0, .int .i64 0, .int .i64 0, .int .i64 0, .int .i64 0, .int .i64 0] 116))
 have o0 := blk_new (w.alloc (.cells #[Value.int .i64 0, .int .i64 0, .int .i64 0, .int .i64 0, .int .i64 0, .int .i64 0, .int .i64 0, .int .i64 0, .int .i64 0, .int .i64 0, .int .i64 0, .int .i64 0, .int .i64 0] 116)) 116 #[Value.int .i64 0, .int .i64 0, .int .i64 0, .int .i64 0, .int .i64 0, .int .i64 0, .int .i64 0, .int .i64 0, .int .i64 0, .int .i64 0, .int .i64 0, .int .i64 0, .int .i64 0]
 rw [World.size_alloc] at o0
 have HO := hid o0
 have B0 := hid (((Below.refl w.heap.size w).alloc (Nat.le_refl _) (.cells #[Value.int .i64 0, .int .i64 0, .int .i64 0, .int .i64 0, .int .i64 0, .int .i64 0, .int .i64 0, .int .i64 0, .int .i64 0, .int .i64 0, .int .i64 0, .int .i64 0, .int .i64 0] 116)).alloc (by simp) (.cells #[Value.int .i64 0, .int .i64 0, .int .i64 0, .int .i64 0, .int .i64 0, .int .i64 0, .int .i64 0, .int .i64 0, .int .i64 0, .int .i64 0, .int .i64 0, .int .i64 0, .int .i64 0] 116))
 have HCS := hid (ints_size costL)
 have hcl : costL.length = 13 := by simp [costL]
 have HSZ := hid (show (Tryz.prog.info? 116).map (·.size) = some (ints costL).size by rw [ints_size, hcl]; kernel_rfl)
 have HSS := hid (show (ints costL).size = (ints (costTo 0)).size by rw [ints_size, ints_size, hcl, costTo_len])
 have HS1 := hid (ints_one costL)
 have HH := hid hz
 clear o0 hcl hz
 go_enter Tryz.func59, Tryz.ntmps59
 go_wp2_with fail
 rw [HH.out] at HZ HO B0 ⊢
 generalize (w.alloc (.cells (ints (costTo 0)) 116)).alloc (.cells (ints (costTo 0)) 116) = w1 at *
 go_loopg [3] 13 (fun gg s3 wr => ∃ k : Nat, k ≤ 13 ∧ 13 - k ≤ gg ∧ s3 = .int .i64 k ∧ Aside (Below w.heap.size w wr) ∧ Aside (Blk wr w.heap.size 116 (ints (costTo 0))) ∧ Aside (Blk wr (w.heap.size + 1) 116 (ints (costTo k))))
 case atStart => exact ⟨0, Nat.zero_le _, by omega, rfl, B0.out, HZ.out, HO.out⟩
 case round =>
  clear B0 HZ HO
  obtain ⟨k, hk, hgk, rfl, B, Z, O⟩ := hrel
  have hs := blk_lt O.out
  by_cases hlt : k < 13
  · have hkz : (k : Int) < 13 := by omega
    have hk0 : (0 : Int) ≤ k := by omega
    have cb := pvqBits_calls k wr (by omega)
    have HC := hid (costTo_succ hlt)
    have HL := hid (costTo_len k)
    generalize (bitsK k : Int) = b at *
    go_wp2_with fail
    refine cb.mono ?_
    rintro e w2 ⟨rfl, B2⟩
    have O2 := blk_below O.out B2 hs
    have Z2 := blk_below Z.out B2 (by omega)
    have B3 := bnext B.out B2
    have cx := blk_int O2 (i := k) (by rw [HL.out]; exact hlt)
    have fx := blk_free O2 k
    have o3 := blk_set_int O2 k b
    rw [HC.out] at o3
    have O3 := hid o3
    have Z3 := hid (blk_far Z2 (b := w.heap.size + 1) (i := k) (by omega) (.int .i64 b))
    have B4 := hid (below_set B3 (b := w.heap.size + 1) (i := k) (by omega) (.int .i64 b))
    generalize (costTo k).getD k 0 = y at *
    clear cb B2 O2 Z2 B3 o3 B Z O HC
    go_wp2_with fail
    go_roundg (13 - (k + 1))
    case measure => omega
    case rel => exact ⟨k + 1, by omega, by omega, by go_num, B4.out, Z3.out, O3.out⟩
  · obtain rfl : k = 13 := by omega
    have O1 := O.out
    rw [costTo_all] at O1
    have O2 := hid O1
    clear O O1
    generalize hcs : ints costL = cs at *
    have HCC := hid hcs
    clear hcs
    go_wp2_with (first | (refine wpList_load_blk (by rfl) 116 _ rfl (w.heap.size + 1) rfl 116 cs _ O2.out Tryz.underlying116 rfl HSZ.out ?_) | (refine wpList_store_blk rfl 116 _ _ rfl w.heap.size 116 _ cs rfl rfl Z.out HSS.out HSZ.out HS1.out ?_; intro w5 n0 n1))
    have B5 := hid (below_grown B.out n1 B.out.size (Nat.le_refl _))
    exact bodyPost_ret (results_cell_row rfl _ _ w.heap.size 116 cs (0, 0) _ rfl n0 Tryz.underlying116 rfl HSZ.out) rfl ⟨by rw [← HCC.out], B5.out⟩
end Go.Proofs.YtiigipnfnfpepaaGreatDoor
namespace Go.Proofs.YtiigipnfnfpepaaGreatDoor
open Go.RowKit

def aheadB (a b : Int × Int) : Bool := decide (b.2 < a.2) || (decide (a.2 = b.2) && decide (a.1 < b.1))

set_option maxHeartbeats 2000000 in
theorem gAhead_calls (a b : Int × Int) (w : World) : Calls Tryz.prog 60 #[.agg (ints [a.1, a.2]), .agg (ints [b.1, b.2])] w fun e w' => e = .returned (.bool (aheadB a b)) ∧ Below w.heap.size w w' := by
 obtain ⟨a1, a2⟩ := a
 obtain ⟨b1, b2⟩ := b
 have B0 := hid (((Below.refl w.heap.size w).alloc (Nat.le_refl _) (.cells (ints [a1, a2]) 125)).alloc (by simp) (.cells (ints [b1, b2]) 125))
 have HB := hid (show aheadB (a1, a2) (b1, b2) = (decide (b2 < a2) || (decide (a2 = b2) && decide (a1 < b1))) from rfl)
 have k0 := blk_alloc (blk_new w 125 (ints [a1, a2])) (.cells (ints [b1, b2]) 125)
 have k1 := blk_new (w.alloc (.cells (ints [a1, a2]) 125)) 125 (ints [b1, b2])
 rw [World.size_alloc] at k1
 have c00 := blk_int k0 (i := 0) (by simp)
 have c01 := blk_int k0 (i := 1) (by simp)
 have c10 := blk_int k1 (i := 0) (by simp)
 have c11 := blk_int k1 (i := 1) (by simp)
 clear k0 k1
 rw [show [a1, a2].getD 0 0 = a1 from rfl] at c00
 rw [show [a1, a2].getD 1 0 = a2 from rfl] at c01
 rw [show [b1, b2].getD 0 0 = b1 from rfl] at c10
 rw [show [b1, b2].getD 1 0 = b2 from rfl] at c11
 go_enter Tryz.func60, Tryz.ntmps60
 by_cases h1 : b2 < a2
 · have HX := hid (show aheadB (a1, a2) (b1, b2) = true by rw [HB.out, decide_eq_true h1, Bool.true_or])
   go_wp2_with fail
   go_ret
   exact ⟨by rw [HX.out]; rfl, B0.out⟩
 · by_cases h2 : a2 = b2
   · subst h2
     by_cases h3 : a1 < b1
     · have HX := hid (show aheadB (a1, a2) (b1, a2) = true by rw [HB.out, decide_eq_true h3]; simp)
       go_wp2_with fail
       go_ret
       exact ⟨by rw [HX.out]; rfl, B0.out⟩
     · have HX := hid (show aheadB (a1, a2) (b1, a2) = false by rw [HB.out, decide_eq_false h1, decide_eq_false h3]; simp)
       go_wp2_with fail
       go_ret
       exact ⟨by rw [HX.out]; rfl, B0.out⟩
   · have HX := hid (show aheadB (a1, a2) (b1, b2) = false by rw [HB.out, decide_eq_false h1, decide_eq_false h2]; simp)
     have hq : (a2 == b2) = false := by simpa using h2
     go_wp2_with fail
     go_ret
     exact ⟨by rw [HX.out]; rfl, B0.out⟩
end Go.Proofs.YtiigipnfnfpepaaGreatDoor
namespace Go.Proofs.YtiigipnfnfpepaaGreatDoor

section
variable {A : Type} [Inhabited A] (less : A → A → Bool)
def swapA (l : List A) (i j : Nat) : List A := (l.set i (l.getD j default)).set j (l.getD i default)
theorem swapA_len (l : List A) (i j : Nat) : (swapA l i j).length = l.length := by simp [swapA]
theorem swapA_all {P : A → Prop} {l : List A} (h : ∀ x ∈ l, P x) {i j : Nat} (hi : i < l.length) (hj : j < l.length) : ∀ x ∈ swapA l i j, P x := by
 have hg : ∀ k, k < l.length → P (l.getD k default) := fun k hk => by
  rw [List.getD_eq_getElem?_getD, List.getElem?_eq_getElem hk]
  exact h _ (List.getElem_mem hk)
 intro x hx
 rcases List.mem_or_eq_of_mem_set hx with h1 | rfl
 · rcases List.mem_or_eq_of_mem_set h1 with h2 | rfl
   · exact h x h2
   · exact hg j hj
 · exact hg i hi
def upL : Nat → List A → Nat → List A
 | 0, l, _ => l
 | f + 1, l, j => if (j - 1) / 2 = j ∨ less (l.getD j default) (l.getD ((j - 1) / 2) default) = false then l else upL f (swapA l ((j - 1) / 2) j) ((j - 1) / 2)
def downL (n : Nat) : Nat → List A → Nat → List A
 | 0, l, _ => l
 | f + 1, l, i =>
  if n ≤ 2 * i + 1 then l else
   let j := if 2 * i + 2 < n ∧ less (l.getD (2 * i + 2) default) (l.getD (2 * i + 1) default) = true then 2 * i + 2 else 2 * i + 1
   if less (l.getD j default) (l.getD i default) = false then l else downL n f (swapA l i j) j
theorem upL_len : ∀ (f : Nat) (l : List A) (j : Nat), (upL less f l j).length = l.length
 | 0, _, _ => rfl
 | f + 1, l, j => by
  rw [upL]
  split
  · rfl
  · rw [upL_len, swapA_len]
theorem downL_len (n : Nat) : ∀ (f : Nat) (l : List A) (i : Nat), (downL less n f l i).length = l.length
 | 0, _, _ => rfl
 | f + 1, l, i => by
  rw [downL]
  split
  · rfl
  · dsimp only
    split
    · split
      · rfl
      · rw [downL_len, swapA_len]
    · split
      · rfl
      · rw [downL_len, swapA_len]
theorem upL_all {P : A → Prop} : ∀ (f : Nat) (l : List A) (j : Nat), j < l.length → (∀ x ∈ l, P x) → ∀ x ∈ upL less f l j, P x
 | 0, _, _, _, h => h
 | f + 1, l, j, hj, h => by
  rw [upL]
  split
  · exact h
  · exact upL_all f _ _ (by rw [swapA_len]; omega) (swapA_all h (by omega) hj)
theorem downL_all {P : A → Prop} (n : Nat) : ∀ (f : Nat) (l : List A) (i : Nat), n ≤ l.length → (∀ x ∈ l, P x) → ∀ x ∈ downL less n f l i, P x
 | 0, _, _, _, h => h
 | f + 1, l, i, hn, h => by
  rw [downL]
  split
  · exact h
  · dsimp only
    split
    · split
      · exact h
      · exact downL_all n f _ _ (by rw [swapA_len]; exact hn) (swapA_all h (by omega) (by omega))
    · split
      · exact h
      · exact downL_all n f _ _ (by rw [swapA_len]; exact hn) (swapA_all h (by omega) (by omega))
def pushH (l : List A) (x : A) : List A := upL less (l.length + 1) (l ++ [x]) l.length
def popM (l : List A) : List A := downL less (l.length - 1) l.length (swapA l 0 (l.length - 1)) 0
def popX (l : List A) : A := (popM less l).getD (l.length - 1) default
def popL (l : List A) : List A := (popM less l).take (l.length - 1)
def fixL (l : List A) : List A := downL less l.length (l.length + 1) l 0
theorem pushH_len (l : List A) (x : A) : (pushH less l x).length = l.length + 1 := by rw [pushH, upL_len]; simp
theorem popM_len (l : List A) : (popM less l).length = l.length := by rw [popM, downL_len, swapA_len]
theorem popL_len (l : List A) : (popL less l).length = l.length - 1 := by rw [popL, List.length_take, popM_len]; omega
theorem fixL_len (l : List A) : (fixL less l).length = l.length := by rw [fixL, downL_len]
theorem popM_split {l : List A} (h : l ≠ []) : popM less l = popL less l ++ [popX less l] := by
 have hn : 0 < l.length := List.length_pos_iff.2 h
 have hm := popM_len less l
 have e : l.length - 1 < (popM less l).length := by omega
 rw [popL, popX, List.getD_eq_getElem?_getD, List.getElem?_eq_getElem e]
 have := List.take_append_drop (l.length - 1) (popM less l)
 rw [List.drop_eq_getElem_cons e, List.drop_of_length_le (by omega)] at this
 exact this.symm
theorem pushH_all {P : A → Prop} {l : List A} (h : ∀ x ∈ l, P x) {x : A} (hx : P x) : ∀ y ∈ pushH less l x, P y := by
 apply upL_all
 · simp
 · intro y hy
   rcases List.mem_append.1 hy with h1 | h1
   · exact h y h1
   · rw [List.mem_singleton.1 h1]; exact hx
theorem popM_all {P : A → Prop} {l : List A} (h : ∀ x ∈ l, P x) (hl : l ≠ []) : ∀ y ∈ popM less l, P y := by
 have hn : 0 < l.length := List.length_pos_iff.2 hl
 apply downL_all
 · rw [swapA_len]; omega
 · exact swapA_all h (by omega) (by omega)
theorem popX_all {P : A → Prop} {l : List A} (h : ∀ x ∈ l, P x) (hl : l ≠ []) : P (popX less l) :=
 popM_all less h hl _ (by rw [popM_split less hl]; simp)
theorem popL_all {P : A → Prop} {l : List A} (h : ∀ x ∈ l, P x) (hl : l ≠ []) : ∀ y ∈ popL less l, P y := fun y hy =>
 popM_all less h hl _ (by rw [popM_split less hl]; exact List.mem_append_left _ hy)
theorem fixL_all {P : A → Prop} {l : List A} (h : ∀ x ∈ l, P x) : ∀ y ∈ fixL less l, P y := downL_all less _ _ _ _ (Nat.le_refl _) h
end
end Go.Proofs.YtiigipnfnfpepaaGreatDoor
namespace Go.Proofs.YtiigipnfnfpepaaGreatDoor

def costD (n : Nat) : Int := costL.getD (n + 1) 0 - costL.getD n 0
theorem costD_in : ∀ n, n < 12 → 0 ≤ costD n ∧ costD n ≤ 30 := by decide +kernel
theorem cost_in : ∀ n, n < 13 → 0 ≤ costL.getD n 0 ∧ costL.getD n 0 ≤ 30 := by decide +kernel
def costS (k : List Int) : Int := (k.map fun x => costL.getD x.toNat 0).sum
theorem sum_set {A : Type} (F : A → Int) : ∀ (k : List A) (i : Nat) (v d : A), i < k.length → ((k.set i v).map F).sum = (k.map F).sum - F (k.getD i d) + F v
 | [], i, v, d, h => absurd h (Nat.not_lt_zero i)
 | x :: l, 0, v, d, _ => by simp; omega
 | x :: l, i + 1, v, d, h => by
  have := sum_set F l i v d (by simpa using h)
  simp only [List.set_cons_succ, List.map_cons, List.sum_cons, List.getD_cons_succ]
  omega
theorem set_all {A : Type} {P : A → Prop} {k : List A} (h : ∀ x ∈ k, P x) (i : Nat) {v : A} (hv : P v) : ∀ x ∈ k.set i v, P x := fun x hx => by
 rcases List.mem_or_eq_of_mem_set hx with h1 | rfl
 · exact h x h1
 · exact hv
theorem getD_all {A : Type} {P : A → Prop} {k : List A} (h : ∀ x ∈ k, P x) {i : Nat} (hi : i < k.length) (d : A) : P (k.getD i d) := by
 rw [List.getD_eq_getElem?_getD, List.getElem?_eq_getElem hi]
 exact h _ (List.getElem_mem hi)

def giveL : Nat → List (Int × Int) → List Int → Int → List Int
 | 0, _, k, _ => k
 | _ + 1, [], k, _ => k
 | f + 1, y :: l, k, b =>
  if 12 ≤ k.getD (popX aheadB (y :: l)).1.toNat 0 ∨ b < costD (k.getD (popX aheadB (y :: l)).1.toNat 0).toNat then giveL f (popL aheadB (y :: l)) k b
  else giveL f (pushH aheadB (popL aheadB (y :: l)) ((popX aheadB (y :: l)).1, IntKind.i64.wrap ((popX aheadB (y :: l)).2 - 1)))
   (k.set (popX aheadB (y :: l)).1.toNat (k.getD (popX aheadB (y :: l)).1.toNat 0 + 1)) (b - costD (k.getD (popX aheadB (y :: l)).1.toNat 0).toNat)
def giveM (q : List (Int × Int)) (k : List Int) : Nat := 2 * (96 - k.sum).toNat + q.length
structure Ks (k : List Int) : Prop where
 len : k.length = 8
 all : ∀ x ∈ k, 0 ≤ x ∧ x ≤ 12
theorem ks_sum : ∀ k : List Int, (∀ x ∈ k, 0 ≤ x ∧ x ≤ 12) → 0 ≤ k.sum ∧ k.sum ≤ 12 * k.length
 | [], _ => by simp
 | x :: l, h => by
  have h0 := h x List.mem_cons_self
  have h1 := ks_sum l fun y hy => h y (List.mem_cons_of_mem _ hy)
  simp only [List.sum_cons, List.length_cons]
  omega
theorem giveL_keeps : ∀ (f : Nat) (q : List (Int × Int)) (k : List Int) (b : Int), Ks k → (∀ x ∈ q, 0 ≤ x.1 ∧ x.1 < 8) → 0 ≤ b →
 Ks (giveL f q k b) ∧ costS (giveL f q k b) ≤ costS k + b
 | 0, _, k, b, hk, _, hb => ⟨hk, by show costS k ≤ _; omega⟩
 | _ + 1, [], k, b, hk, _, hb => ⟨hk, by show costS k ≤ _; omega⟩
 | f + 1, y :: l, k, b, hk, hq, hb => by
  rw [giveL]
  have hx := popX_all aheadB hq (by simp)
  have hp := popL_all aheadB hq (by simp)
  generalize popX aheadB (y :: l) = x at *
  generalize popL aheadB (y :: l) = q' at *
  have hi : x.1.toNat < k.length := by rw [hk.len]; omega
  have h0 := getD_all hk.all hi 0
  split
  · exact giveL_keeps f q' k b hk hp hb
  · rename_i hc
    have hn : (k.getD x.1.toNat 0).toNat < 12 := by omega
    have hd := costD_in _ hn
    have := giveL_keeps f (pushH aheadB q' (x.1, IntKind.i64.wrap (x.2 - 1))) (k.set x.1.toNat (k.getD x.1.toNat 0 + 1)) (b - costD (k.getD x.1.toNat 0).toNat)
     ⟨by rw [List.length_set]; exact hk.len, set_all hk.all _ ⟨by omega, by omega⟩⟩ (pushH_all aheadB hp (x := (x.1, IntKind.i64.wrap (x.2 - 1))) hx) (by omega)
    refine ⟨this.1, Int.le_trans this.2 ?_⟩
    have hs := sum_set (fun x : Int => costL.getD x.toNat 0) k x.1.toNat (k.getD x.1.toNat 0 + 1) 0 hi
    unfold costS
    rw [hs]
    generalize k.getD x.1.toNat 0 = n at *
    have e : (n + 1).toNat = n.toNat + 1 := by omega
    rw [e]
    unfold costD
    omega
end Go.Proofs.YtiigipnfnfpepaaGreatDoor
namespace Go.Proofs.YtiigipnfnfpepaaGreatDoor
open Go.RowKit

theorem run_ssa {P : Program} (ts : Array TypeId) (t : TypeId) (a : Addr) (x y : String) (w : World) : (Builtin.ssaWrapNilChk_ ts t #[.pointer (some a), strVal x, strVal y]).run P w = .ok (.pointer (some a)) w := rfl
theorem run_method_deref {P : Program} {t elem : TypeId} {f : FuncId} {name : String} {n : Nat} (hm : ((P.info? t).bind fun i => i.methods.find? (·.name == name)).map (fun m => (m.path, m.func)) = some (#[], some (f, false)))
 (hu : P.underlying t = some (.pointer elem)) (a : Addr) (w : World) (v : Value) (h : (loadVar elem a).run P w = .ok v w) :
 (method (n + 1) t (.pointer (some a)) name).run P w = .ok (f, v) w := by
 cases hi : P.info? t with
 | none => rw [hi] at hm; cases hm
 | some i =>
  rw [hi] at hm
  simp only [Option.bind_some] at hm
  cases hf : i.methods.find? (·.name == name) with
  | none => rw [hf] at hm; cases hm
  | some m =>
   rw [hf] at hm
   simp only [Option.map_some, Option.some.injEq, Prod.mk.injEq] at hm
   obtain ⟨hp, hfu⟩ := hm
   simp [method, typeInfo, hi, hf, hp, hfu, follow, receiverAt, run_underlying hu, Place.get, run_ssa, asAddr, h]

structure HeapOps {A : Type} [Inhabited A] (T : TypeId) (v : Value) (Inv : World → List A → Prop) (less : A → A → Bool) where
 (kLen kLess kSwap : Nat)
 cLen : ∀ args w, (callFunc kLen args).run Tryz.prog w = .ok (.enter kLen args) w
 cLess : ∀ args w, (callFunc kLess args).run Tryz.prog w = .ok (.enter kLess args) w
 cSwap : ∀ args w, (callFunc kSwap args).run Tryz.prog w = .ok (.enter kSwap args) w
 small : ∀ {w l}, Inv w l → l.length ≤ 1000000
 len : ∀ {w l}, Inv w l → ∃ rv, (method 366 T v "Len").run Tryz.prog w = .ok (kLen, rv) w ∧ Calls Tryz.prog kLen #[rv] w fun e w' => e = .returned (.int .i64 l.length) ∧ Inv w' l
 les : ∀ {w l} (i j : Nat), Inv w l → i < l.length → j < l.length → ∃ rv, (method 366 T v "Less").run Tryz.prog w = .ok (kLess, rv) w ∧ Calls Tryz.prog kLess #[rv, .int .i64 i, .int .i64 j] w fun e w' => e = .returned (.bool (less (l.getD i default) (l.getD j default))) ∧ Inv w' l
 swp : ∀ {w l} (i j : Nat), Inv w l → i < l.length → j < l.length → ∃ rv, (method 366 T v "Swap").run Tryz.prog w = .ok (kSwap, rv) w ∧ Calls Tryz.prog kSwap #[rv, .int .i64 i, .int .i64 j] w fun e w' => e = .returned (.tuple #[]) ∧ Inv w' (swapA l i j)

section
variable {A : Type} [Inhabited A] {T : TypeId} {v : Value} {Inv : World → List A → Prop} {less : A → A → Bool} (H : HeapOps T v Inv less)
include H

set_option maxRecDepth 20000 in
set_option maxHeartbeats 2000000 in
theorem up_calls (l : List A) (j : Nat) (w : World) (hI : Inv w l) (hj : j < l.length) :
 Calls Tryz.prog 104 #[.iface T v, .int .i64 j] w fun e w' => e = .returned (.tuple #[]) ∧ Inv w' (upL less (j + 1) l j) := by
 have el := H.cLess
 have es := H.cSwap
 have HI := hid hI
 have hs := H.small hI
 clear hI
 go_enter Tryz.func104, Tryz.ntmps104
 go_wp2_with fail
 go_loopg [1] (j + 1) (fun gg s1 wr => ∃ (k f : Nat) (m : List A), k < gg ∧ s1 = .int .i64 k ∧ Aside (k < f ∧ k < m.length ∧ m.length = l.length ∧ upL less f m k = upL less (j + 1) l j) ∧ Aside (Inv wr m))
 case atStart => exact ⟨j, j + 1, l, by omega, rfl, ⟨by omega, hj, rfl, rfl⟩, HI.out⟩
 case round =>
  clear HI
  obtain ⟨k, f, m, hgk, rfl, ⟨hf, hk, hm, hE⟩, hI⟩ := hrel
  obtain ⟨f, rfl⟩ : ∃ f', f = f' + 1 := ⟨f - 1, by omega⟩
  have HM := hid hm
  have HI := hid hI
  replace hI := hI.out
  have hk0 : (0 : Int) ≤ k := by omega
  have hk1 : (k : Int) ≤ 1000000 := by omega
  have hq : ((k : Int) - 1).tdiv 2 = (((k - 1) / 2 : Nat) : Int) := by
   cases k with
   | zero => rfl
   | succ n => rw [show ((n + 1 : Nat) : Int) - 1 = (n : Int) by omega, show (2 : Int) = ((2 : Nat) : Int) from rfl, ← Int.ofNat_tdiv]; rfl
  have hik : (k - 1) / 2 ≤ k := by omega
  have hil : (k - 1) / 2 = k ∨ (k - 1) / 2 < k := by omega
  rw [upL] at hE
  generalize (k - 1) / 2 = i at *
  obtain ⟨_, ml, cl⟩ := H.les k i hI hk (by omega)
  clear hI hm
  rcases hil with rfl | hlt
  · rw [if_pos (Or.inl rfl)] at hE
    have HE := hid hE
    clear hE
    go_wp2_with fail
    go_end0
    exact ⟨rfl, by rw [← HE.out]; exact HI.out⟩
  · have hne : ¬ (i : Int) = k := by omega
    by_cases hc : less (m.getD k default) (m.getD i default) = true
    · rw [if_neg (fun h => h.elim (by omega) (fun h => absurd (hc.symm.trans h) (by decide)))] at hE
      have HE := hid hE
      have HC := hid hc
      clear hE hc
      go_wp2_with fail
      refine cl.mono ?_
      rintro e w1 ⟨rfl, I1⟩
      rw [HC.out]
      obtain ⟨_, ms, cs⟩ := H.swp i k I1 (by omega) hk
      clear cl ml HI
      go_wp2_with fail
      refine cs.mono ?_
      rintro e w2 ⟨rfl, I2⟩
      have I2' := hid I2
      clear cs ms I2 I1
      go_wp2_with fail
      go_roundg k
      case measure => omega
      case rel => exact ⟨i, f, swapA m i k, by omega, rfl, ⟨by omega, by rw [swapA_len]; omega, (swapA_len m i k).trans HM.out, HE.out⟩, I2'.out⟩
    · have hc' : less (m.getD k default) (m.getD i default) = false := by simpa using hc
      rw [if_pos (Or.inr hc')] at hE
      have HE := hid hE
      have HC := hid hc'
      clear hE hc hc'
      go_wp2_with fail
      refine cl.mono ?_
      rintro e w1 ⟨rfl, I1⟩
      rw [HC.out]
      have I1' := hid I1
      clear cl ml HI I1
      go_wp2_with fail
      go_end0
      exact ⟨rfl, by rw [← HE.out]; exact I1'.out⟩
set_option maxRecDepth 20000 in
set_option maxHeartbeats 4000000 in
theorem down_calls (l : List A) (n : Nat) (w : World) (hI : Inv w l) (hn : n ≤ l.length) :
 Calls Tryz.prog 105 #[.iface T v, .int .i64 0, .int .i64 n] w fun e w' => (∃ b, e = .returned (.bool b)) ∧ Inv w' (downL less n (n + 1) l 0) := by
 have el := H.cLess
 have es := H.cSwap
 have HI := hid hI
 have hs := H.small hI
 have hn1 : (n : Int) ≤ 1000000 := by omega
 have HN := hid hn
 clear hI hn
 go_enter Tryz.func105, Tryz.ntmps105
 go_wp2_with fail
 go_loopg [7] (n + 2) (fun gg s7 wr => ∃ (k f : Nat) (m : List A), f < gg ∧ s7 = .int .i64 k ∧ Aside (n + 1 ≤ f + k ∧ k ≤ n ∧ m.length = l.length ∧ downL less n f m k = downL less n (n + 1) l 0) ∧ Aside (Inv wr m))
 case atStart => exact ⟨0, n + 1, l, by omega, rfl, ⟨by omega, by omega, rfl, rfl⟩, HI.out⟩
 case round =>
  clear HI
  obtain ⟨k, f, m, hgk, rfl, ⟨hf, hk, hm, hE⟩, hI⟩ := hrel
  obtain ⟨f, rfl⟩ : ∃ f', f = f' + 1 := ⟨f - 1, by omega⟩
  replace hI := hI.out
  have HM := hid hm
  have hnm : n ≤ m.length := by have := HN.out; omega
  have hk0 : (0 : Int) ≤ k := by omega
  have hk1 : (k : Int) ≤ 1000000 := by omega
  rw [downL] at hE
  clear hm
  by_cases hb : n ≤ 2 * k + 1
  · have hbz : (n : Int) ≤ 2 * k + 1 := by omega
    rw [if_pos hb] at hE
    have HE := hid hE
    have HI := hid hI
    clear hE hI
    go_wp2_with fail
    go_ret
    exact ⟨⟨_, rfl⟩, by rw [← HE.out]; exact HI.out⟩
  · have hbz : ¬ (n : Int) ≤ 2 * k + 1 := by omega
    have hbz0 : ¬ (2 * (k : Int) + 1 < 0) := by omega
    rw [if_neg hb] at hE
    dsimp only at hE
    by_cases h2 : 2 * k + 2 < n
    · have h2z : 2 * (k : Int) + 1 + 1 < n := by omega
      obtain ⟨_, m1, c1⟩ := H.les (2 * k + 2) (2 * k + 1) hI (by omega) (by omega)
      cases h3 : less (m.getD (2 * k + 2) default) (m.getD (2 * k + 1) default) with
      | true =>
       rw [h3] at c1
       rw [show (if 2 * k + 2 < n ∧ less (m.getD (2 * k + 2) default) (m.getD (2 * k + 1) default) = true then 2 * k + 2 else 2 * k + 1) = 2 * k + 2 from if_pos ⟨h2, h3⟩] at hE
       have H3 := hid h3
       clear hI h3
       go_wp2_with fail
       refine c1.mono ?_
       rintro e w1 ⟨rfl, I1⟩
       clear c1 m1
       obtain ⟨_, m2, c2⟩ := H.les (2 * k + 2) k I1 (by omega) (by omega)
       cases hc : less (m.getD (2 * k + 2) default) (m.getD k default) with
       | true =>
        have HC := hid hc
        rw [if_neg (fun h => absurd (hc.symm.trans h) (by decide))] at hE
        have HE := hid hE
        clear hE hc I1
        go_wp2_with fail
        refine c2.mono ?_
        rintro e w2 ⟨rfl, I2⟩
        rw [HC.out]
        obtain ⟨_, m3, c3⟩ := H.swp k (2 * k + 2) I2 (by omega) (by omega)
        clear c2 m2 I2
        go_wp2_with fail
        refine c3.mono ?_
        rintro e w3 ⟨rfl, I3⟩
        have I3' := hid I3
        clear c3 m3 I3
        go_wp2_with fail
        go_roundg (f + 1)
        case measure => omega
        case rel => exact ⟨2 * k + 2, f, swapA m k (2 * k + 2), by omega, by go_num, ⟨by omega, by omega, (swapA_len m k _).trans HM.out, HE.out⟩, I3'.out⟩
       | false =>
        have HC := hid hc
        rw [if_pos hc] at hE
        have HE := hid hE
        clear hE hc I1
        go_wp2_with fail
        refine c2.mono ?_
        rintro e w2 ⟨rfl, I2⟩
        rw [HC.out]
        have I2' := hid I2
        clear c2 m2 I2
        go_wp2_with fail
        go_ret
        exact ⟨⟨_, rfl⟩, by rw [← HE.out]; exact I2'.out⟩
      | false =>
       rw [h3] at c1
       rw [show (if 2 * k + 2 < n ∧ less (m.getD (2 * k + 2) default) (m.getD (2 * k + 1) default) = true then 2 * k + 2 else 2 * k + 1) = 2 * k + 1 from if_neg (fun h => absurd (h3.symm.trans h.2) (by decide))] at hE
       have H3 := hid h3
       clear hI h3
       go_wp2_with fail
       refine c1.mono ?_
       rintro e w1 ⟨rfl, I1⟩
       clear c1 m1
       obtain ⟨_, m2, c2⟩ := H.les (2 * k + 1) k I1 (by omega) (by omega)
       cases hc : less (m.getD (2 * k + 1) default) (m.getD k default) with
       | true =>
        have HC := hid hc
        rw [if_neg (fun h => absurd (hc.symm.trans h) (by decide))] at hE
        have HE := hid hE
        clear hE hc I1
        go_wp2_with fail
        refine c2.mono ?_
        rintro e w2 ⟨rfl, I2⟩
        rw [HC.out]
        obtain ⟨_, m3, c3⟩ := H.swp k (2 * k + 1) I2 (by omega) (by omega)
        clear c2 m2 I2
        go_wp2_with fail
        refine c3.mono ?_
        rintro e w3 ⟨rfl, I3⟩
        have I3' := hid I3
        clear c3 m3 I3
        go_wp2_with fail
        go_roundg (f + 1)
        case measure => omega
        case rel => exact ⟨2 * k + 1, f, swapA m k (2 * k + 1), by omega, by go_num, ⟨by omega, by omega, (swapA_len m k _).trans HM.out, HE.out⟩, I3'.out⟩
       | false =>
        have HC := hid hc
        rw [if_pos hc] at hE
        have HE := hid hE
        clear hE hc I1
        go_wp2_with fail
        refine c2.mono ?_
        rintro e w2 ⟨rfl, I2⟩
        rw [HC.out]
        have I2' := hid I2
        clear c2 m2 I2
        go_wp2_with fail
        go_ret
        exact ⟨⟨_, rfl⟩, by rw [← HE.out]; exact I2'.out⟩
    · have h2z : ¬ 2 * (k : Int) + 1 + 1 < n := by omega
      rw [show (if 2 * k + 2 < n ∧ less (m.getD (2 * k + 2) default) (m.getD (2 * k + 1) default) = true then 2 * k + 2 else 2 * k + 1) = 2 * k + 1 from if_neg (fun h => h2 h.1)] at hE
      have I1 := hI
      clear hI
      obtain ⟨_, m2, c2⟩ := H.les (2 * k + 1) k I1 (by omega) (by omega)
      cases hc : less (m.getD (2 * k + 1) default) (m.getD k default) with
      | true =>
       have HC := hid hc
       rw [if_neg (fun h => absurd (hc.symm.trans h) (by decide))] at hE
       have HE := hid hE
       clear hE hc I1
       go_wp2_with fail
       refine c2.mono ?_
       rintro e w2 ⟨rfl, I2⟩
       rw [HC.out]
       obtain ⟨_, m3, c3⟩ := H.swp k (2 * k + 1) I2 (by omega) (by omega)
       clear c2 m2 I2
       go_wp2_with fail
       refine c3.mono ?_
       rintro e w3 ⟨rfl, I3⟩
       have I3' := hid I3
       clear c3 m3 I3
       go_wp2_with fail
       go_roundg (f + 1)
       case measure => omega
       case rel => exact ⟨2 * k + 1, f, swapA m k (2 * k + 1), by omega, by go_num, ⟨by omega, by omega, (swapA_len m k _).trans HM.out, HE.out⟩, I3'.out⟩
      | false =>
       have HC := hid hc
       rw [if_pos hc] at hE
       have HE := hid hE
       clear hE hc I1
       go_wp2_with fail
       refine c2.mono ?_
       rintro e w2 ⟨rfl, I2⟩
       rw [HC.out]
       have I2' := hid I2
       clear c2 m2 I2
       go_wp2_with fail
       go_ret
       exact ⟨⟨_, rfl⟩, by rw [← HE.out]; exact I2'.out⟩

set_option maxRecDepth 20000 in
set_option maxHeartbeats 2000000 in
theorem hpush_calls {kPush : Nat} {x : A} {xv : Value} (l : List A) (w : World) (hs : l.length < 1000000)
 (mp : ∀ w, (method 366 T v "Push").run Tryz.prog w = .ok (kPush, v) w) (ep : ∀ args w, (callFunc kPush args).run Tryz.prog w = .ok (.enter kPush args) w)
 (cp : Calls Tryz.prog kPush #[v, xv] w fun e w' => e = .returned (.tuple #[]) ∧ Inv w' (l ++ [x])) :
 Calls Tryz.prog 61 #[.iface T v, xv] w fun e w' => e = .returned (.tuple #[]) ∧ Inv w' (pushH less l x) := by
 have el := H.cLen
 have hs1 : (l.length : Int) < 1000000 := by omega
 have HS := hid hs
 go_enter Tryz.func61, Tryz.ntmps61
 go_wp2_with fail
 refine cp.mono ?_
 rintro e w1 ⟨rfl, I1⟩
 obtain ⟨_, ml, cl⟩ := H.len I1
 have hl : ((l ++ [x]).length : Int) = l.length + 1 := by simp
 clear cp I1
 rw [hl] at cl
 clear hl
 go_wp2_with fail
 refine cl.mono ?_
 rintro e w2 ⟨rfl, I2⟩
 have cu := up_calls H (l ++ [x]) l.length w2 I2 (by simp)
 clear cl ml I2
 have hlw : (l.length : Int) + 1 - 1 = l.length := by omega
 go_wp2_with fail
 refine cu.mono ?_
 rintro e w3 ⟨rfl, I3⟩
 have I3' := hid I3
 clear cu I3
 go_wp2_with fail
 go_end0
 exact ⟨rfl, I3'.out⟩

set_option maxRecDepth 20000 in
set_option maxHeartbeats 2000000 in
theorem hfix_calls (l : List A) (w : World) (hI : Inv w l) (h0 : 0 < l.length) :
 Calls Tryz.prog 125 #[.iface T v, .int .i64 0] w fun e w' => e = .returned (.tuple #[]) ∧ Inv w' (fixL less l) := by
 have el := H.cLen
 have hs := H.small hI
 have H0 := hid h0
 obtain ⟨_, ml, cl⟩ := H.len hI
 clear hI h0
 go_enter Tryz.func125, Tryz.ntmps125
 go_wp2_with fail
 refine cl.mono ?_
 rintro e w1 ⟨rfl, I1⟩
 have cd := down_calls H l l.length w1 I1 (Nat.le_refl _)
 clear cl ml I1
 go_wp2_with fail
 refine cd.mono ?_
 rintro e w2 ⟨⟨b, rfl⟩, I2⟩
 have cu := up_calls H (fixL less l) 0 w2 I2 (by rw [fixL_len]; exact H0.out)
 have I2' := hid I2
 clear cd I2
 cases b with
 | true =>
  clear cu
  go_wp2_with fail
  go_end0
  exact ⟨rfl, I2'.out⟩
 | false =>
  clear I2'
  go_wp2_with fail
  refine cu.mono ?_
  rintro e w3 ⟨rfl, I3⟩
  have I3' := hid I3
  clear cu I3
  go_wp2_with fail
  go_end0
  refine ⟨rfl, ?_⟩
  have h := I3'.out
  rw [upL, if_pos (Or.inl rfl)] at h
  exact h

set_option maxRecDepth 20000 in
set_option maxHeartbeats 2000000 in
theorem hpop_calls {kPop : Nat} {enc : A → Value} (l : List A) (w : World) (hI : Inv w l) (h0 : 0 < l.length)
 (mp : ∀ w, (method 366 T v "Pop").run Tryz.prog w = .ok (kPop, v) w) (ep : ∀ args w, (callFunc kPop args).run Tryz.prog w = .ok (.enter kPop args) w)
 (cp : ∀ m x w, Inv w (m ++ [x]) → Calls Tryz.prog kPop #[v] w fun e w' => e = .returned (enc x) ∧ Inv w' m) :
 Calls Tryz.prog 63 #[.iface T v] w fun e w' => e = .returned (enc (popX less l)) ∧ Inv w' (popL less l) := by
 have el := H.cLen
 have es := H.cSwap
 have hs := H.small hI
 have H0 := hid h0
 obtain ⟨_, ml, cl⟩ := H.len hI
 obtain ⟨n, hn⟩ : ∃ n, l.length = n + 1 := ⟨l.length - 1, by omega⟩
 rw [hn] at cl
 have HN := hid hn
 have hn1 : (n : Int) ≤ 1000000 := by omega
 clear hI h0 hn hs
 go_enter Tryz.func63, Tryz.ntmps63
 go_wp2_with fail
 refine cl.mono ?_
 rintro e w1 ⟨rfl, I1⟩
 obtain ⟨_, m1, c1⟩ := H.swp 0 n I1 (by rw [HN.out]; omega) (by rw [HN.out]; omega)
 clear cl ml I1
 have hlw : (n : Int) + 1 - 1 = n := by omega
 go_wp2_with fail
 refine c1.mono ?_
 rintro e w2 ⟨rfl, I2⟩
 have cd := down_calls H (swapA l 0 n) n w2 I2 (by rw [swapA_len, HN.out]; omega)
 clear c1 m1 I2
 go_wp2_with fail
 refine cd.mono ?_
 rintro e w3 ⟨⟨b, rfl⟩, I3⟩
 have hne : l ≠ [] := fun h => absurd HN.out (by rw [h]; simp)
 have hp : downL less n (n + 1) (swapA l 0 n) 0 = popL less l ++ [popX less l] := by
  rw [← popM_split less hne, popM, HN.out]; rfl
 rw [hp] at I3
 have c4 := cp _ _ w3 I3
 clear cd I3 hp hne
 go_wp2_with fail
 refine c4.mono ?_
 rintro e w4 ⟨rfl, I4⟩
 have I4' := hid I4
 clear c4 I4
 go_wp2_with fail
 go_ret
 exact ⟨rfl, I4'.out⟩
end
end Go.Proofs.YtiigipnfnfpepaaGreatDoor
