/- Contracts of lift.Part, Factors and the pair's methods. -/
import Derived.Test.YtlfiaaoegeodnaaTrigC
import Derived.Test.YtlfiaaoegeodnaaLiftPlain
import Derived.Deep.RegionWith
import Derived.StillTailTactics
namespace Go.Proofs.Ytlfiaaoegeodnaa
open Go.RowKit

theorem part_calls (x m : Int) (w : World) (hx : -70368744177664 ≤ x) (hx1 : x ≤ 70368744177664) (hm : 0 ≤ m) (hm1 : m ≤ 32768) :
    Calls Try.prog 39 #[.int .i64 x, .int .i64 m] w fun e w' => e = .returned (.int .i64 (part x m)) ∧ w = w' := by
  have hb := mul_bd (b := 70368744177664) hm hm1 hx hx1
  go_enter Try.func39, Try.ntmps39
  go_wp2
  go_ret
  exact ⟨rfl, rfl⟩

theorem factors_calls (k : Int) (w : World) (h0 : 1 ≤ k) (h1 : k ≤ 64) :
    Calls Try.prog 43 #[.int .i64 k] w fun e w' => e = .returned (.tuple #[.int .i64 (facP k), .int .i64 (facQ k)]) ∧ Below w.heap.size w w' := by
  have hf := fac_bd (k := k) (by omega) h1
  have ht := trigT_bd k
  have hs := hf.2.2.2.2 h0
  unfold facP facQ at *
  generalize hxy : trigT k = p at *
  obtain ⟨x, y⟩ := p
  dsimp only at *
  have H := Lib.hid hxy
  clear hxy
  go_enter Try.func43, Try.ntmps43
  go_wp2_with fail
  refine (turn_calls _ _ (by omega) (by omega)).mono ?_
  rintro e w1 ⟨rfl, hB⟩
  rw [H.out]
  dsimp only
  go_wp2_with fail
  go_ret2
  exact ⟨rfl, hB⟩

theorem factors_zero (k : Int) (w : World) (h : k < 1 ∨ 64 < k) :
    Calls Try.prog 43 #[.int .i64 k] w fun e w' => e = .returned (.tuple #[.int .i64 0, .int .i64 0]) ∧ Below w.heap.size w w' := by
  go_enter Try.func43, Try.ntmps43
  rcases h with h | h
  · go_wp2_with fail
    go_ret2
    exact ⟨rfl, Below.refl _ _⟩
  · have h' : ¬ k < 1 := by omega
    go_wp2_with fail
    go_ret2
    exact ⟨rfl, Below.refl _ _⟩

def Pair (w : World) (g : Nat) (a b p q : Int) : Prop :=
  w.cell? ⟨g, 0, none⟩ = some (.int .i64 a) ∧ w.cell? ⟨g, 1, none⟩ = some (.int .i64 b) ∧ w.cell? ⟨g, 2, none⟩ = some (.int .i64 p) ∧ w.cell? ⟨g, 3, none⟩ = some (.int .i64 q) ∧ w.frozen? ⟨g, 0, none⟩ = false ∧ w.frozen? ⟨g, 1, none⟩ = false

set_option maxHeartbeats 1000000 in
theorem lose_calls (g : Nat) (a b p q : Int) (w : World) (hp : Pair w g a b p q) (ha : -35184372088832 ≤ a) (ha1 : a ≤ 35184372088832) (hb : -35184372088832 ≤ b) (hb1 : b ≤ 35184372088832) (hq : 0 ≤ p) (hq1 : p ≤ 32768) :
    Calls Try.prog 80 #[.pointer (some ⟨g, 0, none⟩)] w fun e w' => e = .returned (.tuple #[]) ∧ (w.setCell ⟨g, 0, none⟩ (.int .i64 (a - part b p))).drew = w' := by
  obtain ⟨h0, h1, h2, h3, f0, f1⟩ := hp
  have hpb := part_bd (x := b) (m := p) (b := 35184372088832) hq hq1 (by omega) (by omega)
  have hw : IntKind.i64.wrap (a - part b p) = a - part b p := IntWalk.i64_in _ (by omega)
  go_enter Try.func80, Try.ntmps80
  go_wp2
  refine wp_region_still_tail 16 (by kernel_rfl) (by kernel_rfl) ?_
  simp only [List.take_succ_cons, List.take_zero, List.drop_succ_cons, List.drop_zero]
  repeat still_step
  still_call ((part_calls b p _ (by omega) (by omega) hq hq1).mono fun _ _ hh => ⟨hh.1, hh.2.symm⟩)
  repeat still_step
  refine wpStill_nil ?_
  go_wp2
  go_end0
  exact ⟨rfl, rfl⟩

set_option maxHeartbeats 1000000 in
theorem gain_calls (g : Nat) (a b p q : Int) (w : World) (hp : Pair w g a b p q) (ha : -35184372088832 ≤ a) (ha1 : a ≤ 35184372088832) (hb : -35184372088832 ≤ b) (hb1 : b ≤ 35184372088832) (hq : 0 ≤ q) (hq1 : q ≤ 32768) :
    Calls Try.prog 81 #[.pointer (some ⟨g, 0, none⟩)] w fun e w' => e = .returned (.tuple #[]) ∧ (w.setCell ⟨g, 1, none⟩ (.int .i64 (b + part a q))).drew = w' := by
  obtain ⟨h0, h1, h2, h3, f0, f1⟩ := hp
  have hpb := part_bd (x := a) (m := q) (b := 35184372088832) hq hq1 (by omega) (by omega)
  have hw : IntKind.i64.wrap (b + part a q) = b + part a q := IntWalk.i64_in _ (by omega)
  go_enter Try.func81, Try.ntmps81
  go_wp2
  refine wp_region_still_tail 16 (by kernel_rfl) (by kernel_rfl) ?_
  simp only [List.take_succ_cons, List.take_zero, List.drop_succ_cons, List.drop_zero]
  repeat still_step
  still_call ((part_calls a q _ (by omega) (by omega) hq hq1).mono fun _ _ hh => ⟨hh.1, hh.2.symm⟩)
  repeat still_step
  refine wpStill_nil ?_
  go_wp2
  go_end0
  exact ⟨rfl, rfl⟩

set_option maxHeartbeats 1000000 in
theorem unlose_calls (g : Nat) (a b p q : Int) (w : World) (hp : Pair w g a b p q) (ha : -35184372088832 ≤ a) (ha1 : a ≤ 35184372088832) (hb : -35184372088832 ≤ b) (hb1 : b ≤ 35184372088832) (hq : 0 ≤ p) (hq1 : p ≤ 32768) :
    Calls Try.prog 82 #[.pointer (some ⟨g, 0, none⟩)] w fun e w' => e = .returned (.tuple #[]) ∧ (w.setCell ⟨g, 0, none⟩ (.int .i64 (a + part b p))).drew = w' := by
  obtain ⟨h0, h1, h2, h3, f0, f1⟩ := hp
  have hpb := part_bd (x := b) (m := p) (b := 35184372088832) hq hq1 (by omega) (by omega)
  have hw : IntKind.i64.wrap (a + part b p) = a + part b p := IntWalk.i64_in _ (by omega)
  go_enter Try.func82, Try.ntmps82
  go_wp2
  refine wp_region_still_tail 16 (by kernel_rfl) (by kernel_rfl) ?_
  simp only [List.take_succ_cons, List.take_zero, List.drop_succ_cons, List.drop_zero]
  repeat still_step
  still_call ((part_calls b p _ (by omega) (by omega) hq hq1).mono fun _ _ hh => ⟨hh.1, hh.2.symm⟩)
  repeat still_step
  refine wpStill_nil ?_
  go_wp2
  go_end0
  exact ⟨rfl, rfl⟩

set_option maxHeartbeats 1000000 in
theorem ungain_calls (g : Nat) (a b p q : Int) (w : World) (hp : Pair w g a b p q) (ha : -35184372088832 ≤ a) (ha1 : a ≤ 35184372088832) (hb : -35184372088832 ≤ b) (hb1 : b ≤ 35184372088832) (hq : 0 ≤ q) (hq1 : q ≤ 32768) :
    Calls Try.prog 83 #[.pointer (some ⟨g, 0, none⟩)] w fun e w' => e = .returned (.tuple #[]) ∧ (w.setCell ⟨g, 1, none⟩ (.int .i64 (b - part a q))).drew = w' := by
  obtain ⟨h0, h1, h2, h3, f0, f1⟩ := hp
  have hpb := part_bd (x := a) (m := q) (b := 35184372088832) hq hq1 (by omega) (by omega)
  have hw : IntKind.i64.wrap (b - part a q) = b - part a q := IntWalk.i64_in _ (by omega)
  go_enter Try.func83, Try.ntmps83
  go_wp2
  refine wp_region_still_tail 16 (by kernel_rfl) (by kernel_rfl) ?_
  simp only [List.take_succ_cons, List.take_zero, List.drop_succ_cons, List.drop_zero]
  repeat still_step
  still_call ((part_calls a q _ (by omega) (by omega) hq hq1).mono fun _ _ hh => ⟨hh.1, hh.2.symm⟩)
  repeat still_step
  refine wpStill_nil ?_
  go_wp2
  go_end0
  exact ⟨rfl, rfl⟩

end Go.Proofs.Ytlfiaaoegeodnaa
