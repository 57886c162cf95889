/- Contracts of the package band: bands, what is put, steps, whether they are right, numbers brought into their range. -/
import Derived.Test.YtnmhbonheaoldaaBand
import Derived.WalkLawsBesides
namespace Go.Proofs.Ytnmhbonheaoldaa
open Go.RowKit

/-- a slice taken as an array: the address of its first cell -/
theorem run_arrayAt {P : Program} (t e : TypeId) (n : Nat) (h : P.underlying t = some (.array n e)) (a : Option Addr) (len cap : Nat) (hl : n ≤ len) (w : World) :
    (Instr.arrayAt t (.slice a len cap)).run P w = .ok (.pointer a) w := by
  simp [Instr.arrayAt, run_underlying h, Nat.not_lt.2 hl]

theorem band_range {w : World} {g : Nat} {t : TypeId} {zs : List Int} {b : Nat} (h : Blk w g t (ints zs)) (hl : zs.length = 32) (hb : b < 8) : w.rangeAt g (4 * b) ((bandL zs b).map (Value.int .i64)) := fun j v hv => by
  have hj : j = 0 ∨ j = 1 ∨ j = 2 ∨ j = 3 := by
    have := (List.getElem?_eq_some_iff.1 hv).1
    simp [bandL] at this
    omega
  rcases hj with rfl | rfl | rfl | rfl <;> (simp only [bandL, List.map_cons, List.getElem?_cons_succ, List.getElem?_cons_zero, Option.some.injEq] at hv; subst hv; exact blk_int h (by omega))

set_option maxHeartbeats 1000000 in
theorem of_calls (zs : List Int) (b : Nat) (w : World) (hl : zs.length = 32) (hb : b < 8) :
    Calls Try.prog 25 #[.agg (ints zs), .int .i64 b] w fun e w' => e = .returned (.agg (ints (bandL zs b))) ∧ Below w.heap.size w w' := by
  have b0 := blk_alloc (blk_new w 32 (ints zs)) (.cells #[Value.int .i64 0, Value.int .i64 0, Value.int .i64 0, Value.int .i64 0] 28)
  have b1 := blk_new (w.alloc (.cells (ints zs) 32)) 28 #[Value.int .i64 0, Value.int .i64 0, Value.int .i64 0, Value.int .i64 0]
  have hA : Below w.heap.size w ((w.alloc (.cells (ints zs) 32)).alloc (.cells #[Value.int .i64 0, Value.int .i64 0, Value.int .i64 0, Value.int .i64 0] 28)) := ((Below.refl _ w).alloc (Nat.le_refl _) _).alloc (by simp) _
  have br := band_range b0 hl hb
  rw [show (w.alloc (.cells (ints zs) 32)).heap.size = w.heap.size + 1 by simp] at b1
  have ra := fun a len cap hl w => run_arrayAt (P := Try.prog) 28 3 4 Try.underlying28 a len cap hl w
  have hbb : b = 0 ∨ b = 1 ∨ b = 2 ∨ b = 3 ∨ b = 4 ∨ b = 5 ∨ b = 6 ∨ b = 7 := by omega
  clear b0 hb
  rcases hbb with rfl | rfl | rfl | rfl | rfl | rfl | rfl | rfl
  all_goals
    go_enter Try.func25, Try.ntmps25
    go_wp2_with (first | (go_at_call 50; refine (bandMay_calls _ _).mono ?_; rintro e w' ⟨rfl, rfl⟩) | (refine wpList_load_mid rfl 28 _ rfl w.heap.size _ rfl ((bandL zs _).map (Value.int .i64)) _ br Try.underlying28 rfl (by kernel_rfl) ?_) | (refine wpList_store_blk rfl 28 _ _ rfl (w.heap.size + 1) 28 _ (ints (bandL zs _)) rfl rfl b1 (by rw [ints_size]; rfl) (by rw [ints_size]; kernel_rfl) (ints_one _) ?_; intro w2 n0 hg))
    exact bodyPost_ret (results_cell_row rfl _ _ (w.heap.size + 1) 28 (ints (bandL zs _)) (0, 0) _ rfl n0 Try.underlying28 rfl (by rw [ints_size]; kernel_rfl)) rfl ⟨rfl, below_grown hA hg (by simp; omega) (by omega)⟩

theorem of_away (zs : List Int) (b : Int) (w : World) (hb : (decide (0 ≤ b) && decide (b < 8)) = false) :
    Calls Try.prog 25 #[.agg (ints zs), .int .i64 b] w fun e w' => e = .returned (.agg (ints [0, 0, 0, 0])) ∧ Below w.heap.size w w' := by
  have b1 := blk_new (w.alloc (.cells (ints zs) 32)) 28 #[Value.int .i64 0, Value.int .i64 0, Value.int .i64 0, Value.int .i64 0]
  have hA : Below w.heap.size w ((w.alloc (.cells (ints zs) 32)).alloc (.cells #[Value.int .i64 0, Value.int .i64 0, Value.int .i64 0, Value.int .i64 0] 28)) := ((Below.refl _ w).alloc (Nat.le_refl _) _).alloc (by simp) _
  rw [show (w.alloc (.cells (ints zs) 32)).heap.size = w.heap.size + 1 by simp] at b1
  have hm := fun w => bandMay_calls b w
  rw [hb] at hm
  clear hb
  go_enter Try.func25, Try.ntmps25
  go_wp2_with (first | (go_at_call 50; refine (hm _).mono ?_; rintro e w' ⟨rfl, rfl⟩) | (refine wpList_store_blk rfl 28 _ _ rfl (w.heap.size + 1) 28 _ (ints [0, 0, 0, 0]) rfl rfl b1 (by rw [ints_size]; rfl) (by rw [ints_size]; kernel_rfl) (ints_one _) ?_; intro w2 n0 hg))
  exact bodyPost_ret (results_cell_row rfl _ _ (w.heap.size + 1) 28 (ints [0, 0, 0, 0]) (0, 0) _ rfl n0 Try.underlying28 rfl (by rw [ints_size]; kernel_rfl)) rfl ⟨rfl, below_grown hA hg (by simp; omega) (by omega)⟩

theorem rightf_calls (x : Int) (W : World) : Calls Try.prog 51 #[.int .i64 x] W fun e w' => e = .returned (.bool (decide (x < 0) || decide (15 < x))) ∧ Below W.heap.size W w' := by
  by_cases h : x < 0
  · go_enter Try.func51, Try.ntmps51
    go_wp2
    go_ret
    exact ⟨by simp [h], by first | exact Below.refl _ _ | exact (Below.refl _ _).drew | exact below_draws (Below.refl _ _) _⟩
  · by_cases h2 : 15 < x
    · go_enter Try.func51, Try.ntmps51
      go_wp2
      go_ret
      exact ⟨by simp, by first | exact Below.refl _ _ | exact (Below.refl _ _).drew | exact below_draws (Below.refl _ _) _⟩
    · go_enter Try.func51, Try.ntmps51
      go_wp2
      go_ret
      exact ⟨by simp; omega, by first | exact Below.refl _ _ | exact (Below.refl _ _).drew | exact below_draws (Below.refl _ _) _⟩

/-- all steps are 0 to 15 -/
def rightB (zs : List Int) : Bool := !(zs.any fun x => decide (x < 0) || decide (15 < x))

theorem right_calls (zs : List Int) (w : World) (hl : zs.length = 8) (hi : ∀ z ∈ zs, -9223372036854775808 ≤ z ∧ z ≤ 9223372036854775807) :
    Calls Try.prog 34 #[.agg (ints zs)] w fun e w' => e = .returned (.bool (rightB zs)) ∧ Below w.heap.size w w' := by
  have hg := blk_new w 37 (ints zs)
  have eg : ∀ args w, (callFunc 51 args).run Try.prog w = .ok (.enter 51 args) w := enters_at Try.func51 (by kernel_rfl) rfl
  have hcall := containsf_calls 51 #[] (fun x => decide (x < 0) || decide (15 < x)) w.heap.size 0 8 8 zs (w.alloc (.cells (ints zs) 37)) hl (by omega) (by simp)
    (fun j hj => by rw [Nat.zero_add]; exact blk_int hg (by omega)) hi eg (fun W x hb _ _ => (rightf_calls x W).mono fun _ _ h => ⟨h.1, bnext hb h.2⟩)
  unfold rightB
  clear eg hg hi
  generalize zs.any (fun x => decide (x < 0) || decide (15 < x)) = r at *
  go_enter Try.func34, Try.ntmps34
  go_wp2_with fail
  refine hcall.mono ?_
  rintro e w1 ⟨rfl, hB⟩
  go_wp2_with fail
  go_ret
  exact ⟨rfl, bnext ((Below.refl _ w).alloc (Nat.le_refl _) _) hB⟩
end Go.Proofs.Ytnmhbonheaoldaa
