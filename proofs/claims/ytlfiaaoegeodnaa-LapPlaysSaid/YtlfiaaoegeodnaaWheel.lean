/- Contracts of the wheel's methods: a point turned, two points crossed, and back. -/
import Derived.Test.YtlfiaaoegeodnaaLiftC
import Derived.Test.YtlfiaaoegeodnaaBlk
import Derived.Test.YtlfiaaoegeodnaaLiftPlain
import Derived.Deep.RegionWith
import Derived.Deep.RegionHeld3
import Derived.Deep.DrawnRows
namespace Go.Proofs.Ytlfiaaoegeodnaa
open Go.RowKit
attribute [local go_sem ↓] Go.wp_at_zero Go.wp_at_succ

theorem grown_below {w w' : World} {r : Option Nat} (h : Below w.heap.size w w') : w.grownBy w' r := ⟨h.os, h.tape, h.output, h.size, fun i hi _ => h.block i hi⟩
theorem grown_set {w w' : World} {g i : Nat} (h : w.grownBy w' (some g)) (u : Value) : w.grownBy (w'.setCell ⟨g, i, none⟩ u) (some g) :=
  ⟨h.os, h.tape, h.output, by simpa [World.setCell] using h.size, fun k hk hne => (Below.heap_setCell w' ⟨g, i, none⟩ u k (fun e => hne (by rw [e]))).trans (h.block k hk hne)⟩
theorem grown_trans {a b c : World} {r : Option Nat} (h : a.grownBy b r) (k : b.grownBy c r) : a.grownBy c r :=
  ⟨k.os.trans h.os, k.tape.trans h.tape, k.output.trans h.output, Nat.le_trans h.size k.size, fun i hi hne => (k.block i (Nat.lt_of_lt_of_le hi h.size) hne).trans (h.block i hi hne)⟩
theorem grown_drew {a b : World} {r : Option Nat} (h : a.grownBy b r) : a.grownBy b.drew r := ⟨h.os, h.tape, h.output, h.size, h.block⟩
theorem grown_draws {a b : World} {r : Option Nat} (h : a.grownBy b r) (n : Nat) : a.grownBy (b.drewN n) r := ⟨h.os, h.tape, h.output, h.size, h.block⟩

/-- the world under a new name, of which only so much is known -/
theorem rounds_any {P : Program} {c : Code} {Q : Exit → Act → World → Prop} {n : Nat} {a : Act} {w0 : World} (F : World → Prop) (h0 : F w0) (h : ∀ W, F W → Code.rounds P c Q n a W) : Code.rounds P c Q n a w0 := h _ h0
theorem wp_any {P : Program} {c : Code} {Q : Exit → Act → World → Prop} {a : Act} {w0 : World} (F : World → Prop) (h0 : F w0) (h : ∀ W, F W → c.wp P Q a W) : c.wp P Q a w0 := h _ h0

/-- the call returned nothing; block g, and what is new, alone have turned; block g holds just these numbers -/
def BlkTo (t : TypeId) (w : World) (g : Nat) (zs : List Int) (e : Ending) (w' : World) : Prop := e = .returned (.tuple #[]) ∧ Blk w' g t (ints zs) ∧ w.grownBy w' (some g)

set_option maxHeartbeats 4000000 in
theorem wturn_xy (g i : Nat) (k x y : Int) (zs : List Int) (w : World) (hb : Blk w g 75 (ints zs)) (hi : i < 16)
    (c0 : w.cell? ⟨g, i * 2, none⟩ = some (.int .i64 x)) (c1 : w.cell? ⟨g, i * 2 + 1, none⟩ = some (.int .i64 y))
    (hx : -1099511627776 ≤ x) (hx1 : x ≤ 1099511627776) (hy : -1099511627776 ≤ y) (hy1 : y ≤ 1099511627776) (h0 : -9223372036854775808 ≤ k) (h1 : k ≤ 9223372036854775807) :
    Calls Try.prog 74 #[.pointer (some ⟨g, 0, none⟩), .int .i64 i, .int .i64 k] w (BlkTo 75 w g ((zs.set (i * 2) (turnL x y k).1).set (i * 2 + 1) (turnL x y k).2)) := by
  have hg := blk_lt hb
  have i0 : (0 : Int) ≤ (i : Int) := by omega
  have i1 : (i : Int) < 16 := by omega
  go_enter Try.func74, Try.ntmps74
  go_wp2
  go_region_with (go_at_call 37; refine (turnL_calls x y k _ hx hx1 hy hy1 h0 h1).mono ?_; rintro e w' ⟨rfl, hB⟩; have hB2 : Below w.heap.size w w' := ⟨hB.os, hB.tape, hB.output, hB.size, hB.block⟩; have hb2 : Blk w' g 75 (ints zs) := (hB.block g hg).trans hb; have d0 := (blk_cell hb2 (i * 2)).trans ((blk_cell hb (i * 2)).symm.trans c0); have d1 := (blk_cell hb2 (i * 2 + 1)).trans ((blk_cell hb (i * 2 + 1)).symm.trans c1); have f0 := blk_free hb2 (i * 2); have f1 := blk_free hb2 (i * 2 + 1))
  all_goals (go_end0; exact ⟨rfl, blk_set_int (blk_set_int hb2 _ _) _ _, grown_set (grown_set (grown_below hB2) _) _⟩)

theorem wturn_calls (g i : Nat) (k : Int) (zs : List Int) (w : World) (hb : Blk w g 75 (ints zs)) (hl : zs.length = 32) (hi : i < 16) (hz : AllIn 1099511627776 zs)
    (h0 : -9223372036854775808 ≤ k) (h1 : k ≤ 9223372036854775807) :
    Calls Try.prog 74 #[.pointer (some ⟨g, 0, none⟩), .int .i64 i, .int .i64 k] w (BlkTo 75 w g (wTurn i k zs)) :=
  wturn_xy g i k _ _ zs w hb hi (blk_int hb (by omega)) (blk_int hb (by omega)) (allIn_get hz _).1 (allIn_get hz _).2 (allIn_get hz _).1 (allIn_get hz _).2 h0 h1

set_option maxHeartbeats 4000000 in
theorem wback_xy (g i : Nat) (k x y : Int) (zs : List Int) (w : World) (hb : Blk w g 75 (ints zs)) (hi : i < 16)
    (c0 : w.cell? ⟨g, i * 2, none⟩ = some (.int .i64 x)) (c1 : w.cell? ⟨g, i * 2 + 1, none⟩ = some (.int .i64 y))
    (hx : -1099511627776 ≤ x) (hx1 : x ≤ 1099511627776) (hy : -1099511627776 ≤ y) (hy1 : y ≤ 1099511627776) (h0 : -9223372036854775808 ≤ k) (h1 : k ≤ 9223372036854775807) :
    Calls Try.prog 70 #[.pointer (some ⟨g, 0, none⟩), .int .i64 i, .int .i64 k] w (BlkTo 75 w g ((zs.set (i * 2) (backL x y k).1).set (i * 2 + 1) (backL x y k).2)) := by
  have hg := blk_lt hb
  have i0 : (0 : Int) ≤ (i : Int) := by omega
  have i1 : (i : Int) < 16 := by omega
  go_enter Try.func70, Try.ntmps70
  go_wp2
  go_region_with (go_at_call 40; refine (backL_calls x y k _ hx hx1 hy hy1 h0 h1).mono ?_; rintro e w' ⟨rfl, hB⟩; have hB2 : Below w.heap.size w w' := ⟨hB.os, hB.tape, hB.output, hB.size, hB.block⟩; have hb2 : Blk w' g 75 (ints zs) := (hB.block g hg).trans hb; have d0 := (blk_cell hb2 (i * 2)).trans ((blk_cell hb (i * 2)).symm.trans c0); have d1 := (blk_cell hb2 (i * 2 + 1)).trans ((blk_cell hb (i * 2 + 1)).symm.trans c1); have f0 := blk_free hb2 (i * 2); have f1 := blk_free hb2 (i * 2 + 1))
  all_goals (go_end0; exact ⟨rfl, blk_set_int (blk_set_int hb2 _ _) _ _, grown_set (grown_set (grown_below hB2) _) _⟩)

theorem wback_calls (g i : Nat) (k : Int) (zs : List Int) (w : World) (hb : Blk w g 75 (ints zs)) (hl : zs.length = 32) (hi : i < 16) (hz : AllIn 1099511627776 zs)
    (h0 : -9223372036854775808 ≤ k) (h1 : k ≤ 9223372036854775807) :
    Calls Try.prog 70 #[.pointer (some ⟨g, 0, none⟩), .int .i64 i, .int .i64 k] w (BlkTo 75 w g (wBack i k zs)) :=
  wback_xy g i k _ _ zs w hb hi (blk_int hb (by omega)) (blk_int hb (by omega)) (allIn_get hz _).1 (allIn_get hz _).2 (allIn_get hz _).1 (allIn_get hz _).2 h0 h1

end Go.Proofs.Ytlfiaaoegeodnaa
