/- Many blocks at once: a list of what lies where, kept while memory grows. -/
import Derived.Test.YtlfiaaoegeodnaaEqI
import Derived.OrdersHeld
namespace Go.Proofs.Ytlfiaaoegeodnaa
open Go.RowKit

/-- these blocks hold these cells, and below the old heap's size nothing has turned -/
def Keep (w : World) (l : List (Nat × TypeId × Array Value)) (W : World) : Prop := (∀ p ∈ l, Blk W p.1 p.2.1 p.2.2) ∧ Below w.heap.size w W
section
variable {w W W' : World} {l : List (Nat × TypeId × Array Value)}
theorem keep_below (h : Keep w l W) (hC : Below W.heap.size W W') : Keep w l W' := ⟨fun p hp => blk_below (h.1 p hp) hC (blk_lt (h.1 p hp)), bnext h.2 hC⟩
theorem keep_drew (h : Keep w l W) : Keep w l W.drew := ⟨fun p hp => blk_drew (h.1 p hp), h.2.drew⟩
theorem keep_draws (h : Keep w l W) (n : Nat) : Keep w l (W.drewN n) := ⟨fun p hp => blk_draws (h.1 p hp) n, below_draws h.2 n⟩
theorem keep_alloc (h : Keep w l W) (o : Obj) : Keep w l (W.alloc o) := ⟨fun p hp => blk_alloc (h.1 p hp) o, h.2.alloc h.2.size o⟩
theorem keep_lt (h : Keep w l W) : ∀ p ∈ l, p.1 < W.heap.size := fun p hp => blk_lt (h.1 p hp)
theorem keep_grown {g : Nat} (h : Keep w l W) (hg : W.grownBy W' (some g)) (hn : ∀ p ∈ l, p.1 < g) (hw : w.heap.size ≤ g) : Keep w l W' :=
  ⟨fun p hp => blk_grown (h.1 p hp) hg (fun e => by have := hn p hp; injection e with e; omega), below_grown h.2 hg h.2.size hw⟩
theorem keep_cons {g : Nat} {t : TypeId} {cs : Array Value} (h : Keep w l W) (hb : Blk W g t cs) : Keep w ((g, t, cs) :: l) W :=
  ⟨fun p hp => (List.mem_cons.1 hp).elim (fun e => by rw [e]; exact hb) (fun hp => h.1 p hp), h.2⟩
theorem keep_at {g : Nat} {t : TypeId} {cs : Array Value} (h : Keep w l W) (hm : (g, t, cs) ∈ l) : Blk W g t cs := h.1 _ hm
theorem keep_sub {l' : List (Nat × TypeId × Array Value)} (h : Keep w l W) (hs : ∀ p ∈ l', p ∈ l) : Keep w l' W := ⟨fun p hp => h.1 p (hs p hp), h.2⟩
theorem keep_one {t : TypeId} {cs : Array Value} : Keep w [(w.heap.size, t, cs)] (w.alloc (.cells cs t)) :=
  ⟨fun p hp => by rw [List.mem_singleton.1 hp]; exact blk_new w t cs, (Below.refl _ w).alloc (Nat.le_refl _) _⟩
theorem keep_new {t : TypeId} {cs : Array Value} (h : Keep w l W) : Keep w ((W.heap.size, t, cs) :: l) (W.alloc (.cells cs t)) := keep_cons (keep_alloc h _) (blk_new W t cs)
/-- a block that lies beyond all others is written whole -/
theorem keep_store {g : Nat} {t : TypeId} {old new : Array Value} (h : Keep w l W) (hb : Blk W g t old) (hn : ∀ p ∈ l, p.1 < g) (hw : w.heap.size ≤ g) (hs : new.size = old.size) :
    Keep w l (W.setCells g 0 new.toList) ∧ Blk (W.setCells g 0 new.toList) g t new :=
  ⟨keep_grown h (setCells_whole hb hs).2 hn hw, (setCells_whole hb hs).1⟩
end
/-- the world under a new name, of which only so much is known -/
theorem keep_any {P : Program} {md : Region.Mode} {ops : Array Oper} {Q : Exit → Act → World → Prop} {S : World → Prop} {n : Nat} {l : Array Bool} {a : Act} {w0 : World} (F : World → Prop) (h0 : F w0) (h : ∀ W, F W → wpAnyH P md ops Q S n l a W) : wpAnyH P md ops Q S n l a w0 := h _ h0
end Go.Proofs.Ytlfiaaoegeodnaa
