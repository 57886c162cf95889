/- slices.IndexFunc and slices.ContainsFunc at whatever []int: nil too. -/
import Derived.Test.YtnmhbonheaoldaaFuncs
namespace Go.Proofs.Ytnmhbonheaoldaa
open Go.RowKit

/-- what a slice's address must be, that these numbers are read from it -/
def SlA (w : World) (a : Option Addr) (zs : List Int) : Prop := zs = [] ∨ ∃ g o, a = some ⟨g, o, none⟩ ∧ g < w.heap.size ∧ ∀ j, j < zs.length → w.cell? ⟨g, o + j, none⟩ = some (.int .i64 (zs.getD j 0))
theorem slA_nil (w : World) (a : Option Addr) : SlA w a [] := Or.inl rfl
theorem slA_below {w w' : World} {a : Option Addr} {zs : List Int} (h : SlA w a zs) (hb : Below w.heap.size w w') : SlA w' a zs := by
  rcases h with h | ⟨g, o, rfl, hg, hc⟩
  · exact Or.inl h
  · exact Or.inr ⟨g, o, rfl, Nat.lt_of_lt_of_le hg hb.size, fun j hj => (hb.cell (p := ⟨g, o + j, none⟩) hg).trans (hc j hj)⟩
theorem slA_below2 {w w' : World} {a : Option Addr} {zs : List Int} (h : SlA w a zs) (hb : Below w.heap.size w w') : SlA w' a zs := slA_below h hb
theorem slA_draws {w : World} {a : Option Addr} {zs : List Int} (h : SlA w a zs) (n : Nat) : SlA (w.drewN n) a zs := h
theorem slA_blk {w : World} {g : Nat} {t : TypeId} {zs : List Int} (h : Blk w g t (ints zs)) : SlA w (some ⟨g, 0, none⟩) zs :=
  Or.inr ⟨g, 0, rfl, blk_lt h, fun j hj => by rw [Nat.zero_add]; exact blk_int h hj⟩
theorem slA_at {w : World} {a : Option Addr} {zs : List Int} (h : SlA w a zs) {k : Nat} (hk : k < zs.length) : ∃ g o, a = some ⟨g, o, none⟩ ∧ g < w.heap.size ∧ ∀ j, j < zs.length → w.cell? ⟨g, o + j, none⟩ = some (.int .i64 (zs.getD j 0)) := by
  rcases h with rfl | h
  · simp at hk
  · exact h

theorem indexf_none (fd : Nat) (lb : Array Value) (a : Option Addr) (c : Nat) (w : World) :
    Calls Try.prog 58 #[.slice a 0 c, .func (.func fd) #[] lb] w fun e w' => e = .returned (.int .i64 (-1)) ∧ Below w.heap.size w w' := by
  go_enter Try.func58, Try.ntmps58
  go_wp2_with fail
  go_loopg [8] 0 (fun gg s8 wr => s8 = .int .i64 0 ∧ Aside (Below w.heap.size w wr))
  case atStart => exact ⟨rfl, Below.refl _ w⟩
  case round =>
    obtain ⟨rfl, B⟩ := hrel
    go_wp2_with fail
    go_ret
    exact ⟨rfl, B.out⟩

theorem containsf_none (fd : Nat) (lb : Array Value) (a : Option Addr) (c : Nat) (w : World) :
    Calls Try.prog 48 #[.slice a 0 c, .func (.func fd) #[] lb] w fun e w' => e = .returned (.bool false) ∧ Below w.heap.size w w' := by
  have hcall := indexf_none fd lb a c w
  go_enter Try.func48, Try.ntmps48
  go_wp2_with fail
  refine hcall.mono ?_
  rintro e w1 ⟨rfl, hB⟩
  go_wp2_with fail
  go_ret
  exact ⟨rfl, hB⟩

theorem containsf_any (fd : Nat) (lb : Array Value) (p : Int → Bool) (a : Option Addr) (n c : Nat) (zs : List Int) (w : World) (hz : zs.length = n) (hbig : n ≤ 9223372036854775807) (h : SlA w a zs) (hi : ∀ z ∈ zs, -9223372036854775808 ≤ z ∧ z ≤ 9223372036854775807)
    (eg : ∀ args w, (callFunc fd args).run Try.prog w = .ok (.enter fd args) w) (hp : Tells fd lb p w) :
    Calls Try.prog 48 #[.slice a n c, .func (.func fd) #[] lb] w fun e w' => e = .returned (.bool (zs.any p)) ∧ Below w.heap.size w w' := by
  rcases h with rfl | ⟨g, o, rfl, hg, hc⟩
  · subst hz
    exact containsf_none fd lb a c w
  · exact containsf_calls fd lb p g o n c zs w hz hbig hg (fun j hj => hc j (by omega)) hi eg hp
end Go.Proofs.Ytnmhbonheaoldaa
