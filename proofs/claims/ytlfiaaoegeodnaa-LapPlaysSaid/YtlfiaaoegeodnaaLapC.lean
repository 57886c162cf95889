/- slices.Clone at frames; blocks of which the first cells are known. -/
import Derived.Test.YtlfiaaoegeodnaaLapG
import Derived.Maps.AppendAt
import Derived.Laws.OwnMore
import Derived.WalkSpells
namespace Go.Proofs.Ytlfiaaoegeodnaa
open Go.RowKit
attribute [local go_sem ↓] Go.wp_at_zero Go.wp_at_succ

/-- the first cells of a block are these numbers, none of them frozen -/
def BlkP (w : World) (g : Nat) (t : TypeId) (zs : List Int) : Prop := ∃ cs, Blk w g t cs ∧ ∀ i, i < zs.length → cs[i]? = some (.int .i64 (zs.getD i 0))
section
variable {w w' : World} {g : Nat} {t : TypeId} {zs : List Int}
theorem blkP_of (h : Blk w g t (ints zs)) : BlkP w g t zs := ⟨ints zs, h, fun i hi => ints_at zs hi⟩
theorem blkP_draws (h : BlkP w g t zs) (n : Nat) : BlkP (w.drewN n) g t zs := h
theorem blkP_lt (h : BlkP w g t zs) : g < w.heap.size := by obtain ⟨cs, h, _⟩ := h; exact blk_lt h
theorem blkP_int (h : BlkP w g t zs) {i : Nat} (hi : i < zs.length) : w.cell? ⟨g, i, none⟩ = some (.int .i64 (zs.getD i 0)) := by
  obtain ⟨cs, h, hc⟩ := h
  rw [blk_cell h, hc i hi]
theorem blkP_free (h : BlkP w g t zs) (i : Nat) : w.frozen? ⟨g, i, none⟩ = false := by obtain ⟨cs, h, _⟩ := h; exact blk_free h i
theorem blkP_below {B : Nat} (h : BlkP w g t zs) (hb : Below B w w') (hg : g < B) : BlkP w' g t zs := by obtain ⟨cs, h, hc⟩ := h; exact ⟨cs, blk_below h hb hg, hc⟩
theorem blkP_drew (h : BlkP w g t zs) : BlkP w.drew g t zs := h
theorem blkP_alloc (h : BlkP w g t zs) (o : Obj) : BlkP (w.alloc o) g t zs := by obtain ⟨cs, h, hc⟩ := h; exact ⟨cs, blk_alloc h o, hc⟩
theorem blkP_grown {r : Option Nat} (h : BlkP w g t zs) (hb : w.grownBy w' r) (hg : some g ≠ r) : BlkP w' g t zs := by obtain ⟨cs, h, hc⟩ := h; exact ⟨cs, blk_grown h hb hg, hc⟩
theorem blkP_slA (h : BlkP w g t zs) : SlA w (some ⟨g, 0, none⟩) zs := Or.inr ⟨g, 0, rfl, blkP_lt h, fun j hj => by rw [Nat.zero_add]; exact blkP_int h hj⟩
theorem blkP_owns {base size n : Nat} {v : Value} (h : w.ownsRow base t size v n (zs.map (Value.int .i64))) (hn : 0 < n) : ∃ g c, v = .slice (some ⟨g, 0, none⟩) n c ∧ base ≤ g ∧ BlkP w g t zs := by
  obtain ⟨hl, h | ⟨g, cap, cur, rfl, hb, hh, h1, h2, h3, h4⟩⟩ := h
  · omega
  · refine ⟨g, cap, rfl, hb, cur, hh, fun i hi => ?_⟩
    rw [List.length_map] at hl
    have h5 := congrArg (fun l : List Value => l[i]?) h4
    simp only [List.getElem?_take, List.getElem?_map, Array.getElem?_toList] at h5
    rw [if_pos (by omega), List.getElem?_eq_getElem hi] at h5
    rw [h5, List.getD_eq_getElem?_getD, List.getElem?_eq_getElem hi]
    rfl
end
section
variable {w : World} {g : Nat} {t : TypeId} {fs : List (List Int)} {i o : Nat}
theorem frameP_range (h : BlkP w g t (flat fs)) (hi : i < fs.length) (hl : (fs.getD i []).length = 32) (ho : o = i * 32) : w.rangeAt g o ((fs.getD i []).map (Value.int .i64)) := fun j v hv => by
  subst ho
  have hj : j < 32 := by
    have := (List.getElem?_eq_some_iff.1 hv).1
    rw [List.length_map, hl] at this
    exact this
  rw [blkP_int h (by rw [flat_len]; omega), show i * 32 + j = 32 * i + j by omega, flat_at hi hj]
  rw [List.getElem?_map, List.getElem?_eq_getElem (by omega)] at hv
  simp only [Option.map_some, Option.some.injEq] at hv
  rw [← hv, List.getD_eq_getElem?_getD, List.getElem?_eq_getElem (by omega), Option.getD_some]
theorem frameP_there (h : BlkP w g t (flat fs)) (hi : i < fs.length) (ho : o = i * 32) : w.there g o 32 := fun j hj => by
  subst ho
  exact ⟨by rw [blkP_int h (by rw [flat_len]; omega)]; rfl, blkP_free h _⟩
theorem frameP_store {f : List Int} (h : BlkP w g t (flat fs)) (hi : i < fs.length) (hf : f.length = 32) (ho : o = i * 32) :
    BlkP (w.setCells g o (f.map (Value.int .i64))) g t (flat (fs.set i f)) ∧ w.grownBy (w.setCells g o (f.map (Value.int .i64))) (some g) := by
  subst ho
  obtain ⟨cs, h, hc⟩ := h
  have hsz : 32 * fs.length ≤ cs.size := by
    have := hc (32 * fs.length - 1) (by rw [flat_len]; omega)
    have := (Array.getElem?_eq_some_iff.1 this).1
    omega
  obtain ⟨cs', k1, k2, k3, k4, k5, k6⟩ := setCells_blk (f.map (Value.int .i64)) (i * 32) w h (by rw [List.length_map, hf]; omega)
  rw [List.length_map, hf] at k5 k6
  refine ⟨⟨cs', k1, fun p hp => ?_⟩, k2⟩
  rw [flat_len, List.length_set] at hp
  rw [flat_get (by rw [List.length_set]; exact hp), frames_getD_set]
  by_cases h1 : p < i * 32
  · rw [k4 p h1, hc p (by rw [flat_len]; exact hp), flat_get hp, if_neg (by omega)]
  · by_cases h2 : p < i * 32 + 32
    · have := k5 (p - i * 32) (by omega)
      rw [show i * 32 + (p - i * 32) = p by omega] at this
      rw [this, if_pos (by omega), List.getElem?_map, List.getElem?_eq_getElem (by omega : p - i * 32 < f.length), show p % 32 = p - i * 32 by omega]
      simp [List.getD_eq_getElem?_getD, List.getElem?_eq_getElem (by omega : p - i * 32 < f.length)]
    · rw [k6 p (by omega), hc p (by rw [flat_len]; exact hp), flat_get hp, if_neg (by omega)]
end

set_option maxHeartbeats 1000000 in
theorem clone_calls (g n c : Nat) (zs : List Int) (w : World) (hn : 0 < n) (hn2 : n ≤ 10000) (hz : zs.length = n * 32) (h : BlkP w g 44 zs) :
    Calls Try.prog 79 #[.slice (some ⟨g, 0, none⟩) n c] w fun e w' => ∃ g' c', e = .returned (.slice (some ⟨g', 0, none⟩) n c') ∧ w.heap.size ≤ g' ∧ BlkP w' g' 44 zs ∧ Below w.heap.size w w' := by
  have hq := fun w => Lib.run_eql_slice_nil (P := Try.prog) w 54 44 (some (⟨g, 0, none⟩ : Addr)) n c 0 0 Try.underlying54
  obtain ⟨inf, hinf, hzr, hsz, hby⟩ := info_parts (P := Try.prog) (e := 44) (z := .agg #[Value.int .i64 0, Value.int .i64 0, Value.int .i64 0, Value.int .i64 0, Value.int .i64 0, Value.int .i64 0, Value.int .i64 0, Value.int .i64 0, Value.int .i64 0, Value.int .i64 0, Value.int .i64 0, Value.int .i64 0, Value.int .i64 0, Value.int .i64 0, Value.int .i64 0, Value.int .i64 0, Value.int .i64 0, Value.int .i64 0, Value.int .i64 0, Value.int .i64 0, Value.int .i64 0, Value.int .i64 0, Value.int .i64 0, Value.int .i64 0, Value.int .i64 0, Value.int .i64 0, Value.int .i64 0, Value.int .i64 0, Value.int .i64 0, Value.int .i64 0, Value.int .i64 0, Value.int .i64 0]) (size := 32) (bytes := 256) (by kernel_rfl)
  have hown : (w.alloc (.cells #[] 44)).ownsRow w.heap.size 44 32 (.slice (some ⟨w.heap.size, 0, none⟩) 0 0) 0 [] := World.ownsRow_lit w #[] 0 (Nat.le_refl _) (by unfold maxLen; omega) rfl
  have hcell : ∀ j u, (zs.map (Value.int .i64))[j]? = some u → (w.alloc (.cells #[] 44)).cell? ((⟨g, 0, none⟩ : Addr).add j) = some u := fun j u hj => by
    have hlt := (List.getElem?_eq_some_iff.1 hj).1
    rw [List.length_map] at hlt
    rw [Addr.add_mid, Nat.zero_add, blkP_int (blkP_alloc h _) hlt]
    rw [List.getElem?_map, List.getElem?_eq_getElem hlt] at hj
    simp only [Option.map_some, Option.some.injEq] at hj
    rw [← hj, List.getD_eq_getElem?_getD, List.getElem?_eq_getElem hlt, Option.getD_some]
  have h1c : ∀ u ∈ zs.map (Value.int .i64), u.oneCell' = true := fun u hu => by
    obtain ⟨z, _, rfl⟩ := List.mem_map.1 hu
    rfl
  have HZ := Lib.hid hz
  have HC := Lib.hid hcell
  have H1 := Lib.hid h1c
  clear hz hcell h1c
  go_enter Try.func79, Try.ntmps79
  go_wp2_with (first | (at_builtin; refine wpList_append_own _ rfl _ _ 54 rfl w.heap.size 44 inf (.agg #[Value.int .i64 0, Value.int .i64 0, Value.int .i64 0, Value.int .i64 0, Value.int .i64 0, Value.int .i64 0, Value.int .i64 0, Value.int .i64 0, Value.int .i64 0, Value.int .i64 0, Value.int .i64 0, Value.int .i64 0, Value.int .i64 0, Value.int .i64 0, Value.int .i64 0, Value.int .i64 0, Value.int .i64 0, Value.int .i64 0, Value.int .i64 0, Value.int .i64 0, Value.int .i64 0, Value.int .i64 0, Value.int .i64 0, Value.int .i64 0, Value.int .i64 0, Value.int .i64 0, Value.int .i64 0, Value.int .i64 0, Value.int .i64 0, Value.int .i64 0, Value.int .i64 0, Value.int .i64 0]) 32 256 Try.underlying54 hinf hzr hsz hby (by kernel_rfl) (by decide) _ 0 [] rfl hown ⟨g, 0, none⟩ n c (zs.map (Value.int .i64)) rfl (by rw [List.length_map, HZ.out]) HC.out H1.out (by unfold maxLen; omega) (by omega) (by simp) ?_; intro v' w1 hown' hgrow _))
  rw [List.nil_append, Nat.zero_add] at hown'
  obtain ⟨g', c', rfl, hb', hP⟩ := blkP_owns hown' hn
  have hE : Below w.heap.size w w1 := (((Below.refl _ w).alloc (Nat.le_refl _) (.cells #[] 44))).grown hgrow (by simp) (fun k e => by cases e; exact Nat.le_refl _)
  go_wp2_with fail
  go_ret
  exact ⟨g', c', rfl, hb', hP, hE⟩
end Go.Proofs.Ytlfiaaoegeodnaa
