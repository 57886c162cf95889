/- LapAlone: plain law; frames appended one at a time. -/
import Derived.Test.YtlfiaaoegeodnaaLapN
import Derived.Test.YtlfiaaoegeodnaaRowsI
import Derived.Great.BuildSlice
import Derived.Great.FillDense
namespace Go.Proofs.Ytlfiaaoegeodnaa
open Go.RowKit
attribute [local go_sem ↓] Go.wp_at_zero Go.wp_at_succ

/-- a frame that is another changes its own samples and 16 of each neighbour's -/
theorem samples_alone {fs gs : List (List Int)} (hl : gs.length = fs.length) (hA : All32 fs) (hB : All32 gs) {k p : Nat} (h : ∀ i, i ≠ k → fs.getD i [] = gs.getD i []) (hp : p < 32 * fs.length) (hk : p + 16 < 32 * k ∨ 32 * k + 48 ≤ p) :
    (samplesL fs).getD p 0 = (samplesL gs).getD p 0 := by
  have hAm : All32 (fs.map dbackL) := fun i hi => by
    rw [List.length_map] at hi
    rw [map_getD dbackL hi, dbackL_len]
    exact hA i hi
  have hBm : All32 (gs.map dbackL) := fun i hi => by
    rw [List.length_map] at hi
    rw [map_getD dbackL hi, dbackL_len]
    exact hB i hi
  unfold samplesL
  rw [flat_get (by rw [seamTo_len, List.length_map]; exact hp), flat_get (by rw [seamTo_len, List.length_map]; omega), hl]
  rw [seams_is HalfA2 HalfB2 hAm (by rw [List.length_map]; omega) (by rw [List.length_map]; omega), seams_is HalfA2 HalfB2 hBm (by rw [List.length_map]; omega) (by rw [List.length_map]; omega)]
  rw [seamed_get _ _ (by omega), seamed_get _ _ (by omega)]
  have hsame : ∀ i, i < fs.length → i ≠ k → (fs.map dbackL).getD i [] = (gs.map dbackL).getD i [] := fun i hi hk => by
    rw [map_getD dbackL hi, map_getD dbackL (by omega), h i hk]
  by_cases h16 : p % 32 < 16
  · rw [if_pos h16, if_pos h16]
    by_cases h0 : 0 < p / 32 ∧ p / 32 ≤ fs.length - 1
    · rw [if_pos h0, if_pos h0, hsame (p / 32) (by omega) (by omega), hsame (p / 32 - 1) (by omega) (by omega)]
    · rw [if_neg h0, if_neg h0, hsame (p / 32) (by omega) (by omega)]
  · rw [if_neg h16, if_neg h16]
    by_cases h0 : p / 32 < fs.length - 1
    · rw [if_pos h0, if_pos h0, hsame (p / 32) (by omega) (by omega), hsame (p / 32 + 1) (by omega) (by omega)]
    · rw [if_neg h0, if_neg h0, hsame (p / 32) (by omega) (by omega)]

theorem ints_list (zs : List Int) : (ints zs).toList = zs.map (Value.int .i64) := by simp [ints]
/-- '[]Frame{f}' -/
theorem wpList_build_frame (w : World) {ops : Array Oper} {rest : List Oper} {o : Oper} {a : Act} {Q : Exit → Act → World → Prop} (hg : o.guard = none) (x : Operand) (ho : o.op = .buildSlice 54 1 #[(0, x)])
    (zs : List Int) (hl : zs.length = 32) (hx : a.eval x = .agg (ints zs))
    (h : wpList Try.prog ops Q rest (a.put o.dst (.slice (some ⟨w.heap.size, 0, none⟩) 1 1)) (w.alloc (.cells (ints zs) 44))) : wpList Try.prog ops Q (o :: rest) a w := by
  obtain ⟨inf, hinf, hzr, hsz, hby⟩ := info_parts (P := Try.prog) (e := 44) (z := .agg #[Value.int .i64 0, Value.int .i64 0, Value.int .i64 0, Value.int .i64 0, Value.int .i64 0, Value.int .i64 0, Value.int .i64 0, Value.int .i64 0, Value.int .i64 0, Value.int .i64 0, Value.int .i64 0, Value.int .i64 0, Value.int .i64 0, Value.int .i64 0, Value.int .i64 0, Value.int .i64 0, Value.int .i64 0, Value.int .i64 0, Value.int .i64 0, Value.int .i64 0, Value.int .i64 0, Value.int .i64 0, Value.int .i64 0, Value.int .i64 0, Value.int .i64 0, Value.int .i64 0, Value.int .i64 0, Value.int .i64 0, Value.int .i64 0, Value.int .i64 0, Value.int .i64 0, Value.int .i64 0]) (size := 32) (bytes := 256) (by kernel_rfl)
  refine Go.wpList_buildSlice hg 54 44 1 #[(0, x)] ho (ints zs) inf (.agg #[Value.int .i64 0, Value.int .i64 0, Value.int .i64 0, Value.int .i64 0, Value.int .i64 0, Value.int .i64 0, Value.int .i64 0, Value.int .i64 0, Value.int .i64 0, Value.int .i64 0, Value.int .i64 0, Value.int .i64 0, Value.int .i64 0, Value.int .i64 0, Value.int .i64 0, Value.int .i64 0, Value.int .i64 0, Value.int .i64 0, Value.int .i64 0, Value.int .i64 0, Value.int .i64 0, Value.int .i64 0, Value.int .i64 0, Value.int .i64 0, Value.int .i64 0, Value.int .i64 0, Value.int .i64 0, Value.int .i64 0, Value.int .i64 0, Value.int .i64 0, Value.int .i64 0, Value.int .i64 0]) Try.underlying54 hinf hzr (by rw [hsz]; decide) (by rw [hsz]; decide) ?_ h
  have := Great.fill_whole (s := 32) (by decide) [.agg (ints zs)] ((Array.range 32).map ((Value.agg #[Value.int .i64 0, Value.int .i64 0, Value.int .i64 0, Value.int .i64 0, Value.int .i64 0, Value.int .i64 0, Value.int .i64 0, Value.int .i64 0, Value.int .i64 0, Value.int .i64 0, Value.int .i64 0, Value.int .i64 0, Value.int .i64 0, Value.int .i64 0, Value.int .i64 0, Value.int .i64 0, Value.int .i64 0, Value.int .i64 0, Value.int .i64 0, Value.int .i64 0, Value.int .i64 0, Value.int .i64 0, Value.int .i64 0, Value.int .i64 0, Value.int .i64 0, Value.int .i64 0, Value.int .i64 0, Value.int .i64 0, Value.int .i64 0, Value.int .i64 0, Value.int .i64 0, Value.int .i64 0]).cells[· % (Value.agg #[Value.int .i64 0, Value.int .i64 0, Value.int .i64 0, Value.int .i64 0, Value.int .i64 0, Value.int .i64 0, Value.int .i64 0, Value.int .i64 0, Value.int .i64 0, Value.int .i64 0, Value.int .i64 0, Value.int .i64 0, Value.int .i64 0, Value.int .i64 0, Value.int .i64 0, Value.int .i64 0, Value.int .i64 0, Value.int .i64 0, Value.int .i64 0, Value.int .i64 0, Value.int .i64 0, Value.int .i64 0, Value.int .i64 0, Value.int .i64 0, Value.int .i64 0, Value.int .i64 0, Value.int .i64 0, Value.int .i64 0, Value.int .i64 0, Value.int .i64 0, Value.int .i64 0, Value.int .i64 0]).cells.size]!)) (by intro v hv; simp at hv; subst hv; simp [Value.cells, ints, hl]) (by simp)
  rw [hsz]
  simp only [List.map_toArray, List.map_cons, List.map_nil, hx]
  rw [Nat.one_mul, show [(0, Value.agg (ints zs))] = ([Value.agg (ints zs)].zipIdx 0).map fun x => (x.2, x.1) from rfl, this]
  simp [Value.cells]

theorem flat_append {fs : List (List Int)} {f : List Int} (hf : f.length = 32) : flat (fs ++ [f]) = flat fs ++ f := by
  refine list_getD_ext (by rw [List.length_append, flat_len, flat_len, List.length_append, hf]; simp; omega) (fun p hp => ?_)
  rw [flat_len, List.length_append, List.length_singleton] at hp
  rw [flat_get (by rw [List.length_append, List.length_singleton]; exact hp)]
  by_cases c : p < 32 * fs.length
  · rw [List.getD_eq_getElem?_getD (l := flat fs ++ f), List.getElem?_append_left (by rw [flat_len]; exact c), ← List.getD_eq_getElem?_getD, flat_get c]
    rw [List.getD_eq_getElem?_getD (l := fs ++ [f]), List.getElem?_append_left (by omega), ← List.getD_eq_getElem?_getD]
  · rw [List.getD_eq_getElem?_getD (l := flat fs ++ f), List.getElem?_append_right (by rw [flat_len]; omega), ← List.getD_eq_getElem?_getD, flat_len]
    rw [List.getD_eq_getElem?_getD (l := fs ++ [f]), List.getElem?_append_right (by omega), show p / 32 - fs.length = 0 by omega, show p % 32 = p - 32 * fs.length by omega]
    rfl
end Go.Proofs.Ytlfiaaoegeodnaa
