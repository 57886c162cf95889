/- A shape in memory. A frame's shape (layer 19): Shape. A frame's bit (layer 18): shapes whose numbers are small, sums. -/
import Derived.Test.YtiigipnfnfpepaaGreatDoorUC8
import Derived.Test.YtiigipnfnfpepaaGreatDoorUA
namespace Go.Proofs.YtiigipnfnfpepaaGreatDoor
open Go.RowKit

structure Shp where
 sd : List Int
 ys : List (List Int)
structure SOk (s : Shp) : Prop where
 sl : s.sd.length = 8
 s15 : ∀ z ∈ s.sd, 0 ≤ z ∧ z ≤ 15
 yl : s.ys.length = 8
 y4 : ∀ y ∈ s.ys, y.length = 4
def Shp.flat (s : Shp) : List Int := s.sd ++ s.ys.flatten
def Shp.put (s : Shp) (b : Nat) (y : List Int) : Shp := ⟨s.sd, s.ys.set b y⟩
abbrev shV (s : Shp) : Array Value := ints s.flat
abbrev zerosY : List (List Int) := List.replicate 8 [0, 0, 0, 0]
theorem sok_put {s : Shp} (h : SOk s) (b : Nat) {y : List Int} (hy : y.length = 4) : SOk (s.put b y) :=
 ⟨h.sl, h.s15, by rw [Shp.put, List.length_set]; exact h.yl, set_all h.y4 b hy⟩
theorem shp_len {s : Shp} (h : SOk s) : s.flat.length = 40 := by
 rw [Shp.flat, List.length_append, row_len h.y4, h.sl, h.yl]
theorem shp_side {s : Shp} (h : SOk s) {i : Nat} (hi : i < 8) : s.flat[i]? = some (s.sd.getD i 0) := by
 rw [Shp.flat, List.getElem?_append_left (by rw [h.sl]; exact hi), List.getD_eq_getElem?_getD, List.getElem?_eq_getElem (by rw [h.sl]; exact hi)]
 rfl
theorem shp_y {s : Shp} (h : SOk s) {b j : Nat} (hb : b < 8) (hj : j < 4) : s.flat[8 + (b * 4 + j)]? = some ((s.ys.getD b []).getD j 0) := by
 rw [Shp.flat, List.getElem?_append_right (by rw [h.sl]; omega), h.sl, Nat.add_sub_cancel_left, row_at h.y4 b j (by rw [h.yl]; exact hb) hj]
theorem shp_ylen {s : Shp} (h : SOk s) {b : Nat} (hb : b < 8) : (s.ys.getD b []).length = 4 := getD_all h.y4 (by rw [h.yl]; exact hb) []
theorem sd_in {s : Shp} (h : SOk s) {b : Nat} (hb : b < 8) : 0 ≤ s.sd.getD b 0 ∧ s.sd.getD b 0 ≤ 15 := getD_all h.s15 (by rw [h.sl]; exact hb) 0
section
variable {w : World} {g : Nat} {t : TypeId} {s : Shp}
theorem shp_cell (hb : Blk w g t (shV s)) (h : SOk s) {i : Nat} (hi : i < 8) : w.cell? ⟨g, i, none⟩ = some (.int .i64 (s.sd.getD i 0)) := by
 rw [blk_cell hb, ints_get, shp_side h hi]; rfl
theorem shp_sides (hb : Blk w g t (shV s)) (h : SOk s) : w.rangeAt g 0 (s.sd.map (.int .i64)) := fun j v hj => by
 have hl : j < s.sd.length := by simpa using (List.getElem?_eq_some_iff.1 hj).1
 rw [Nat.zero_add, shp_cell hb h (by rw [← h.sl]; exact hl), ← hj, List.getElem?_map, List.getElem?_eq_getElem hl, List.getD_eq_getElem?_getD, List.getElem?_eq_getElem hl]
 rfl
theorem shp_range (hb : Blk w g t (shV s)) (h : SOk s) {b : Nat} (hb8 : b < 8) : w.rangeAt g (8 + b * 4) ((s.ys.getD b []).map (.int .i64)) := fun j v hj => by
 have hl : j < (s.ys.getD b []).length := by simpa using (List.getElem?_eq_some_iff.1 hj).1
 rw [blk_cell hb, ints_get, Nat.add_assoc, shp_y h hb8 (by rw [← shp_ylen h hb8]; exact hl), ← hj, List.getElem?_map, List.getElem?_eq_getElem hl, List.getD_eq_getElem?_getD (l := s.ys.getD b []), List.getElem?_eq_getElem hl]
 rfl
theorem shp_there (hb : Blk w g t (shV s)) (h : SOk s) {b : Nat} (hb8 : b < 8) : w.there g (8 + b * 4) 4 := fun j hj => by
 rw [blk_cell hb, ints_get, Nat.add_assoc, shp_y h hb8 hj]
 exact ⟨rfl, blk_free hb _⟩
theorem shp_store (hb : Blk w g t (shV s)) (h : SOk s) {b : Nat} (hb8 : b < 8) {y : List Int} (hy : y.length = 4) :
 Blk (w.setCells g (8 + b * 4) (y.map (.int .i64))) g t (shV (s.put b y)) ∧ w.grownBy (w.setCells g (8 + b * 4) (y.map (.int .i64))) (some g) := by
 have h2 := sok_put h b hy
 obtain ⟨cs, k1, k2, k3, k4, k5, k6⟩ := setCells_blk (y.map (.int .i64)) (8 + b * 4) w hb (by rw [List.length_map, hy, ints_size, shp_len h]; omega)
 have e : cs = shV (s.put b y) := by
  apply Array.ext_getElem?
  intro i
  rw [List.length_map, hy] at k5 k6
  by_cases h8 : i < 8
  · rw [k4 i (by omega), ints_get, ints_get, shp_side h h8, shp_side h2 h8]; rfl
  · by_cases h40 : i < 40
    · obtain ⟨p, q, rfl, hp, hq⟩ : ∃ p q, i = 8 + (p * 4 + q) ∧ p < 8 ∧ q < 4 := ⟨(i - 8) / 4, (i - 8) % 4, by omega, by omega, by omega⟩
      rw [ints_get, shp_y h2 hp hq]
      by_cases hpb : p = b
      · subst hpb
        have e1 : ((s.put p y).ys.getD p []) = y := by
         rw [Shp.put, List.getD_eq_getElem?_getD, List.getElem?_set_self (by rw [h.yl]; exact hp)]; rfl
        rw [e1, ← Nat.add_assoc, k5 q hq, List.getElem?_map, List.getElem?_eq_getElem (by omega), List.getD_eq_getElem?_getD, List.getElem?_eq_getElem (by omega)]
        rfl
      · have e1 : ((s.put b y).ys.getD p []) = s.ys.getD p [] := by
         rw [Shp.put, List.getD_eq_getElem?_getD, List.getElem?_set_ne (fun h => hpb h.symm), List.getD_eq_getElem?_getD]
        rw [e1]
        have : cs[8 + (p * 4 + q)]? = (shV s)[8 + (p * 4 + q)]? := by
         by_cases hlt : p < b
         · exact k4 _ (by omega)
         · exact k6 _ (by omega)
        rw [this, ints_get, shp_y h hp hq]
    · rw [Array.getElem?_eq_none (by rw [k3, ints_size, shp_len h]; omega), Array.getElem?_eq_none (by rw [ints_size, shp_len h2]; omega)]
 rw [e] at k1
 exact ⟨k1, k2⟩
end
theorem shp_size {s : Shp} (h : SOk s) : (Tryz.prog.info? 47).map (·.size) = some (shV s).size := by rw [ints_size, shp_len h]; kernel_rfl
theorem pul_size {y : List Int} (h : y.length = 4) : (Tryz.prog.info? 44).map (·.size) = some (y.map (Value.int .i64)).length := by rw [List.length_map, h]; kernel_rfl
theorem side_size {y : List Int} (h : y.length = 8) : (Tryz.prog.info? 42).map (·.size) = some (y.map (Value.int .i64)).length := by rw [List.length_map, h]; kernel_rfl
theorem list8 {l : List Int} (h : l.length = 8) : ∃ a b c d e f g i, l = [a, b, c, d, e, f, g, i] := by
 match l, h with
 | [a, b, c, d, e, f, g, i], _ => exact ⟨a, b, c, d, e, f, g, i, rfl⟩
theorem list4 {l : List Int} (h : l.length = 4) : ∃ a b c d, l = [a, b, c, d] := by
 match l, h with
 | [a, b, c, d], _ => exact ⟨a, b, c, d, rfl⟩

def yOf (f : List Int) (n : Int) (b : Nat) : List Int := findP (bandL f b) (stepL (bandL f b)) ((gpL (stepsL f) n).getD b 0).toNat
def shTo (f : List Int) (n : Int) (k : Nat) : Shp := ⟨stepsL f, (List.range 8).map fun b => if b < k then yOf f n b else [0, 0, 0, 0]⟩
def shOf (f : List Int) (n : Int) : Shp := ⟨stepsL f, (List.range 8).map (yOf f n)⟩
def shapeL (f : List Int) (n : Int) : Shp := shOf (f.map clampZ) n
theorem stepL_in (zs : List Int) : stepL zs ≤ 15 := by
 have h : ∀ k, stepUp zs k ≤ 15 := fun k => by
  induction k with
  | zero => simp [stepUp]
  | succ k ih => rw [stepUp]; split <;> omega
 exact h 15
theorem stepsL_len (f : List Int) : (stepsL f).length = 8 := by simp [stepsL]
theorem stepsL_in (f : List Int) : ∀ z ∈ stepsL f, 0 ≤ z ∧ z ≤ 15 := fun z hz => by
 obtain ⟨b, _, rfl⟩ := List.mem_map.1 hz
 have := stepL_in (bandL f b)
 omega
theorem stepsL_get (f : List Int) {b : Nat} (hb : b < 8) : (stepsL f).getD b 0 = (stepL (bandL f b) : Int) := by
 rw [stepsL, List.getD_eq_getElem?_getD, List.getElem?_map, List.getElem?_range hb]; rfl
theorem clamp_in (z : Int) : -1048576 ≤ clampZ z ∧ clampZ z ≤ 1048576 := by unfold clampZ; omega
theorem clamp_cs (f : List Int) (hl : f.length = 32) {b : Nat} (hb : b < 8) : Cs (bandL (f.map clampZ) b) := by
 have h : ∀ i, i < 32 → -1048576 ≤ (f.map clampZ).getD i 0 ∧ (f.map clampZ).getD i 0 ≤ 1048576 := fun i hi => by
  rw [List.getD_eq_getElem?_getD, List.getElem?_map, List.getElem?_eq_getElem (by omega)]
  exact clamp_in _
 refine ⟨rfl, fun i hi => ?_⟩
 match i, hi with
 | 0, _ => exact h _ (by omega)
 | 1, _ => exact h _ (by omega)
 | 2, _ => exact h _ (by omega)
 | 3, _ => exact h _ (by omega)
theorem yOf_ok (f : List Int) (hl : f.length = 32) {n : Int} (hn : 0 ≤ n) {b : Nat} (hb : b < 8) :
 FOk (bandL (f.map clampZ) b) ((gpL (stepsL (f.map clampZ)) n).getD b 0) (yOf (f.map clampZ) n b) := by
 have hk := (gpL_keeps (stepsL (f.map clampZ)) hn).1
 have h1 := getD_all hk.all (i := b) (by rw [hk.len]; exact hb) 0
 have := findP_ok (clamp_cs f hl hb) (stepL_in (bandL (f.map clampZ) b)) (k := ((gpL (stepsL (f.map clampZ)) n).getD b 0).toNat) (by omega)
 rw [Int.toNat_of_nonneg h1.1] at this
 exact this
theorem shTo_ok (f : List Int) (hl : f.length = 32) {n : Int} (hn : 0 ≤ n) (k : Nat) : SOk (shTo (f.map clampZ) n k) :=
 ⟨stepsL_len _, stepsL_in _, by simp [shTo], fun y hy => by
  obtain ⟨b, hb, rfl⟩ := List.mem_map.1 hy
  split
  · exact (yOf_ok f hl hn (List.mem_range.1 hb)).len
  · rfl⟩
theorem shTo_zero (f : List Int) (n : Int) : shTo f n 0 = ⟨stepsL f, zerosY⟩ := by
 have : ((List.range 8).map fun b => if b < 0 then yOf f n b else [0, 0, 0, 0]) = zerosY := by
  rw [show zerosY = (List.range 8).map (fun _ => [0, 0, 0, 0]) from rfl]
  apply List.map_congr_left
  intro i _
  rw [if_neg (Nat.not_lt_zero i)]
 unfold shTo
 rw [this]
theorem sh_zero (a0 a1 a2 a3 a4 a5 a6 a7 : Int) : shV ⟨[a0, a1, a2, a3, a4, a5, a6, a7], zerosY⟩ = (#[.int .i64 a0, .int .i64 a1, .int .i64 a2, .int .i64 a3, .int .i64 a4, .int .i64 a5, .int .i64 a6, .int .i64 a7, .int .i64 0, .int .i64 0, .int .i64 0, .int .i64 0, .int .i64 0, .int .i64 0, .int .i64 0, .int .i64 0, .int .i64 0, .int .i64 0, .int .i64 0, .int .i64 0, .int .i64 0, .int .i64 0, .int .i64 0, .int .i64 0, .int .i64 0, .int .i64 0, .int .i64 0, .int .i64 0, .int .i64 0, .int .i64 0, .int .i64 0, .int .i64 0, .int .i64 0, .int .i64 0, .int .i64 0, .int .i64 0, .int .i64 0, .int .i64 0, .int .i64 0, .int .i64 0] : Array Value) := rfl
theorem shTo_all (f : List Int) (n : Int) : shTo f n 8 = shOf f n := by
 have : ((List.range 8).map fun b => if b < 8 then yOf f n b else [0, 0, 0, 0]) = (List.range 8).map (yOf f n) := by
  apply List.map_congr_left
  intro i hi
  rw [if_pos (List.mem_range.1 hi)]
 unfold shTo shOf
 rw [this]
theorem shTo_succ (f : List Int) (n : Int) {k : Nat} : (shTo f n k).put k (yOf f n k) = shTo f n (k + 1) := by
 unfold shTo Shp.put
 congr 1
 apply List.ext_getElem (by simp)
 intro i h1 h2
 rw [List.getElem_set]
 simp only [List.getElem_map, List.getElem_range]
 by_cases e : k = i
 · subst e
   rw [if_pos rfl, if_pos (by omega)]
 · rw [if_neg e]
   by_cases h : i < k
   · rw [if_pos h, if_pos (by omega)]
   · rw [if_neg h, if_neg (by omega)]
theorem shapeL_ok (f : List Int) (hl : f.length = 32) {n : Int} (hn : 0 ≤ n) : SOk (shapeL f n) := by
 have := shTo_ok f hl hn 8
 rw [shTo_all] at this
 exact this
end Go.Proofs.YtiigipnfnfpepaaGreatDoor
namespace Go.Proofs.YtiigipnfnfpepaaGreatDoor
open Go.RowKit

theorem build_side (a0 a1 a2 a3 a4 a5 a6 a7 : Int) {a : Act} {op : Oper} (x : Operand) (ho : op.op = .build 47 #[(0, x)]) (hx : a.eval x = .agg #[.int .i64 a0, .int .i64 a1, .int .i64 a2, .int .i64 a3, .int .i64 a4, .int .i64 a5, .int .i64 a6, .int .i64 a7]) (W : World) :
 (execOp a.eval op).run Tryz.prog W = .ok (.value (.agg (shV ⟨[a0, a1, a2, a3, a4, a5, a6, a7], zerosY⟩))) W := by
 unfold execOp
 rw [sh_zero]
 simp only [ho, hx, List.map_toArray, List.map_cons, List.map_nil]
 kernel_rfl

set_option maxRecDepth 20000 in
set_option maxHeartbeats 4000000 in
theorem shape_calls (f : List Int) (size : Nat) (w : World) (hl : f.length = 32) (h0 : 12 ≤ size) (h1 : size ≤ 24) :
 Calls Tryz.prog 45 #[.agg (ints f), .int .i64 size] w fun e w' => e = .returned (.tuple #[.agg (shV (shapeL f (8 * (size : Int) - 64))), .int .i64 0]) ∧ Below w.heap.size w w' := by
 obtain ⟨n, hn⟩ : ∃ n : Int, n = 8 * (size : Int) - 64 := ⟨_, rfl⟩
 have hn0 : 32 ≤ n := by omega
 have hn1 : n ≤ 128 := by omega
 have cg := fun W => gBits_calls size W h0 h1
 rw [← hn] at cg ⊢
 have hls : (f.map clampZ).length = 32 := by rw [List.length_map, hl]
 have HFZ := hid (show (Tryz.prog.info? 94).map (·.size) = some (ints f).size by rw [ints_size, hl]; kernel_rfl)
 have HFZ2 := hid (show (Tryz.prog.info? 94).map (·.size) = some (ints (f.map clampZ)).size by rw [ints_size, hls]; kernel_rfl)
 have HFS := hid (show (ints (f.map clampZ)).size = (ints f).size by rw [ints_size, ints_size, hls, hl])
 have HFO := hid (ints_one (f.map clampZ))
 have HOK := hid (fun k => shTo_ok f hl (show 0 ≤ n by omega) k)
 have HALL := hid (show shTo (f.map clampZ) n 8 = shapeL f n from shTo_all _ _)
 have HCS := hid (fun b (hb : b < 8) => clamp_cs f hl hb)
 have cc := fun W => clamp_calls f W hl
 have ct := fun W => steps_calls (f.map clampZ) W hls (fun z hz => by
  obtain ⟨y, _, rfl⟩ := List.mem_map.1 hz
  have := clamp_in y
  omega)
 have cp := fun W => gpulses_calls (stepsL (f.map clampZ)) n W (stepsL_len _) (stepsL_in _) (by omega) (by omega)
 have co := fun b (hb : b < 8) W => of_calls (f.map clampZ) b W hls hb
 let w1 := (w.alloc (.cells (ints f) 94)).alloc (.cells #[Value.int .i64 0, .int .i64 0, .int .i64 0, .int .i64 0, .int .i64 0, .int .i64 0, .int .i64 0, .int .i64 0, .int .i64 0, .int .i64 0, .int .i64 0, .int .i64 0, .int .i64 0, .int .i64 0, .int .i64 0, .int .i64 0, .int .i64 0, .int .i64 0, .int .i64 0, .int .i64 0, .int .i64 0, .int .i64 0, .int .i64 0, .int .i64 0, .int .i64 0, .int .i64 0, .int .i64 0, .int .i64 0, .int .i64 0, .int .i64 0, .int .i64 0, .int .i64 0, .int .i64 0, .int .i64 0, .int .i64 0, .int .i64 0, .int .i64 0, .int .i64 0, .int .i64 0, .int .i64 0] 47)
 have hw1 : w1.heap.size = w.heap.size + 1 + 1 := by simp [w1]
 have b1 : Below w.heap.size w w1 := ((Below.refl w.heap.size w).alloc (Nat.le_refl _) _).alloc (by simp) _
 have s1 : Blk w1 w.heap.size 94 (ints f) := blk_alloc (blk_new w 94 (ints f)) _
 have r1 : Blk w1 (w.heap.size + 1) 47 #[Value.int .i64 0, .int .i64 0, .int .i64 0, .int .i64 0, .int .i64 0, .int .i64 0, .int .i64 0, .int .i64 0, .int .i64 0, .int .i64 0, .int .i64 0, .int .i64 0, .int .i64 0, .int .i64 0, .int .i64 0, .int .i64 0, .int .i64 0, .int .i64 0, .int .i64 0, .int .i64 0, .int .i64 0, .int .i64 0, .int .i64 0, .int .i64 0, .int .i64 0, .int .i64 0, .int .i64 0, .int .i64 0, .int .i64 0, .int .i64 0, .int .i64 0, .int .i64 0, .int .i64 0, .int .i64 0, .int .i64 0, .int .i64 0, .int .i64 0, .int .i64 0, .int .i64 0, .int .i64 0] := by
  have := blk_new (w.alloc (.cells (ints f) 94)) 47 #[Value.int .i64 0, .int .i64 0, .int .i64 0, .int .i64 0, .int .i64 0, .int .i64 0, .int .i64 0, .int .i64 0, .int .i64 0, .int .i64 0, .int .i64 0, .int .i64 0, .int .i64 0, .int .i64 0, .int .i64 0, .int .i64 0, .int .i64 0, .int .i64 0, .int .i64 0, .int .i64 0, .int .i64 0, .int .i64 0, .int .i64 0, .int .i64 0, .int .i64 0, .int .i64 0, .int .i64 0, .int .i64 0, .int .i64 0, .int .i64 0, .int .i64 0, .int .i64 0, .int .i64 0, .int .i64 0, .int .i64 0, .int .i64 0, .int .i64 0, .int .i64 0, .int .i64 0, .int .i64 0]
  rw [World.size_alloc] at this
  exact this
 have S1 := hid s1
 have R1 := hid r1
 have B1 := hid b1
 have HW := hid hw1
 have hnz : (n == 0) = false := by simp; omega
 have cc1 := cc w1
 clear s1 r1 b1 hw1 hl h0 h1 hn hls cc
 go_enter Tryz.func45, Tryz.ntmps45
 go_wp2_with fail
 refine (cg _).mono ?_
 rintro e w0 ⟨rfl, rfl⟩
 go_wp2_with (first | (refine wpList_load_blk (by rfl) 94 _ rfl w.heap.size rfl 94 (ints f) _ S1.out Tryz.underlying94 rfl HFZ.out ?_))
 refine cc1.mono ?_
 rintro e w2 ⟨rfl, B2⟩
 have S2 := hid (blk_below S1.out B2 (by rw [HW.out]; omega))
 have R2 := hid (blk_below R1.out B2 (by rw [HW.out]; omega))
 have b2 := bnext B1.out B2
 have B2' := hid b2
 have hz2 := hid (show w.heap.size + 1 + 1 ≤ w2.heap.size by have := B2.size; rw [HW.out] at this; exact this)
 clear cc1 B2 S1 R1 B1 b2 HW w1
 generalize hff : f.map clampZ = f' at *
 have HFF := hid hff
 clear hff
 go_wp2_with (first | (refine wpList_store_blk rfl 94 _ _ rfl w.heap.size 94 _ (ints f') rfl rfl S2.out HFS.out HFZ2.out HFO.out ?_; intro w3 n0 n1; have S3 := hid n0; have R3 := hid (blk_grown R2.out n1 (fun e => by injection e with e; omega)); have B3 := hid (below_grown B2'.out n1 (by have := hz2.out; omega) (Nat.le_refl _)); have hz3 := hid (Nat.le_trans hz2.out n1.size); clear n0 n1 S2 R2 B2' hz2) | (refine wpList_load_blk (by rfl) 94 _ rfl w.heap.size rfl 94 (ints f') _ S3.out Tryz.underlying94 rfl HFZ2.out ?_))
 have ct3 := ct w3
 obtain ⟨a0, a1, a2, a3, a4, a5, a6, a7, hsd⟩ := list8 (stepsL_len f')
 rw [show (Ending.returned (.agg (ints (stepsL f')))) = Ending.returned (.agg #[.int .i64 a0, .int .i64 a1, .int .i64 a2, .int .i64 a3, .int .i64 a4, .int .i64 a5, .int .i64 a6, .int .i64 a7]) by rw [hsd]; rfl] at ct3
 have HS0 : Hid (shTo f' n 0 = ⟨[a0, a1, a2, a3, a4, a5, a6, a7], zerosY⟩) := hid (by rw [shTo_zero, hsd])
 have HSL : Hid (stepsL f' = [a0, a1, a2, a3, a4, a5, a6, a7]) := hid hsd
 clear ct hsd
 refine ct3.mono ?_
 rintro e w4 ⟨rfl, B4⟩
 clear ct3
 have hz34 := B4.size
 have hz3' := hz3.out
 have S4 := hid (blk_below S3.out B4 (by omega))
 have R4 := hid (blk_below R3.out B4 (by omega))
 have B4' := hid (bnext B3.out B4)
 have hz4 := hid (show w.heap.size + 1 + 1 ≤ w4.heap.size by omega)
 clear S3 R3 B3 B4 hz34 hz3 hz3'
 have HZ40 := hid (show (shV (shTo f' n 0)).size = (#[Value.int .i64 0, .int .i64 0, .int .i64 0, .int .i64 0, .int .i64 0, .int .i64 0, .int .i64 0, .int .i64 0, .int .i64 0, .int .i64 0, .int .i64 0, .int .i64 0, .int .i64 0, .int .i64 0, .int .i64 0, .int .i64 0, .int .i64 0, .int .i64 0, .int .i64 0, .int .i64 0, .int .i64 0, .int .i64 0, .int .i64 0, .int .i64 0, .int .i64 0, .int .i64 0, .int .i64 0, .int .i64 0, .int .i64 0, .int .i64 0, .int .i64 0, .int .i64 0, .int .i64 0, .int .i64 0, .int .i64 0, .int .i64 0, .int .i64 0, .int .i64 0, .int .i64 0, .int .i64 0] : Array Value).size by rw [ints_size, shp_len (HOK.out 0)]; rfl)
 have HSZ := hid (fun k => shp_size (HOK.out k))
 have HSO := hid (fun k => ints_one (shTo f' n k).flat)
 have R5 := hid (blk_alloc R4.out (.cells #[Value.int .i64 0, .int .i64 0, .int .i64 0, .int .i64 0, .int .i64 0, .int .i64 0, .int .i64 0, .int .i64 0, .int .i64 0, .int .i64 0, .int .i64 0, .int .i64 0, .int .i64 0, .int .i64 0, .int .i64 0, .int .i64 0, .int .i64 0, .int .i64 0, .int .i64 0, .int .i64 0, .int .i64 0, .int .i64 0, .int .i64 0, .int .i64 0, .int .i64 0, .int .i64 0, .int .i64 0, .int .i64 0, .int .i64 0, .int .i64 0, .int .i64 0, .int .i64 0, .int .i64 0, .int .i64 0, .int .i64 0, .int .i64 0, .int .i64 0, .int .i64 0, .int .i64 0, .int .i64 0] 47))
 have S5 := hid (blk_alloc S4.out (.cells #[Value.int .i64 0, .int .i64 0, .int .i64 0, .int .i64 0, .int .i64 0, .int .i64 0, .int .i64 0, .int .i64 0, .int .i64 0, .int .i64 0, .int .i64 0, .int .i64 0, .int .i64 0, .int .i64 0, .int .i64 0, .int .i64 0, .int .i64 0, .int .i64 0, .int .i64 0, .int .i64 0, .int .i64 0, .int .i64 0, .int .i64 0, .int .i64 0, .int .i64 0, .int .i64 0, .int .i64 0, .int .i64 0, .int .i64 0, .int .i64 0, .int .i64 0, .int .i64 0, .int .i64 0, .int .i64 0, .int .i64 0, .int .i64 0, .int .i64 0, .int .i64 0, .int .i64 0, .int .i64 0] 47))
 have B5 := hid (B4'.out.alloc (by have := hz4.out; omega) (.cells #[Value.int .i64 0, .int .i64 0, .int .i64 0, .int .i64 0, .int .i64 0, .int .i64 0, .int .i64 0, .int .i64 0, .int .i64 0, .int .i64 0, .int .i64 0, .int .i64 0, .int .i64 0, .int .i64 0, .int .i64 0, .int .i64 0, .int .i64 0, .int .i64 0, .int .i64 0, .int .i64 0, .int .i64 0, .int .i64 0, .int .i64 0, .int .i64 0, .int .i64 0, .int .i64 0, .int .i64 0, .int .i64 0, .int .i64 0, .int .i64 0, .int .i64 0, .int .i64 0, .int .i64 0, .int .i64 0, .int .i64 0, .int .i64 0, .int .i64 0, .int .i64 0, .int .i64 0, .int .i64 0] 47))
 clear R4 S4 B4'
 go_wp2_with (first | (refine wpList_val (.agg (shV (shTo f' n 0))) (by rfl) (by rw [HS0.out]; exact build_side a0 a1 a2 a3 a4 a5 a6 a7 _ rfl rfl _) ?_) | (refine wpList_store_blk rfl 47 _ _ rfl w4.heap.size 47 #[Value.int .i64 0, .int .i64 0, .int .i64 0, .int .i64 0, .int .i64 0, .int .i64 0, .int .i64 0, .int .i64 0, .int .i64 0, .int .i64 0, .int .i64 0, .int .i64 0, .int .i64 0, .int .i64 0, .int .i64 0, .int .i64 0, .int .i64 0, .int .i64 0, .int .i64 0, .int .i64 0, .int .i64 0, .int .i64 0, .int .i64 0, .int .i64 0, .int .i64 0, .int .i64 0, .int .i64 0, .int .i64 0, .int .i64 0, .int .i64 0, .int .i64 0, .int .i64 0, .int .i64 0, .int .i64 0, .int .i64 0, .int .i64 0, .int .i64 0, .int .i64 0, .int .i64 0, .int .i64 0] (shV (shTo f' n 0)) rfl rfl (blk_new w4 _ _) HZ40.out (HSZ.out 0) (HSO.out 0) ?_; intro w6 n0 n1; have A6 := hid n0; have S6 := hid (blk_grown S5.out n1 (fun e => by injection e with e; have := hz4.out; omega)); have R6 := hid (blk_grown R5.out n1 (fun e => by injection e with e; have := hz4.out; omega)); have B6 := hid (below_grown B5.out n1 (by have := hz4.out; simp; omega) (by have := hz4.out; omega)); clear n0 n1 S5 R5 B5) | (refine wpList_load_mid rfl 42 _ rfl w4.heap.size 0 rfl _ _ (shp_sides A6.out (HOK.out 0)) Tryz.underlying42 rfl (side_size (HOK.out 0).sl) ?_))
 have hk := (gpL_keeps (stepsL f') (show 0 ≤ n by omega)).1
 have HK := hid hk
 have HKZ := hid (show (Tryz.prog.info? 41).map (·.size) = some (ints (gpL (stepsL f') n)).size by rw [ints_size, hk.len]; kernel_rfl)
 have HKS := hid (show (ints (gpL (stepsL f') n)).size = (#[Value.int .i64 0, .int .i64 0, .int .i64 0, .int .i64 0, .int .i64 0, .int .i64 0, .int .i64 0, .int .i64 0] : Array Value).size by rw [ints_size, hk.len]; rfl)
 have HKO := hid (ints_one (gpL (stepsL f') n))
 have HYO := hid (fun b => show yOf f' n b = findP (bandL f' b) (stepL (bandL f' b)) ((gpL (stepsL f') n).getD b 0).toNat from rfl)
 clear hk
 generalize hkl : gpL (stepsL f') n = kl at *
 clear hkl
 refine (cp w6).mono ?_
 rintro e w7 ⟨rfl, B7⟩
 have ha := blk_lt A6.out
 have hs := blk_lt R6.out
 have S7 := hid (blk_alloc (blk_below S6.out B7 (by omega)) (.cells #[Value.int .i64 0, .int .i64 0, .int .i64 0, .int .i64 0, .int .i64 0, .int .i64 0, .int .i64 0, .int .i64 0] 41))
 have R7 := hid (blk_alloc (blk_below R6.out B7 (by omega)) (.cells #[Value.int .i64 0, .int .i64 0, .int .i64 0, .int .i64 0, .int .i64 0, .int .i64 0, .int .i64 0, .int .i64 0] 41))
 have A7 := hid (blk_alloc (blk_below A6.out B7 ha) (.cells #[Value.int .i64 0, .int .i64 0, .int .i64 0, .int .i64 0, .int .i64 0, .int .i64 0, .int .i64 0, .int .i64 0] 41))
 have hz7 := B7.size
 have HGA := hid (show w.heap.size + 1 < w4.heap.size by have := hz4.out; omega)
 have HGK := hid (show w4.heap.size < w7.heap.size by omega)
 have B7' := hid ((bnext B6.out B7).alloc (show w.heap.size ≤ w7.heap.size by omega) (.cells #[Value.int .i64 0, .int .i64 0, .int .i64 0, .int .i64 0, .int .i64 0, .int .i64 0, .int .i64 0, .int .i64 0] 41))
 clear S6 R6 A6 B6 B7 ha hs hz4 hz7 cp HSL HS0 HZ40
 go_wp2_with (first | (refine wpList_store_blk rfl 41 _ _ rfl w7.heap.size 41 #[Value.int .i64 0, .int .i64 0, .int .i64 0, .int .i64 0, .int .i64 0, .int .i64 0, .int .i64 0, .int .i64 0] (ints kl) rfl rfl (blk_new w7 _ _) HKS.out HKZ.out HKO.out ?_; intro w8 n0 n1; have K8 := hid n0; have S8 := hid (blk_grown S7.out n1 (fun e => by injection e with e; have := HGA.out; have := HGK.out; omega)); have R8 := hid (blk_grown R7.out n1 (fun e => by injection e with e; have := HGA.out; have := HGK.out; omega)); have A8 := hid (blk_grown A7.out n1 (fun e => by injection e with e; have := HGK.out; omega)); have B8 := hid (below_grown B7'.out n1 (by have := HGK.out; have := HGA.out; simp; omega) (by have := HGK.out; have := HGA.out; omega)); clear n0 n1 S7 R7 A7 B7'))
 generalize w4.heap.size = ga at *
 generalize w7.heap.size = gn at *
 go_loopg [28] 8 (fun gg s28 wr => ∃ b : Nat, b ≤ 8 ∧ 8 - b ≤ gg ∧ s28 = .int .i64 b ∧ Aside (Below w.heap.size w wr) ∧ Aside (Blk wr w.heap.size 94 (ints f')) ∧ Aside (Blk wr (w.heap.size + 1) 47 #[Value.int .i64 0, .int .i64 0, .int .i64 0, .int .i64 0, .int .i64 0, .int .i64 0, .int .i64 0, .int .i64 0, .int .i64 0, .int .i64 0, .int .i64 0, .int .i64 0, .int .i64 0, .int .i64 0, .int .i64 0, .int .i64 0, .int .i64 0, .int .i64 0, .int .i64 0, .int .i64 0, .int .i64 0, .int .i64 0, .int .i64 0, .int .i64 0, .int .i64 0, .int .i64 0, .int .i64 0, .int .i64 0, .int .i64 0, .int .i64 0, .int .i64 0, .int .i64 0, .int .i64 0, .int .i64 0, .int .i64 0, .int .i64 0, .int .i64 0, .int .i64 0, .int .i64 0, .int .i64 0]) ∧ Aside (Blk wr ga 47 (shV (shTo f' n b))) ∧ Aside (Blk wr gn 41 (ints kl)))
 case atStart => exact ⟨0, Nat.zero_le _, by omega, rfl, B8.out, S8.out, R8.out, A8.out, K8.out⟩
 case round =>
  clear B8 S8 R8 A8 K8
  obtain ⟨b, hb, hgk, rfl, B, S, R, A, KK⟩ := hrel
  by_cases hlt : b < 8
  · have hbz : (b : Int) < 8 := by omega
    have hb0 : (0 : Int) ≤ b := by omega
    have ca := shp_cell A.out (HOK.out b) hlt
    rw [show (shTo f' n b).sd = stepsL f' from rfl, stepsL_get f' hlt] at ca
    have ck := blk_int KK.out (i := b) (by rw [HK.out.len]; exact hlt)
    have hkb := getD_all HK.out.all (i := b) (by rw [HK.out.len]; exact hlt) 0
    obtain ⟨m, hm⟩ : ∃ m : Nat, kl.getD b 0 = m := ⟨(kl.getD b 0).toNat, by omega⟩
    have hyo := HYO.out b
    rw [hm, Int.toNat_natCast] at hyo
    rw [hm] at ck hkb
    have co1 := fun W => co b hlt W
    have cf := fun W => find_calls (bandL f' b) (stepL (bandL f' b)) m W (HCS.out b hlt) (stepL_in _) (by omega)
    rw [← hyo] at cf
    have hyl : (yOf f' n b).length = 4 := by
     rw [hyo]; exact (findP_ok (HCS.out b hlt) (stepL_in _) (k := m) (by omega)).len
    have HYL := hid hyl
    have HSU := hid (shTo_succ f' n (k := b))
    have HKB := hid (show b < kl.length by rw [HK.out.len]; exact hlt)
    have HM := hid hm
    have HST := hid (stepsL_get f' hlt)
    clear hm hkb hyo hyl
    generalize stepL (bandL f' b) = sb at *
    generalize yOf f' n b = yb at *
    go_wp2_with fail
    refine plain_region (S := (fun L W => (L.getD 3 true = true ∨ Blk W w.heap.size 94 (ints f')) ∧ (L.getD 11 true = true ∨ W.cell? ⟨ga, b, none⟩ = some (.int .i64 (sb : Int))) ∧ (L.getD 11 true = true ∨ W.cell? ⟨gn, b, none⟩ = some (.int .i64 (m : Int))))) (by kernel_rfl) (⟨Or.inr S.out, Or.inr ca, Or.inr ck⟩) (fun hHeld => ?_)
    clear hHeld
    refine aW 0 ⟨Or.inr S.out, Or.inr ca, Or.inr ck⟩ ?_
    refine aB 1 3 rfl (fun _ _ h k => rL k.1 h) (yields_blk (by rfl) 94 _ rfl w.heap.size rfl 94 (ints f') _ (fun _ h => h) Tryz.underlying94 rfl HFZ2.out) ⟨Or.inr S.out, Or.inr ca, Or.inr ck⟩ ?_
    refine aW 2 ⟨Or.inr S.out, Or.inr ca, Or.inr ck⟩ ?_
    refine aW 4 ⟨Or.inr S.out, Or.inr ca, Or.inr ck⟩ ?_
    refine aW 5 ⟨Or.inr S.out, Or.inr ca, Or.inr ck⟩ ?_
    refine aW 6 ⟨Or.inr S.out, Or.inr ca, Or.inr ck⟩ ?_
    refine aL 7 11 (fun _ _ h k => rL k.2.1 h) ⟨Or.inr S.out, Or.inr ca, Or.inr ck⟩ ?_
    refine aW 8 ⟨Or.inr S.out, Or.inr ca, Or.inr ck⟩ ?_
    refine aW 9 ⟨Or.inr S.out, Or.inr ca, Or.inr ck⟩ ?_
    refine aL 10 11 (fun _ _ h k => rL k.2.2 h) ⟨Or.inr S.out, Or.inr ca, Or.inr ck⟩ ?_
    refine aW 15 ⟨Or.inr S.out, Or.inr ca, Or.inr ck⟩ ?_
    refine aR 3 (fun K hK => ?_)
    go_simp
    refine (co1 _).mono ?_
    rintro e w9 ⟨rfl, B9⟩
    have A9 := hid (blk_below (blk_drew A.out) B9 (blk_lt A.out))
    have K9 := hid (blk_below (blk_drew KK.out) B9 (blk_lt KK.out))
    have S9 := hid (blk_below (blk_drew S.out) B9 (blk_lt S.out))
    have R9 := hid (blk_below (blk_drew R.out) B9 (blk_lt R.out))
    have BB9 := hid (bnext (below_draws B.out 1) B9)
    clear B9
    have ca : w9.cell? ⟨ga, b, none⟩ = some (.int .i64 (sb : Int)) := by rw [shp_cell A9.out (HOK.out b) hlt]; rw [show (shTo f' n b).sd = stepsL f' from rfl, HST.out]
    have ck : w9.cell? ⟨gn, b, none⟩ = some (.int .i64 (m : Int)) := by rw [blk_int K9.out (i := b) HKB.out, HM.out]
    refine hK.out _ _ (⟨Or.inl (by rfl), Or.inr ca, Or.inr ck⟩) (fun hHeld => ?_)
    clear hK K
    try simp only [Act.put, tA, tB, tC]
    clear hHeld
    refine aR 11 (fun K hK => ?_)
    go_simp
    refine (cf _).mono ?_
    rintro e w10 ⟨rfl, B10⟩
    have A10 := hid (blk_below A9.out B10 (blk_lt A9.out))
    have K10 := hid (blk_below K9.out B10 (blk_lt K9.out))
    have S10 := hid (blk_below S9.out B10 (blk_lt S9.out))
    have R10 := hid (blk_below R9.out B10 (blk_lt R9.out))
    have BB10 := hid (bnext BB9.out B10)
    clear B10
    refine hK.out _ _ (⟨Or.inl (by rfl), Or.inl (by rfl), Or.inl (by rfl)⟩) (fun hHeld => ?_)
    clear hK K
    try simp only [Act.put, tA, tB, tC]
    clear hHeld
    refine aW 12 ⟨Or.inl (by rfl), Or.inl (by rfl), Or.inl (by rfl)⟩ ?_
    refine aW 13 ⟨Or.inl (by rfl), Or.inl (by rfl), Or.inl (by rfl)⟩ ?_
    refine aW 14 ⟨Or.inl (by rfl), Or.inl (by rfl), Or.inl (by rfl)⟩ ?_
    refine aW 16 ⟨Or.inl (by rfl), Or.inl (by rfl), Or.inl (by rfl)⟩ ?_
    refine aR 17 (fun K hK => ?_)
    refine stepU_store (by rfl) 44 _ _ rfl ga (8 + b * 4) (yb.map (Value.int .i64)) rfl rfl (by rw [List.length_map, HYL.out]; exact shp_there A10.out (HOK.out b) hlt) (pul_size HYL.out) (ints_one1 _) ?_
    refine hK.out _ _ (⟨Or.inl (by rfl), Or.inl (by rfl), Or.inl (by rfl)⟩) (fun hHeld => ?_)
    clear hK K
    try simp only [Act.put]
    clear hHeld
    refine anyU_done (by kernel_rfl) ?_ _
    obtain ⟨a11, g11⟩ := shp_store A10.out (HOK.out b) hlt HYL.out
    rw [HSU.out] at a11
    have A11 := hid a11
    have S11 := hid (blk_grown S10.out g11 (fun e => by injection e with e; have := HGA.out; omega))
    have R11 := hid (blk_grown R10.out g11 (fun e => by injection e with e; have := HGA.out; omega))
    have K11 := hid (blk_grown K10.out g11 (fun e => by injection e with e; have := HGK.out; omega))
    have B11 := hid (below_grown BB10.out g11 BB10.out.size (by have := HGA.out; omega))
    clear a11 g11 S9 R9 A9 K9 BB9 S10 R10 A10 K10 BB10 ca ck S R A KK B cf co1
    generalize w10.setCells ga (8 + b * 4) (yb.map (Value.int .i64)) = w11 at *
    go_wp2_with fail
    go_roundg (8 - (b + 1))
    case measure => omega
    case rel => exact ⟨b + 1, by omega, by omega, by go_num, B11.out, S11.out, R11.out, A11.out, K11.out⟩
  · obtain rfl : b = 8 := by omega
    have HA8 := HALL.out
    have a8 := A.out
    rw [HA8] at a8
    have A8 := hid a8
    have hz8 := HSZ.out 8
    have ho8 := HSO.out 8
    have hk8 := HOK.out 8
    rw [HA8] at hz8 ho8 hk8
    have HZ8 := hid hz8
    have HO8 := hid ho8
    have HS8 := hid (show (shV (shapeL f n)).size = (#[Value.int .i64 0, .int .i64 0, .int .i64 0, .int .i64 0, .int .i64 0, .int .i64 0, .int .i64 0, .int .i64 0, .int .i64 0, .int .i64 0, .int .i64 0, .int .i64 0, .int .i64 0, .int .i64 0, .int .i64 0, .int .i64 0, .int .i64 0, .int .i64 0, .int .i64 0, .int .i64 0, .int .i64 0, .int .i64 0, .int .i64 0, .int .i64 0, .int .i64 0, .int .i64 0, .int .i64 0, .int .i64 0, .int .i64 0, .int .i64 0, .int .i64 0, .int .i64 0, .int .i64 0, .int .i64 0, .int .i64 0, .int .i64 0, .int .i64 0, .int .i64 0, .int .i64 0, .int .i64 0] : Array Value).size by rw [ints_size, shp_len hk8]; rfl)
    clear HA8 a8 hz8 ho8 hk8 A
    generalize hsh : shapeL f n = sh at *
    have HSH := hid hsh
    clear hsh
    go_wp2_with (first | (refine wpList_load_blk (by rfl) 47 _ rfl ga rfl 47 (shV sh) _ A8.out Tryz.underlying47 rfl HZ8.out ?_) | (refine wpList_store_blk rfl 47 _ _ rfl (w.heap.size + 1) 47 #[Value.int .i64 0, .int .i64 0, .int .i64 0, .int .i64 0, .int .i64 0, .int .i64 0, .int .i64 0, .int .i64 0, .int .i64 0, .int .i64 0, .int .i64 0, .int .i64 0, .int .i64 0, .int .i64 0, .int .i64 0, .int .i64 0, .int .i64 0, .int .i64 0, .int .i64 0, .int .i64 0, .int .i64 0, .int .i64 0, .int .i64 0, .int .i64 0, .int .i64 0, .int .i64 0, .int .i64 0, .int .i64 0, .int .i64 0, .int .i64 0, .int .i64 0, .int .i64 0, .int .i64 0, .int .i64 0, .int .i64 0, .int .i64 0, .int .i64 0, .int .i64 0, .int .i64 0, .int .i64 0] (shV sh) rfl rfl R.out HS8.out HZ8.out HO8.out ?_; intro w8 n0 n1))
    have B9 := hid (below_grown B.out n1 (by have := B.out.size; omega) (Nat.le_succ _))
    exact bodyPost_ret (results_row_slot rfl _ _ (w.heap.size + 1) 47 (shV sh) (0, 0) _ _ rfl rfl n0 Tryz.underlying47 rfl HZ8.out) rfl ⟨by rw [HSH.out]; rfl, B9.out⟩
end Go.Proofs.YtiigipnfnfpepaaGreatDoor
namespace Go.Proofs.YtiigipnfnfpepaaGreatDoor
open Go.RowKit

theorem run_index_row {P : Program} {t e : TypeId} {n sz : Nat} {d : TypeDesc} (ht : P.underlying t = some (.array n e)) (hu : P.underlying e = some d) (hd : d.isRow = true) (hi : (P.info? e).map (·.size) = some sz) (cs : Array Value) (i : Nat) (hlt : i < n) (w : World) :
 (Instr.index t (.agg cs) (.int .i64 i)).run P w = .ok (.agg (cs.extract (i * sz) (i * sz + sz))) w := by
 have hlz1 : (0 : Int) ≤ (i : Int) := by omega
 have hlz2 : (i : Int) < (n : Int) := by omega
 cases hq : P.info? e with
 | none => simp [hq] at hi
 | some inf =>
  have hs : inf.size = sz := by simpa [hq] using hi
  cases d <;> simp_all [Instr.index, asIntOf, run_underlying ht, sizeOf, typeInfo, part, isAgg, run_underlying hu, TypeDesc.isRow]
theorem flat_ext {L : List (List Int)} (h : ∀ x ∈ L, x.length = 4) {i : Nat} (hi : i < L.length) : (ints L.flatten).extract (i * 4) (i * 4 + 4) = ints (L.getD i []) := by
 have hl := getD_all h hi []
 apply Array.ext_getElem?
 intro j
 have hfl := row_len h
 by_cases hj : j < 4
 · rw [Array.getElem?_extract, if_pos (by rw [ints_size, hfl]; omega), ints_get, row_at h i j hi hj, ints_get, List.getD_eq_getElem?_getD (l := L.getD i []), List.getElem?_eq_getElem (by omega)]
   rfl
 · rw [Array.getElem?_eq_none (by rw [Array.size_extract, ints_size, hfl]; omega), Array.getElem?_eq_none (by rw [ints_size, hl]; omega)]
theorem shp_ys {w : World} {g : Nat} {t : TypeId} {s : Shp} (hb : Blk w g t (shV s)) (h : SOk s) : w.rangeAt g 8 (ints s.ys.flatten).toList := fun j v hj => by
 have hl : j < (ints s.ys.flatten).toList.length := (List.getElem?_eq_some_iff.1 hj).1
 rw [Array.length_toList, ints_size] at hl
 rw [Array.getElem?_toList, ints_get] at hj
 rw [blk_cell hb, ints_get, ← hj, Shp.flat, List.getElem?_append_right (by rw [h.sl]; omega), h.sl, Nat.add_sub_cancel_left]
theorem ys_size {s : Shp} (h : SOk s) : (Tryz.prog.info? 45).map (·.size) = some (ints s.ys.flatten).toList.length := by rw [Array.length_toList, ints_size, row_len h.y4, h.yl]; kernel_rfl
structure PIn (y : List Int) : Prop where
 len : y.length = 4
 all : ∀ z ∈ y, -12 ≤ z ∧ z ≤ 12
theorem pin_get {y : List Int} (h : PIn y) {i : Nat} (hi : i < 4) : -12 ≤ y.getD i 0 ∧ y.getD i 0 ≤ 12 := getD_all h.all (by rw [h.len]; exact hi) 0
structure SIn (s : Shp) : Prop where
 ok : SOk s
 pin : ∀ y ∈ s.ys, PIn y
theorem sin_get {s : Shp} (h : SIn s) {b : Nat} (hb : b < 8) : PIn (s.ys.getD b []) := getD_all h.pin (by rw [h.ok.yl]; exact hb) []
theorem sin_put {s : Shp} (h : SIn s) (b : Nat) {y : List Int} (hy : PIn y) : SIn (s.put b y) := ⟨sok_put h.ok b hy.len, set_all h.pin b hy⟩

set_option maxRecDepth 20000 in
set_option maxHeartbeats 2000000 in
theorem mHeld_calls (s : Shp) (w : World) (h : SIn s) : Calls Tryz.prog 35 #[.agg (shV s)] w fun e w' => e = .returned (.bool true) ∧ Below w.heap.size w w' := by
 have HP := hid (fun (i : Nat) (hi : i < 8) (j : Nat) (hj : j < 4) => pin_get (sin_get h hi) hj)
 have HL4 := hid (fun (i : Nat) (hi : i < 8) => (sin_get h hi).len)
 have HY := hid (ys_size h.ok)
 have A0 := hid (shp_ys (blk_new w 47 (shV s)) h.ok)
 have B0 := hid ((Below.refl w.heap.size w).alloc (Nat.le_refl _) (.cells (shV s) 47))
 have HXR := hid (fun (i : Nat) (hi : i < 8) (W : World) => run_index_row (P := Tryz.prog) (t := 45) (e := 44) (sz := 4) Tryz.underlying45 Tryz.underlying44 rfl (by kernel_rfl) (ints s.ys.flatten) i hi W)
 have HFE := hid (fun (i : Nat) (hi : i < 8) => flat_ext h.ok.y4 (i := i) (by rw [h.ok.yl]; exact hi))
 have hif := info_parts (P := Tryz.prog) (e := 3) (z := .int .i64 0) (size := 1) (bytes := 8) (by kernel_rfl)
 obtain ⟨infI, hinI, hzI, hsI, hbI⟩ := hif
 have HX := hid (fun (y : List Int) (hy : y.length = 4) (i : Nat) (h : i < 4) (W : World) => run_index_any (P := Tryz.prog) (t := 44) (e := 3) Tryz.underlying44 (by kernel_rfl) hinI hsI (ints y) (.int .i64 (y.getD i 0)) i (by rw [ints_get, List.getD_eq_getElem?_getD, List.getElem?_eq_getElem (by rw [hy]; exact h)]; rfl) h W)
 clear hinI hzI hsI hbI h
 go_enter Tryz.func35, Tryz.ntmps35
 go_wp2_with (first | (refine wpList_load_mid rfl 45 _ rfl w.heap.size 8 rfl _ _ A0.out Tryz.underlying45 rfl HY.out ?_))
 go_loopg [9] 8 (fun gg s9 wr => ∃ b : Nat, b ≤ 8 ∧ 8 - b ≤ gg ∧ s9 = .int .i64 b ∧ Aside (Below w.heap.size w wr))
 case atStart => exact ⟨0, Nat.zero_le _, by omega, rfl, B0.out⟩
 case round =>
  clear A0 B0
  obtain ⟨b, hb, hgk, rfl, B⟩ := hrel
  by_cases hlt : b < 8
  · have hbz : (b : Int) < 8 := by omega
    have hb0 : (0 : Int) ≤ b := by omega
    have hx := fun W => HXR.out b hlt W
    rw [HFE.out b hlt] at hx
    have hp := HP.out b hlt
    have hl := HL4.out b hlt
    have B1 := hid (B.out.alloc B.out.size (.cells #[Value.int .i64 0, .int .i64 0, .int .i64 0, .int .i64 0] 44))
    generalize s.ys.getD b [] = y at *
    have HYZ := hid (show (Tryz.prog.info? 44).map (·.size) = some (ints y).size by rw [ints_size, hl]; kernel_rfl)
    have HYS := hid (show (ints y).size = (#[Value.int .i64 0, .int .i64 0, .int .i64 0, .int .i64 0] : Array Value).size by rw [ints_size, hl]; rfl)
    have HYO := hid (ints_one y)
    have HL := hid hl
    have HPP := hid hp
    clear hl hp
    go_wp2_with (first | (refine wpList_store_blk rfl 44 _ _ rfl wr.heap.size 44 #[Value.int .i64 0, .int .i64 0, .int .i64 0, .int .i64 0] (ints y) rfl rfl (blk_new wr _ _) HYS.out HYZ.out HYO.out ?_; intro w2 n0 n1; have B2 := hid (below_grown B1.out n1 (by have := B.out.size; simp; omega) B.out.size); clear n1 B1) | (refine wpList_load_blk (by rfl) 44 _ rfl wr.heap.size rfl 44 (ints y) _ n0 Tryz.underlying44 rfl HYZ.out ?_))
    clear hx n0
    go_loopg [13] 4 (fun gg s13 wq => ∃ i : Nat, i ≤ 4 ∧ 4 - i ≤ gg ∧ s13 = .int .i64 i ∧ Aside (wq = w2))
    case atStart => exact ⟨0, Nat.zero_le _, by omega, rfl, rfl⟩
    case round =>
     obtain ⟨i, hi, hgi, rfl, E⟩ := hrel
     obtain rfl := E.out.symm
     clear E
     by_cases hlt2 : i < 4
     · have hiz : (i : Int) < 4 := by omega
       have hi0 : (0 : Int) ≤ i := by omega
       have hx := fun W => HX.out y HL.out i hlt2 W
       have hp := HPP.out i hlt2
       generalize y.getD i 0 = x at *
       have hp1 : ¬ x < -12 := by omega
       have hp2 : ¬ 12 < x := by omega
       clear hp
       go_wp2_with fail
       go_roundg (4 - (i + 1))
       case measure => omega
       case rel => exact ⟨i + 1, by omega, by omega, by go_num, rfl⟩
     · obtain rfl : i = 4 := by omega
       go_wp2_with fail
       go_roundg (8 - (b + 1))
       case measure => omega
       case rel => exact ⟨b + 1, by omega, by omega, by go_num, B2.out⟩
  · obtain rfl : b = 8 := by omega
    go_wp2_with fail
    go_ret
    exact ⟨rfl, B.out⟩

def sumC (y c : List Int) : Nat → Int
 | 0 => 0
 | k + 1 => sumC y c k + c.getD k 0 * y.getD k 0
structure ChIn (c : List Int) : Prop where
 len : c.length = 4
 all : ∀ z ∈ c, -1 ≤ z ∧ z ≤ 1
theorem chin_get {c : List Int} (h : ChIn c) {i : Nat} (hi : i < 4) : -1 ≤ c.getD i 0 ∧ c.getD i 0 ≤ 1 := getD_all h.all (by rw [h.len]; exact hi) 0
theorem mulC_in {a b : Int} (ha : -1 ≤ a ∧ a ≤ 1) (hb : -12 ≤ b ∧ b ≤ 12) : -12 ≤ a * b ∧ a * b ≤ 12 := by
 rcases (show a = -1 ∨ a = 0 ∨ a = 1 by omega) with rfl | rfl | rfl <;> omega
theorem sumC_in {y c : List Int} (hy : PIn y) (hc : ChIn c) : ∀ k : Nat, k ≤ 4 → -12 * (k : Int) ≤ sumC y c k ∧ sumC y c k ≤ 12 * k
 | 0, _ => by simp [sumC]
 | k + 1, hk => by
  have h := sumC_in hy hc k (by omega)
  have := mulC_in (chin_get hc (i := k) (by omega)) (pin_get hy (i := k) (by omega))
  rw [sumC]
  omega

set_option maxRecDepth 20000 in
set_option maxHeartbeats 2000000 in
theorem mSum_calls (y c : List Int) (w : World) (hy : PIn y) (hc : ChIn c) : Calls Tryz.prog 40 #[.agg (ints y), .agg (ints c)] w fun e w' => e = .returned (.int .i64 (sumC y c 4)) ∧ Below w.heap.size w w' := by
 have y0 := blk_alloc (blk_new w 44 (ints y)) (.cells (ints c) 43)
 have c0 := blk_new (w.alloc (.cells (ints y) 44)) 43 (ints c)
 rw [World.size_alloc] at c0
 have Y0 := hid y0
 have C0 := hid c0
 have B0 := hid (((Below.refl w.heap.size w).alloc (Nat.le_refl _) (.cells (ints y) 44)).alloc (by simp) (.cells (ints c) 43))
 have HCZ := hid (show (Tryz.prog.info? 43).map (·.size) = some (ints c).size by rw [ints_size, hc.len]; kernel_rfl)
 have hif := info_parts (P := Tryz.prog) (e := 3) (z := .int .i64 0) (size := 1) (bytes := 8) (by kernel_rfl)
 obtain ⟨infI, hinI, hzI, hsI, hbI⟩ := hif
 have HX := hid (fun (i : Nat) (h : i < 4) (W : World) => run_index_any (P := Tryz.prog) (t := 43) (e := 3) Tryz.underlying43 (by kernel_rfl) hinI hsI (ints c) (.int .i64 (c.getD i 0)) i (by rw [ints_get, List.getD_eq_getElem?_getD, List.getElem?_eq_getElem (by rw [hc.len]; exact h)]; rfl) h W)
 have HYL := hid hy.len
 have HSI := hid (sumC_in hy hc)
 have HM := hid (fun i (hi : i < 4) => mulC_in (chin_get hc hi) (pin_get hy hi))
 clear hinI hzI hsI hbI y0 c0 hy hc
 go_enter Tryz.func40, Tryz.ntmps40
 go_wp2_with (first | (refine wpList_load_blk (by rfl) 43 _ rfl (w.heap.size + 1) rfl 43 (ints c) _ C0.out Tryz.underlying43 rfl HCZ.out ?_))
 go_loopg [5, 9] 4 (fun gg s5 s9 wr => ∃ i : Nat, i ≤ 4 ∧ 4 - i ≤ gg ∧ s9 = .int .i64 i ∧ s5 = .int .i64 (sumC y c i) ∧ Aside (Below w.heap.size w wr) ∧ Aside (Blk wr w.heap.size 44 (ints y)))
 case atStart => exact ⟨0, Nat.zero_le _, by omega, rfl, rfl, B0.out, Y0.out⟩
 case round =>
  clear B0 Y0 C0
  obtain ⟨i, hi, hgi, rfl, rfl, B, Y⟩ := hrel
  by_cases hlt : i < 4
  · have hiz : (i : Int) < 4 := by omega
    have hi0 : (0 : Int) ≤ i := by omega
    have hx := fun W => HX.out i hlt W
    have cy := blk_int Y.out (i := i) (by rw [HYL.out]; exact hlt)
    obtain ⟨hs0, hs1⟩ := HSI.out i hi
    obtain ⟨hm0, hm1⟩ := HM.out i hlt
    have hsu : sumC y c i + c.getD i 0 * y.getD i 0 = sumC y c (i + 1) := rfl
    obtain ⟨p, hp⟩ : ∃ p, p = c.getD i 0 * y.getD i 0 := ⟨_, rfl⟩
    rw [← hp] at hm0 hm1 hsu
    have w1 : IntKind.i64.wrap (c.getD i 0 * y.getD i 0) = p := by rw [← hp]; exact IntWalk.i64_in _ (by omega)
    have w2 : IntKind.i64.wrap (sumC y c i + p) = sumC y c (i + 1) := by rw [← hsu]; exact IntWalk.i64_in _ (by omega)
    clear hp hsu
    generalize sumC y c i = s0 at *
    generalize c.getD i 0 = ci at *
    generalize y.getD i 0 = yi at *
    go_wp2_with fail
    go_roundg (4 - (i + 1))
    case measure => omega
    case rel => exact ⟨i + 1, by omega, by omega, by go_num, rfl, B.out, Y.out⟩
  · obtain rfl : i = 4 := by omega
    go_wp2_with fail
    go_ret
    exact ⟨rfl, B.out⟩
end Go.Proofs.YtiigipnfnfpepaaGreatDoor
