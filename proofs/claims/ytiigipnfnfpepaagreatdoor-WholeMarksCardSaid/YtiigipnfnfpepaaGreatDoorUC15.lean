/- Tags (layer 20): pulses with one more. Tags (layer 20): vectors of which one pulse went to another place. Tags (layer 20): the nearest good vector. Tags (layer 20): the tags of the packet ahead. -/
import Derived.Test.YtiigipnfnfpepaaGreatDoorUC14
import Derived.Test.YtiigipnfnfpepaaGreatDoorUC4
import Derived.Test.YtiigipnfnfpepaaGreatDoorUA
namespace Go.Proofs.YtiigipnfnfpepaaGreatDoor
open Go.RowKit

def gainL (y : List Int) (a : Nat) : List (List Int) :=
 if 0 < y.getD a 0 then [y.set a (y.getD a 0 + 1)] else if y.getD a 0 < 0 then [y.set a (y.getD a 0 - 1)] else [y.set a (y.getD a 0 + 1), y.set a (y.getD a 0 - 1)]
theorem gainL_in {y : List Int} (hl : y.length = 4) {a : Nat} (ha : a < 4) : ∀ z ∈ gainL y a, z.length = 4 ∧ sumA z = sumA y + 1 := by
 have hs : ∀ v : Int, (v.natAbs : Int) = ((y.getD a 0).natAbs : Int) + 1 → (y.set a v).length = 4 ∧ sumA (y.set a v) = sumA y + 1 := fun v hv => by
  have := sum_set (fun x : Int => (x.natAbs : Int)) y a v 0 (by omega)
  refine ⟨by rw [List.length_set]; exact hl, ?_⟩
  unfold sumA
  rw [this]
  omega
 intro z hz
 unfold gainL at hz
 split at hz
 · rw [List.mem_singleton.1 hz]; exact hs _ (by omega)
 · split at hz
   · rw [List.mem_singleton.1 hz]; exact hs _ (by omega)
   · rcases List.mem_cons.1 hz with rfl | hz
     · exact hs _ (by omega)
     · rw [List.mem_singleton.1 hz]; exact hs _ (by omega)
theorem srow_made1 {w : World} {B : Nat} {y : List Int} (hB : B ≤ w.heap.size) (hl : y.length = 4) : SRow (w.alloc (.cells (ints y) 44)) B 44 4 (.slice (some ⟨w.heap.size, 0, none⟩) 1 1) [y] :=
 ⟨fun x hx => by rw [List.mem_singleton.1 hx]; exact hl, .inr ⟨w.heap.size, 1, _, rfl, hB, blk_new w _ _, Nat.le_refl _, by unfold maxLen; omega, by rw [ints_size, hl], fun i j hi hj => by
  have hi0 : i = 0 := by simpa using hi
  subst hi0
  rw [Nat.zero_mul, Nat.zero_add, ints_get, List.getElem?_eq_getElem (by omega), List.getD_cons_zero, List.getD_eq_getElem?_getD, List.getElem?_eq_getElem (by omega)]
  rfl⟩⟩
theorem srow_made2 {w : World} {B : Nat} {y z : List Int} (hB : B ≤ w.heap.size) (hl : y.length = 4) (hz : z.length = 4) : SRow (w.alloc (.cells (ints (y ++ z)) 44)) B 44 4 (.slice (some ⟨w.heap.size, 0, none⟩) 2 2) [y, z] := by
 have hw : ∀ x ∈ [y, z], x.length = 4 := fun x hx => by
  rcases List.mem_cons.1 hx with rfl | hx
  · exact hl
  · rw [List.mem_singleton.1 hx]; exact hz
 refine ⟨hw, .inr ⟨w.heap.size, 2, _, rfl, hB, blk_new w _ _, Nat.le_refl _, by unfold maxLen; omega, by rw [ints_size, List.length_append, hl, hz], fun i j hi hj => ?_⟩⟩
 have := row_at hw i j hi hj
 rw [ints_get, show y ++ z = [y, z].flatten by simp, this]
 rfl

theorem wpList_build1 {ops : Array Oper} {rest : List Oper} {o : Oper} {a : Act} {w : World} {Q : Exit → Act → World → Prop} {y : List Int} (hgd : o.guard = none) (x : Operand) (ho : o.op = .buildSlice 158 1 #[(0, x)]) (hl : y.length = 4) (hx : a.eval x = .agg (ints y))
 (h : wpList Tryz.prog ops Q rest (a.put o.dst (.slice (some ⟨w.heap.size, 0, none⟩) 1 1)) (w.alloc (.cells (ints y) 44))) : wpList Tryz.prog ops Q (o :: rest) a w := by
 obtain ⟨a0, a1, a2, a3, rfl⟩ := list4 hl
 refine wpList_plain hgd fun K hK => ?_
 have h1 := hK _ _ h
 unfold Oper.wp execOp
 simp only [ho, hx, List.map_toArray, List.map_cons, List.map_nil]
 go_simp
 exact h1
theorem wpList_build2 {ops : Array Oper} {rest : List Oper} {o : Oper} {a : Act} {w : World} {Q : Exit → Act → World → Prop} {y z : List Int} (hgd : o.guard = none) (x x2 : Operand) (ho : o.op = .buildSlice 158 2 #[(0, x), (1, x2)]) (hl : y.length = 4) (hz : z.length = 4) (hx : a.eval x = .agg (ints y)) (hx2 : a.eval x2 = .agg (ints z))
 (h : wpList Tryz.prog ops Q rest (a.put o.dst (.slice (some ⟨w.heap.size, 0, none⟩) 2 2)) (w.alloc (.cells (ints (y ++ z)) 44))) : wpList Tryz.prog ops Q (o :: rest) a w := by
 obtain ⟨a0, a1, a2, a3, rfl⟩ := list4 hl
 obtain ⟨c0, c1, c2, c3, rfl⟩ := list4 hz
 rw [show ints [a0, a1, a2, a3] = #[.int .i64 a0, .int .i64 a1, .int .i64 a2, .int .i64 a3] from rfl] at hx
 rw [show ints [c0, c1, c2, c3] = #[.int .i64 c0, .int .i64 c1, .int .i64 c2, .int .i64 c3] from rfl] at hx2
 rw [show ints ([a0, a1, a2, a3] ++ [c0, c1, c2, c3]) = #[.int .i64 a0, .int .i64 a1, .int .i64 a2, .int .i64 a3, .int .i64 c0, .int .i64 c1, .int .i64 c2, .int .i64 c3] from rfl] at h
 refine wpList_plain hgd fun K hK => ?_
 have h1 := hK _ _ h
 unfold Oper.wp execOp
 simp only [ho, hx, hx2, List.map_toArray, List.map_cons, List.map_nil]
 go_simp
 exact h1

set_option maxRecDepth 20000 in
set_option maxHeartbeats 4000000 in
theorem gained_calls (y : List Int) (a : Nat) (w : World) (hl : y.length = 4) (hy : ∀ i, i < 4 → -12 ≤ y.getD i 0 ∧ y.getD i 0 ≤ 12) (ha : a < 4) :
 Calls Tryz.prog 136 #[.agg (ints y), .int .i64 a] w fun e w' => ∃ g n, e = .returned (.slice (some ⟨g, 0, none⟩) n n) ∧ Below w.heap.size w w' ∧ SRow w' w.heap.size 44 4 (.slice (some ⟨g, 0, none⟩) n n) (gainL y a) := by
 have y1 : Blk (w.alloc (.cells (ints y) 44)).drew w.heap.size 44 (ints y) := blk_drew (blk_new w _ _)
 have hw1 : (w.alloc (.cells (ints y) 44)).drew.heap.size = w.heap.size + 1 := by simp
 have a0 : Blk (((w.alloc (.cells (ints y) 44)).drew.alloc (.cells #[Value.int .i64 0, .int .i64 0, .int .i64 0, .int .i64 0] 44)).alloc (.cells #[Value.int .i64 0, .int .i64 0, .int .i64 0, .int .i64 0] 44)) (w.heap.size + 1) 44 #[Value.int .i64 0, .int .i64 0, .int .i64 0, .int .i64 0] := by
  have := blk_alloc (blk_new (w.alloc (.cells (ints y) 44)).drew 44 #[Value.int .i64 0, .int .i64 0, .int .i64 0, .int .i64 0]) (.cells #[Value.int .i64 0, .int .i64 0, .int .i64 0, .int .i64 0] 44)
  rw [hw1] at this
  exact this
 have b0 : Blk (((w.alloc (.cells (ints y) 44)).drew.alloc (.cells #[Value.int .i64 0, .int .i64 0, .int .i64 0, .int .i64 0] 44)).alloc (.cells #[Value.int .i64 0, .int .i64 0, .int .i64 0, .int .i64 0] 44)) (w.heap.size + 1 + 1) 44 #[Value.int .i64 0, .int .i64 0, .int .i64 0, .int .i64 0] := by
  have := blk_new ((w.alloc (.cells (ints y) 44)).drew.alloc (.cells #[Value.int .i64 0, .int .i64 0, .int .i64 0, .int .i64 0] 44)) 44 #[Value.int .i64 0, .int .i64 0, .int .i64 0, .int .i64 0]
  rw [World.size_alloc, hw1] at this
  exact this
 have y2 : Blk ((w.alloc (.cells (ints y) 44)).drew.alloc (.cells #[Value.int .i64 0, .int .i64 0, .int .i64 0, .int .i64 0] 44)) w.heap.size 44 (ints y) := blk_alloc y1 _
 have y3 : Blk (((w.alloc (.cells (ints y) 44)).drew.alloc (.cells #[Value.int .i64 0, .int .i64 0, .int .i64 0, .int .i64 0] 44)).alloc (.cells #[Value.int .i64 0, .int .i64 0, .int .i64 0, .int .i64 0] 44)) w.heap.size 44 (ints y) := blk_alloc y2 _
 have c3 : Below w.heap.size w (((w.alloc (.cells (ints y) 44)).drew.alloc (.cells #[Value.int .i64 0, .int .i64 0, .int .i64 0, .int .i64 0] 44)).alloc (.cells #[Value.int .i64 0, .int .i64 0, .int .i64 0, .int .i64 0] 44)) := ((below_draws ((Below.refl w.heap.size w).alloc (Nat.le_refl _) _) 1).alloc (by simp) _).alloc (by simp; omega) _
 have hya := hy a ha
 obtain ⟨hya0, hya1⟩ := hya
 have hyl : a < y.length := by omega
 have HYZ := hid (show (Tryz.prog.info? 44).map (·.size) = some (ints y).size by rw [ints_size, hl]; kernel_rfl)
 have HYP := hid (pul_size hl)
 have HS4 := hid (show (ints y).size = (#[Value.int .i64 0, .int .i64 0, .int .i64 0, .int .i64 0] : Array Value).size by rw [ints_size, hl]; rfl)
 have HL := hid hl
 have HGL := hid (show gainL y a = if 0 < y.getD a 0 then [y.set a (y.getD a 0 + 1)] else if y.getD a 0 < 0 then [y.set a (y.getD a 0 - 1)] else [y.set a (y.getD a 0 + 1), y.set a (y.getD a 0 - 1)] from rfl)
 have HYL := hid hyl
 have haz : (a : Int) < 4 := by omega
 have haz0 : (0 : Int) ≤ a := by omega
 have HW1 := hid hw1
 have A0 := hid a0
 have B0 := hid b0
 have Y3 := hid y3
 have C3 := hid c3
 clear hy a0 b0 c3 hl hyl hw1
 go_enter Tryz.func136, Tryz.ntmps136
 go_wp2_with fail
 refine plain_region (S := (fun L W => (L.getD 4 true = true ∨ Blk W w.heap.size 44 (ints y)) ∧ (L.getD 5 true = true ∨ Blk W w.heap.size 44 (ints y)))) (by kernel_rfl) (⟨Or.inr y1, Or.inr y1⟩) (fun hHeld => ?_)
 clear hHeld
 refine aB 0 4 rfl (fun _ _ h k => rL k.1 h) (yields_blk (by rfl) 44 _ rfl w.heap.size rfl 44 (ints y) _ (fun _ h => h) Tryz.underlying44 rfl HYZ.out) ⟨Or.inr y1, Or.inr y1⟩ ?_
 refine aB 1 5 rfl (fun _ _ h k => rL k.2 h) (yields_blk (by rfl) 44 _ rfl w.heap.size rfl 44 (ints y) _ (fun _ h => h) Tryz.underlying44 rfl HYZ.out) ⟨Or.inr y1, Or.inr y1⟩ ?_
 refine anyU_ready (rs := [2, 3]) (by kernel_rfl) (by simp) ?_
 refine readyU_cons (o := ⟨_,_,_,_,_,_⟩) rfl (fun K hK => ?_) (readyU_cons (o := ⟨_,_,_,_,_,_⟩) rfl (fun K hK => ?_) readyU_nil)
 · go_simp
   refine hK.out _ _ ⟨Or.inr y2, Or.inr y2⟩ (fun hHeld => ?_)
   clear hK K hHeld
   try simp only [Act.put, tA, tB, tC]
   refine aR 3 (fun K hK => ?_)
   go_simp
   refine hK.out _ _ ⟨Or.inr y3, Or.inr y3⟩ (fun hHeld => ?_)
   clear hK K hHeld
   try simp only [Act.put, tA, tB, tC]
   refine aR 4 (fun K hK => ?_)
   obtain ⟨a4, ga4⟩ := setCells_whole (new := ints y) A0.out HS4.out
   have b4 := blk_grown B0.out ga4 (fun e => by injection e with e; omega)
   have y4 := blk_grown Y3.out ga4 (fun e => by injection e with e; omega)
   have c4 := below_grown C3.out ga4 C3.out.size (by omega)
   refine stepU_store (by rfl) 44 _ _ rfl (w.heap.size + 1) 0 (y.map (Value.int .i64)) rfl rfl (by rw [List.length_map, HL.out]; exact blk_there A0.out) HYP.out (ints_one1 _) ?_
   refine hK.out _ _ ⟨Or.inl (by rfl), Or.inr y4⟩ (fun hHeld => ?_)
   clear hK K hHeld
   try simp only [Act.put]
   refine aR 5 (fun K hK => ?_)
   obtain ⟨b5, gb5⟩ := setCells_whole (new := ints y) b4 HS4.out
   have a5 := blk_grown a4 gb5 (fun e => by injection e with e; omega)
   have y5 := blk_grown y4 gb5 (fun e => by injection e with e; omega)
   have c5 := below_grown c4 gb5 c4.size (by omega)
   refine stepU_store (by rfl) 44 _ _ rfl (w.heap.size + 1 + 1) 0 (y.map (Value.int .i64)) rfl rfl (by rw [List.length_map, HL.out]; exact blk_there b4) HYP.out (ints_one1 _) ?_
   refine hK.out _ _ ⟨Or.inl (by rfl), Or.inl (by rfl)⟩ (fun hHeld => ?_)
   clear hK K hHeld
   try simp only [Act.put]
   refine anyU_done (by kernel_rfl) ?_ _
   have A5 : Hid (Blk (((((w.alloc (.cells (ints y) 44)).drew.alloc (.cells #[Value.int .i64 0, .int .i64 0, .int .i64 0, .int .i64 0] 44)).alloc (.cells #[Value.int .i64 0, .int .i64 0, .int .i64 0, .int .i64 0] 44)).setCells (w.heap.size + 1) 0 (y.map (Value.int .i64))).setCells (w.heap.size + 1 + 1) 0 (y.map (Value.int .i64))) (w.heap.size + 1) 44 (ints y)) := hid a5
   have B5 : Hid (Blk (((((w.alloc (.cells (ints y) 44)).drew.alloc (.cells #[Value.int .i64 0, .int .i64 0, .int .i64 0, .int .i64 0] 44)).alloc (.cells #[Value.int .i64 0, .int .i64 0, .int .i64 0, .int .i64 0] 44)).setCells (w.heap.size + 1) 0 (y.map (Value.int .i64))).setCells (w.heap.size + 1 + 1) 0 (y.map (Value.int .i64))) (w.heap.size + 1 + 1) 44 (ints y)) := hid b5
   have Y5 : Hid (Blk (((((w.alloc (.cells (ints y) 44)).drew.alloc (.cells #[Value.int .i64 0, .int .i64 0, .int .i64 0, .int .i64 0] 44)).alloc (.cells #[Value.int .i64 0, .int .i64 0, .int .i64 0, .int .i64 0] 44)).setCells (w.heap.size + 1) 0 (y.map (Value.int .i64))).setCells (w.heap.size + 1 + 1) 0 (y.map (Value.int .i64))) w.heap.size 44 (ints y)) := hid y5
   have C5 : Hid (Below w.heap.size w (((((w.alloc (.cells (ints y) 44)).drew.alloc (.cells #[Value.int .i64 0, .int .i64 0, .int .i64 0, .int .i64 0] 44)).alloc (.cells #[Value.int .i64 0, .int .i64 0, .int .i64 0, .int .i64 0] 44)).setCells (w.heap.size + 1) 0 (y.map (Value.int .i64))).setCells (w.heap.size + 1 + 1) 0 (y.map (Value.int .i64)))) := hid c5
   clear a4 ga4 b4 y4 c4 a5 b5 gb5 y5 c5 y1 y2 y3 A0 B0 Y3 C3 HW1
   change Exit.then _ _ Exit.normal _ (((((w.alloc (.cells (ints y) 44)).drew.alloc (.cells #[Value.int .i64 0, .int .i64 0, .int .i64 0, .int .i64 0] 44)).alloc (.cells #[Value.int .i64 0, .int .i64 0, .int .i64 0, .int .i64 0] 44)).setCells (w.heap.size + 1) 0 (y.map (Value.int .i64))).setCells (w.heap.size + 1 + 1) 0 (y.map (Value.int .i64)))
   generalize ((((w.alloc (.cells (ints y) 44)).drew.alloc (.cells #[Value.int .i64 0, .int .i64 0, .int .i64 0, .int .i64 0] 44)).alloc (.cells #[Value.int .i64 0, .int .i64 0, .int .i64 0, .int .i64 0] 44)).setCells (w.heap.size + 1) 0 (y.map (Value.int .i64))).setCells (w.heap.size + 1 + 1) 0 (y.map (Value.int .i64)) = w5 at *
   have hgab : (w.heap.size + 1) ≠ (w.heap.size + 1 + 1) := by omega
   have hga0 : w.heap.size ≠ (w.heap.size + 1) := by omega
   have hgb0 : w.heap.size ≠ (w.heap.size + 1 + 1) := by omega
   have hga1 : w.heap.size ≤ (w.heap.size + 1) := by omega
   have hgb1 : w.heap.size ≤ (w.heap.size + 1 + 1) := by omega
   generalize w.heap.size + 1 + 1 = g2 at *
   generalize w.heap.size + 1 = g1 at *
   obtain ⟨x, hx⟩ : ∃ x, y.getD a 0 = x := ⟨_, rfl⟩
   rw [hx] at HGL hya0 hya1
   have HX := hid hx
   clear hx
   have ca := blk_int A5.out (i := a) HYL.out
   have fa := blk_free A5.out a
   rw [HX.out] at ca
   have A6 := hid (blk_set_int A5.out a (x + 1))
   have b6 := blk_far (b := g1) (i := a) B5.out hgab.symm (.int .i64 (x + 1))
   have y6 := blk_far (b := g1) (i := a) Y5.out hga0 (.int .i64 (x + 1))
   have c6 := below_set (i := a) C5.out (b := g1) hga1 (.int .i64 (x + 1))
   have cb : (w5.setCell ⟨g1, a, none⟩ (.int .i64 (x + 1))).cell? ⟨g2, a, none⟩ = some (.int .i64 x) := by rw [blk_int b6 (i := a) HYL.out, HX.out]
   have fb := blk_free b6 a
   have A7 := hid (blk_far (b := g2) (i := a) A6.out hgab (.int .i64 (x - 1)))
   have B7 := hid (blk_set_int b6 a (x - 1))
   have y7 := blk_far (b := g2) (i := a) y6 hgb0 (.int .i64 (x - 1))
   have C7 := hid (below_set (i := a) c6 (b := g2) hgb1 (.int .i64 (x - 1)))
   have cy : ((w5.setCell ⟨g1, a, none⟩ (.int .i64 (x + 1))).setCell ⟨g2, a, none⟩ (.int .i64 (x - 1))).cell? ⟨w.heap.size, a, none⟩ = some (.int .i64 x) := by rw [blk_int y7 (i := a) HYL.out, HX.out]
   have HZ1 := hid (fun v => show (Tryz.prog.info? 44).map (·.size) = some (ints (y.set a v)).size by rw [ints_size, List.length_set, HL.out]; kernel_rfl)
   have HL1 := hid (fun v => show (y.set a v).length = 4 by rw [List.length_set]; exact HL.out)
   clear b6 y6 c6 y7 A6
   have hsz : ((w5.setCell ⟨g1, a, none⟩ (.int .i64 (x + 1))).setCell ⟨g2, a, none⟩ (.int .i64 (x - 1))).heap.size = w5.heap.size := by simp [World.setCell]
   have HSZ7 := hid hsz
   clear hsz
   by_cases h0 : 0 < x
   · have HG := hid (show gainL y a = [y.set a (x + 1)] by rw [HGL.out, if_pos h0])
     clear HGL
     go_wp2_with (first | (refine wpList_load_blk (by rfl) 44 _ rfl g1 rfl 44 (ints (y.set a (x + 1))) _ A7.out Tryz.underlying44 rfl (HZ1.out _) ?_) | (refine wpList_build1 rfl _ rfl (HL1.out (x + 1)) rfl ?_))
     go_ret
     exact ⟨_, _, rfl, C7.out.alloc C7.out.size _, by rw [HG.out]; have M := srow_made1 (y := y.set a (x + 1)) C7.out.size (HL1.out _); rw [HSZ7.out] at M; exact M⟩
   · by_cases h1 : x < 0
     · have HG := hid (show gainL y a = [y.set a (x - 1)] by rw [HGL.out, if_neg h0, if_pos h1])
       clear HGL
       go_wp2_with (first | (refine wpList_load_blk (by rfl) 44 _ rfl g2 rfl 44 (ints (y.set a (x - 1))) _ B7.out Tryz.underlying44 rfl (HZ1.out _) ?_) | (refine wpList_build1 rfl _ rfl (HL1.out (x - 1)) rfl ?_))
       go_ret
       exact ⟨_, _, rfl, C7.out.alloc C7.out.size _, by rw [HG.out]; have M := srow_made1 (y := y.set a (x - 1)) C7.out.size (HL1.out _); rw [HSZ7.out] at M; exact M⟩
     · have HG := hid (show gainL y a = [y.set a (x + 1), y.set a (x - 1)] by rw [HGL.out, if_neg h0, if_neg h1])
       clear HGL
       go_wp2_with (first | (refine wpList_load_blk (by rfl) 44 _ rfl g1 rfl 44 (ints (y.set a (x + 1))) _ A7.out Tryz.underlying44 rfl (HZ1.out _) ?_) | (refine wpList_load_blk (by rfl) 44 _ rfl g2 rfl 44 (ints (y.set a (x - 1))) _ B7.out Tryz.underlying44 rfl (HZ1.out _) ?_) | (refine wpList_build2 rfl _ _ rfl (HL1.out (x + 1)) (HL1.out (x - 1)) rfl rfl ?_))
       go_ret
       exact ⟨_, _, rfl, C7.out.alloc C7.out.size _, by rw [HG.out]; have M := srow_made2 (y := y.set a (x + 1)) (z := y.set a (x - 1)) C7.out.size (HL1.out _) (HL1.out _); rw [HSZ7.out] at M; exact M⟩
 · go_simp
   refine hK.out _ _ ⟨Or.inr y2, Or.inr y2⟩ (fun hHeld => ?_)
   clear hK K hHeld
   try simp only [Act.put, tA, tB, tC]
   refine aR 2 (fun K hK => ?_)
   go_simp
   refine hK.out _ _ ⟨Or.inr y3, Or.inr y3⟩ (fun hHeld => ?_)
   clear hK K hHeld
   try simp only [Act.put, tA, tB, tC]
   refine aR 4 (fun K hK => ?_)
   obtain ⟨a4, ga4⟩ := setCells_whole (new := ints y) B0.out HS4.out
   have b4 := blk_grown A0.out ga4 (fun e => by injection e with e; omega)
   have y4 := blk_grown Y3.out ga4 (fun e => by injection e with e; omega)
   have c4 := below_grown C3.out ga4 C3.out.size (by omega)
   refine stepU_store (by rfl) 44 _ _ rfl (w.heap.size + 1 + 1) 0 (y.map (Value.int .i64)) rfl rfl (by rw [List.length_map, HL.out]; exact blk_there B0.out) HYP.out (ints_one1 _) ?_
   refine hK.out _ _ ⟨Or.inl (by rfl), Or.inr y4⟩ (fun hHeld => ?_)
   clear hK K hHeld
   try simp only [Act.put]
   refine aR 5 (fun K hK => ?_)
   obtain ⟨b5, gb5⟩ := setCells_whole (new := ints y) b4 HS4.out
   have a5 := blk_grown a4 gb5 (fun e => by injection e with e; omega)
   have y5 := blk_grown y4 gb5 (fun e => by injection e with e; omega)
   have c5 := below_grown c4 gb5 c4.size (by omega)
   refine stepU_store (by rfl) 44 _ _ rfl (w.heap.size + 1) 0 (y.map (Value.int .i64)) rfl rfl (by rw [List.length_map, HL.out]; exact blk_there b4) HYP.out (ints_one1 _) ?_
   refine hK.out _ _ ⟨Or.inl (by rfl), Or.inl (by rfl)⟩ (fun hHeld => ?_)
   clear hK K hHeld
   try simp only [Act.put]
   refine anyU_done (by kernel_rfl) ?_ _
   have A5 : Hid (Blk (((((w.alloc (.cells (ints y) 44)).drew.alloc (.cells #[Value.int .i64 0, .int .i64 0, .int .i64 0, .int .i64 0] 44)).alloc (.cells #[Value.int .i64 0, .int .i64 0, .int .i64 0, .int .i64 0] 44)).setCells (w.heap.size + 1 + 1) 0 (y.map (Value.int .i64))).setCells (w.heap.size + 1) 0 (y.map (Value.int .i64))) (w.heap.size + 1 + 1) 44 (ints y)) := hid a5
   have B5 : Hid (Blk (((((w.alloc (.cells (ints y) 44)).drew.alloc (.cells #[Value.int .i64 0, .int .i64 0, .int .i64 0, .int .i64 0] 44)).alloc (.cells #[Value.int .i64 0, .int .i64 0, .int .i64 0, .int .i64 0] 44)).setCells (w.heap.size + 1 + 1) 0 (y.map (Value.int .i64))).setCells (w.heap.size + 1) 0 (y.map (Value.int .i64))) (w.heap.size + 1) 44 (ints y)) := hid b5
   have Y5 : Hid (Blk (((((w.alloc (.cells (ints y) 44)).drew.alloc (.cells #[Value.int .i64 0, .int .i64 0, .int .i64 0, .int .i64 0] 44)).alloc (.cells #[Value.int .i64 0, .int .i64 0, .int .i64 0, .int .i64 0] 44)).setCells (w.heap.size + 1 + 1) 0 (y.map (Value.int .i64))).setCells (w.heap.size + 1) 0 (y.map (Value.int .i64))) w.heap.size 44 (ints y)) := hid y5
   have C5 : Hid (Below w.heap.size w (((((w.alloc (.cells (ints y) 44)).drew.alloc (.cells #[Value.int .i64 0, .int .i64 0, .int .i64 0, .int .i64 0] 44)).alloc (.cells #[Value.int .i64 0, .int .i64 0, .int .i64 0, .int .i64 0] 44)).setCells (w.heap.size + 1 + 1) 0 (y.map (Value.int .i64))).setCells (w.heap.size + 1) 0 (y.map (Value.int .i64)))) := hid c5
   clear a4 ga4 b4 y4 c4 a5 b5 gb5 y5 c5 y1 y2 y3 A0 B0 Y3 C3 HW1
   change Exit.then _ _ Exit.normal _ (((((w.alloc (.cells (ints y) 44)).drew.alloc (.cells #[Value.int .i64 0, .int .i64 0, .int .i64 0, .int .i64 0] 44)).alloc (.cells #[Value.int .i64 0, .int .i64 0, .int .i64 0, .int .i64 0] 44)).setCells (w.heap.size + 1 + 1) 0 (y.map (Value.int .i64))).setCells (w.heap.size + 1) 0 (y.map (Value.int .i64)))
   generalize ((((w.alloc (.cells (ints y) 44)).drew.alloc (.cells #[Value.int .i64 0, .int .i64 0, .int .i64 0, .int .i64 0] 44)).alloc (.cells #[Value.int .i64 0, .int .i64 0, .int .i64 0, .int .i64 0] 44)).setCells (w.heap.size + 1 + 1) 0 (y.map (Value.int .i64))).setCells (w.heap.size + 1) 0 (y.map (Value.int .i64)) = w5 at *
   have hgab : (w.heap.size + 1 + 1) ≠ (w.heap.size + 1) := by omega
   have hga0 : w.heap.size ≠ (w.heap.size + 1 + 1) := by omega
   have hgb0 : w.heap.size ≠ (w.heap.size + 1) := by omega
   have hga1 : w.heap.size ≤ (w.heap.size + 1 + 1) := by omega
   have hgb1 : w.heap.size ≤ (w.heap.size + 1) := by omega
   generalize w.heap.size + 1 + 1 = g2 at *
   generalize w.heap.size + 1 = g1 at *
   obtain ⟨x, hx⟩ : ∃ x, y.getD a 0 = x := ⟨_, rfl⟩
   rw [hx] at HGL hya0 hya1
   have HX := hid hx
   clear hx
   have ca := blk_int A5.out (i := a) HYL.out
   have fa := blk_free A5.out a
   rw [HX.out] at ca
   have A6 := hid (blk_set_int A5.out a (x + 1))
   have b6 := blk_far (b := g2) (i := a) B5.out hgab.symm (.int .i64 (x + 1))
   have y6 := blk_far (b := g2) (i := a) Y5.out hga0 (.int .i64 (x + 1))
   have c6 := below_set (i := a) C5.out (b := g2) hga1 (.int .i64 (x + 1))
   have cb : (w5.setCell ⟨g2, a, none⟩ (.int .i64 (x + 1))).cell? ⟨g1, a, none⟩ = some (.int .i64 x) := by rw [blk_int b6 (i := a) HYL.out, HX.out]
   have fb := blk_free b6 a
   have A7 := hid (blk_far (b := g1) (i := a) A6.out hgab (.int .i64 (x - 1)))
   have B7 := hid (blk_set_int b6 a (x - 1))
   have y7 := blk_far (b := g1) (i := a) y6 hgb0 (.int .i64 (x - 1))
   have C7 := hid (below_set (i := a) c6 (b := g1) hgb1 (.int .i64 (x - 1)))
   have cy : ((w5.setCell ⟨g2, a, none⟩ (.int .i64 (x + 1))).setCell ⟨g1, a, none⟩ (.int .i64 (x - 1))).cell? ⟨w.heap.size, a, none⟩ = some (.int .i64 x) := by rw [blk_int y7 (i := a) HYL.out, HX.out]
   have HZ1 := hid (fun v => show (Tryz.prog.info? 44).map (·.size) = some (ints (y.set a v)).size by rw [ints_size, List.length_set, HL.out]; kernel_rfl)
   have HL1 := hid (fun v => show (y.set a v).length = 4 by rw [List.length_set]; exact HL.out)
   clear b6 y6 c6 y7 A6
   have hsz : ((w5.setCell ⟨g2, a, none⟩ (.int .i64 (x + 1))).setCell ⟨g1, a, none⟩ (.int .i64 (x - 1))).heap.size = w5.heap.size := by simp [World.setCell]
   have HSZ7 := hid hsz
   clear hsz
   by_cases h0 : 0 < x
   · have HG := hid (show gainL y a = [y.set a (x + 1)] by rw [HGL.out, if_pos h0])
     clear HGL
     go_wp2_with (first | (refine wpList_load_blk (by rfl) 44 _ rfl g2 rfl 44 (ints (y.set a (x + 1))) _ A7.out Tryz.underlying44 rfl (HZ1.out _) ?_) | (refine wpList_build1 rfl _ rfl (HL1.out (x + 1)) rfl ?_))
     go_ret
     exact ⟨_, _, rfl, C7.out.alloc C7.out.size _, by rw [HG.out]; have M := srow_made1 (y := y.set a (x + 1)) C7.out.size (HL1.out _); rw [HSZ7.out] at M; exact M⟩
   · by_cases h1 : x < 0
     · have HG := hid (show gainL y a = [y.set a (x - 1)] by rw [HGL.out, if_neg h0, if_pos h1])
       clear HGL
       go_wp2_with (first | (refine wpList_load_blk (by rfl) 44 _ rfl g1 rfl 44 (ints (y.set a (x - 1))) _ B7.out Tryz.underlying44 rfl (HZ1.out _) ?_) | (refine wpList_build1 rfl _ rfl (HL1.out (x - 1)) rfl ?_))
       go_ret
       exact ⟨_, _, rfl, C7.out.alloc C7.out.size _, by rw [HG.out]; have M := srow_made1 (y := y.set a (x - 1)) C7.out.size (HL1.out _); rw [HSZ7.out] at M; exact M⟩
     · have HG := hid (show gainL y a = [y.set a (x + 1), y.set a (x - 1)] by rw [HGL.out, if_neg h0, if_neg h1])
       clear HGL
       go_wp2_with (first | (refine wpList_load_blk (by rfl) 44 _ rfl g2 rfl 44 (ints (y.set a (x + 1))) _ A7.out Tryz.underlying44 rfl (HZ1.out _) ?_) | (refine wpList_load_blk (by rfl) 44 _ rfl g1 rfl 44 (ints (y.set a (x - 1))) _ B7.out Tryz.underlying44 rfl (HZ1.out _) ?_) | (refine wpList_build2 rfl _ _ rfl (HL1.out (x + 1)) (HL1.out (x - 1)) rfl rfl ?_))
       go_ret
       exact ⟨_, _, rfl, C7.out.alloc C7.out.size _, by rw [HG.out]; have M := srow_made2 (y := y.set a (x + 1)) (z := y.set a (x - 1)) C7.out.size (HL1.out _) (HL1.out _); rw [HSZ7.out] at M; exact M⟩
end Go.Proofs.YtiigipnfnfpepaaGreatDoor
namespace Go.Proofs.YtiigipnfnfpepaaGreatDoor
open Go.RowKit

theorem srow_concat {P : Program} {w : World} {base base2 : Nat} {e t : TypeId} {sz : Nat} {v : Value} {L M : List (List Int)} {bytes gx m c : Nat} {z : Value} (h : SRow w base e sz v L) (h2 : SRow w base2 e sz (.slice (some ⟨gx, 0, none⟩) m c) M) (hs : 0 < sz) (hi : ∃ i : TypeInfo, P.info? e = some i ∧ i.zero = some z ∧ i.size = sz ∧ i.bytes = bytes) (hz : z.cells.size = sz) (ht : P.underlying t = some (.slice e))
 (hL : L.length + M.length ≤ 1000000) (hby : bytes ≤ 256) (hbase : base ≤ w.heap.size) (ty : TypeId) :
 ∃ v' w', (Builtin.append_ #[t, t] ty #[v, .slice (some ⟨gx, 0, none⟩) m c]).run P w = .ok v' w' ∧ SRow w' base e sz v' (L ++ M) ∧ w.grownBy w' v.ownBlock ∧ (v'.ownBlock = v.ownBlock ∨ v'.ownBlock = some w.heap.size) := by
 obtain ⟨i, hi, hz1, hs1, hb1⟩ := hi
 have hm : m = M.length := by
  rcases h2.row with ⟨h0, _⟩ | ⟨g', cap', cur, h1, _⟩
  · cases h0
  · cases h1; rfl
 subst hm
 have hle : (L.length + M.length) * bytes ≤ 140737488355328 := Nat.le_trans (Nat.mul_le_mul hL hby) (by decide)
 have o2 := srow_owns h2 hs
 obtain ⟨v', w', h1, h3, h4, _, h5⟩ := run_append_own_at (P := P) w base t ty e i z sz bytes ht hi hz1 hs1 hb1 hz hs v L.length _ (srow_owns h hs) ⟨gx, 0, none⟩ M.length c (M.flatten.map (.int .i64)) (by rw [List.length_map, row_len h2.wid])
  (o2.cells rfl) (ints_one1 _) (by unfold maxLen; omega) hle hbase
 refine ⟨v', w', h1, srow_of ?_ ?_, h4, h5⟩
 · intro y hy
   rcases List.mem_append.1 hy with h6 | h6
   · exact h.wid y h6
   · exact h2.wid y h6
 · rw [List.flatten_append, List.map_append, List.length_append]
   exact h3
def lessY (y : List Int) (i : Nat) : List Int := y.set i (y.getD i 0 - max (min (y.getD i 0) 1) (-1))
def innerTo (x : List Int) (i j : Nat) : List (List Int) := (List.range j).flatMap fun j => if j = i then [] else gainL x j
def movedAt (y : List Int) (i : Nat) : List (List Int) := if y.getD i 0 = 0 then [] else innerTo (lessY y i) i 4
def movedTo (y : List Int) (i : Nat) : List (List Int) := (List.range i).flatMap (movedAt y)
def movedL (y : List Int) : List (List Int) := movedTo y 4
theorem innerTo_succ (x : List Int) (i j : Nat) : innerTo x i (j + 1) = innerTo x i j ++ (if j = i then [] else gainL x j) := by
 unfold innerTo; rw [List.range_succ, List.flatMap_append]; simp
theorem movedTo_succ (y : List Int) (i : Nat) : movedTo y (i + 1) = movedTo y i ++ movedAt y i := by
 unfold movedTo; rw [List.range_succ, List.flatMap_append]; simp
theorem gainL_len (x : List Int) (j : Nat) : (gainL x j).length ≤ 2 := by
 unfold gainL; split
 · simp
 · split <;> simp
theorem innerTo_len (x : List Int) (i : Nat) : ∀ j, (innerTo x i j).length ≤ 2 * j
 | 0 => by simp [innerTo]
 | j + 1 => by
  have h := innerTo_len x i j
  rw [innerTo_succ, List.length_append]
  split
  · simp; omega
  · have := gainL_len x j; omega
theorem movedTo_len (y : List Int) : ∀ i, (movedTo y i).length ≤ 8 * i
 | 0 => by simp [movedTo]
 | i + 1 => by
  have h := movedTo_len y i
  rw [movedTo_succ, List.length_append]
  have : (movedAt y i).length ≤ 8 := by
   unfold movedAt; split
   · simp
   · exact innerTo_len _ _ 4
  omega
theorem lessY_in {y : List Int} (hl : y.length = 4) {i : Nat} (hi : i < 4) (h0 : y.getD i 0 ≠ 0) : (lessY y i).length = 4 ∧ sumA (lessY y i) = sumA y - 1 := by
 refine ⟨by rw [lessY, List.length_set]; exact hl, ?_⟩
 have := sum_set (fun x : Int => (x.natAbs : Int)) y i (y.getD i 0 - max (min (y.getD i 0) 1) (-1)) 0 (by omega)
 unfold lessY sumA
 rw [this]
 omega
theorem movedL_in {y : List Int} (hl : y.length = 4) : ∀ z ∈ movedL y, z.length = 4 ∧ sumA z = sumA y := fun z hz => by
 obtain ⟨i, hi, hz⟩ := List.mem_flatMap.1 hz
 have hi4 := List.mem_range.1 hi
 unfold movedAt at hz
 split at hz
 · cases hz
 · rename_i h0
   obtain ⟨j, hj, hz⟩ := List.mem_flatMap.1 hz
   have hj4 := List.mem_range.1 hj
   split at hz
   · cases hz
   · obtain ⟨h1, h2⟩ := lessY_in hl hi4 h0
     have := gainL_in h1 hj4 z hz
     omega

set_option maxRecDepth 20000 in
set_option maxHeartbeats 4000000 in
theorem moved_calls (y : List Int) (w : World) (hl : y.length = 4) (hs : sumA y ≤ 12) :
 Calls Tryz.prog 93 #[.agg (ints y)] w fun e w' => ∃ v, e = .returned v ∧ Below w.heap.size w w' ∧ SRow w' w.heap.size 44 4 v (movedL y) := by
 have hp := sumA_pin hl rfl hs
 have HYZ := hid (show (Tryz.prog.info? 44).map (·.size) = some (ints y).size by rw [ints_size, hl]; kernel_rfl)
 have HYS := hid (show (ints y).size = (#[Value.int .i64 0, .int .i64 0, .int .i64 0, .int .i64 0] : Array Value).size by rw [ints_size, hl]; rfl)
 have HYO := hid (ints_one y)
 have Y0 := hid (blk_new w 44 (ints y))
 have B0 := hid ((Below.refl w.heap.size w).alloc (Nat.le_refl _) (.cells (ints y) 44))
 have R0 : Hid (SRow (w.alloc (.cells (ints y) 44)) (w.heap.size + 1) 44 4 (.slice none 0 0) (movedTo y 0)) := hid (srow_nil _ _ _ _)
 have hif := info_parts (P := Tryz.prog) (e := 3) (z := .int .i64 0) (size := 1) (bytes := 8) (by kernel_rfl)
 obtain ⟨infI, hinI, hzI, hsI, hbI⟩ := hif
 have HX := hid (fun (i : Nat) (h : i < 4) (W : World) => run_index_any (P := Tryz.prog) (t := 44) (e := 3) Tryz.underlying44 (by kernel_rfl) hinI hsI (ints y) (.int .i64 (y.getD i 0)) i (by rw [ints_get, List.getD_eq_getElem?_getD, List.getElem?_eq_getElem (by rw [hl]; exact h)]; rfl) h W)
 have HPI := hid (info_parts (P := Tryz.prog) (e := 44) (z := .agg #[Value.int .i64 0, .int .i64 0, .int .i64 0, .int .i64 0]) (size := 4) (bytes := 32) (by kernel_rfl))
 have HP := hid hp
 have HL := hid hl
 have HS := hid hs
 clear hinI hzI hsI hbI hp hl hs
 go_enter Tryz.func93, Tryz.ntmps93
 go_wp2_with (first | (refine wpList_load_blk (by rfl) 44 _ rfl w.heap.size rfl 44 (ints y) _ Y0.out Tryz.underlying44 rfl HYZ.out ?_))
 generalize w.alloc (.cells (ints y) 44) = w1 at *
 go_loopg [3, 9] 4 (fun gg s3 s9 wr => ∃ i : Nat, i ≤ 4 ∧ 4 - i ≤ gg ∧ s9 = .int .i64 i ∧ Aside (Below w.heap.size w wr) ∧ Aside (Blk wr w.heap.size 44 (ints y)) ∧ Aside (SRow wr (w.heap.size + 1) 44 4 s3 (movedTo y i)))
 case atStart => exact ⟨0, Nat.zero_le _, by omega, rfl, B0.out, Y0.out, R0.out⟩
 case round =>
  clear B0 Y0 R0
  obtain ⟨i, hi, hgi, rfl, B, Y, R⟩ := hrel
  by_cases hlt : i < 4
  · have hiz : (i : Int) < 4 := by omega
    have hi0 : (0 : Int) ≤ i := by omega
    have hx := fun W => HX.out i hlt W
    obtain ⟨hp0, hp1⟩ := pin_get HP.out hlt
    have HSU := hid (movedTo_succ y i)
    by_cases hz : y.getD i 0 = 0
    · have HMA := hid (show movedAt y i = [] by unfold movedAt; rw [if_pos hz])
      have hz1 : (y.getD i 0 == 0) = true := by simp only [beq_iff_eq]; exact hz
      have R2 := R.out
      rw [← List.append_nil (movedTo y i), ← HMA.out, ← HSU.out] at R2
      have R3 := hid R2
      clear hz R2 R
      generalize y.getD i 0 = x at *
      go_wp2_with fail
      go_roundg (4 - (i + 1))
      case measure => omega
      case rel => exact ⟨i + 1, by omega, by omega, by go_num, B.out, Y.out, R3.out⟩
    · have HMA := hid (show movedAt y i = innerTo (lessY y i) i 4 by unfold movedAt; rw [if_neg hz])
      have hz1 : (y.getD i 0 == 0) = false := by simpa using hz
      obtain ⟨hll, hls⟩ := lessY_in HL.out hlt hz
      have hlp := sumA_pin hll hls (by have := HS.out; omega)
      have HLL := hid hll
      have HLP := hid hlp
      have hlx : lessY y i = y.set i (y.getD i 0 - max (min (y.getD i 0) 1) (-1)) := rfl
      have B1 := B.out.alloc B.out.size (.cells #[Value.int .i64 0, .int .i64 0, .int .i64 0, .int .i64 0] 44)
      have R1 := srow_alloc R.out (.cells #[Value.int .i64 0, .int .i64 0, .int .i64 0, .int .i64 0] 44)
      have Y1 := blk_alloc Y.out (.cells #[Value.int .i64 0, .int .i64 0, .int .i64 0, .int .i64 0] 44)
      have hgx := blk_lt Y.out
      have hyl : i < y.length := by rw [HL.out]; exact hlt
      obtain ⟨xv, hxv⟩ : ∃ xv : Int, xv = y.getD i 0 - max (min (y.getD i 0) 1) (-1) := ⟨_, rfl⟩
      rw [← hxv] at hlx
      have hwx : IntKind.i64.wrap (y.getD i 0 - max (min (y.getD i 0) 1) (-1)) = xv := by rw [← hxv]; exact IntWalk.i64_in _ (by omega)
      have HLX := hid hlx
      have HYL := hid hyl
      have BB1 := hid B1
      have RR1 := hid R1
      have YY1 := hid Y1
      have HRB := hid (fun k he => (srow_lt R.out k he).2)
      have hgx0 := hgx
      have HGX := hid hgx
      clear hz hll hls hlp hlx hxv B R B1 R1 Y1 hyl hgx hgx0
      obtain ⟨x, hxx⟩ : ∃ x, y.getD i 0 = x := ⟨_, rfl⟩
      rw [hxx] at hwx hz1 hx hp0 hp1
      have HXX := hid hxx
      clear hxx
      go_wp2_with (first | (refine wpList_load_blk (by rfl) 44 _ rfl w.heap.size rfl 44 (ints y) _ Y.out Tryz.underlying44 rfl HYZ.out ?_) | (refine wpList_store_blk rfl 44 _ _ rfl wr.heap.size 44 #[Value.int .i64 0, .int .i64 0, .int .i64 0, .int .i64 0] (ints y) rfl rfl (blk_new wr _ _) HYS.out HYZ.out HYO.out ?_; intro w2 n0 n1; have fx := blk_free n0 i; have cx := blk_int n0 (i := i) HYL.out; rw [HXX.out] at cx))
      have X2 := hid n0
      have R2 := hid (srow_blk RR1.out fun k cur hk he hc => blk_grown hc n1 (fun e => by injection e with e; have := HRB.out k he; omega))
      have Y2 := hid (blk_grown YY1.out n1 (fun e => by injection e with e; have := HGX.out; omega))
      have B2 := hid (below_grown BB1.out n1 BB1.out.size (by have := HGX.out; omega))
      clear n0 n1 BB1 RR1 YY1
      have x3 := blk_set_int X2.out i xv
      rw [← HLX.out] at x3
      have X3 := hid x3
      have R3 := hid (srow_blk (w' := w2.setCell ⟨wr.heap.size, i, none⟩ (.int .i64 xv)) R2.out fun k cur hk he hc => blk_far hc (fun e => by have := HRB.out k he; omega) _)
      have Y3 := hid (blk_far (b := wr.heap.size) (i := i) Y2.out (by have := HGX.out; omega) (.int .i64 xv))
      have B3 := hid (below_set (i := i) B2.out (b := wr.heap.size) (by have := HGX.out; omega) (.int .i64 xv))
      clear x3 X2 R2 Y2 B2 cx fx hx hwx
      have HLZ := hid (show (Tryz.prog.info? 44).map (·.size) = some (ints (lessY y i)).size by rw [ints_size, HLL.out]; kernel_rfl)
      generalize w2.setCell ⟨wr.heap.size, i, none⟩ (.int .i64 xv) = w3 at *
      generalize wr.heap.size = gx at *
      go_loopg [3, 24] 4 (fun gg s3 s24 wq => ∃ j : Nat, j ≤ 4 ∧ 4 - j ≤ gg ∧ s24 = .int .i64 j ∧ Aside (Below w.heap.size w wq) ∧ Aside (Blk wq w.heap.size 44 (ints y)) ∧ Aside (Blk wq gx 44 (ints (lessY y i))) ∧ Aside (SRow wq (w.heap.size + 1) 44 4 s3 (movedTo y i ++ innerTo (lessY y i) i j)) ∧ Aside (s3.ownBlock ≠ some gx))
      case atStart => exact ⟨0, Nat.zero_le _, by omega, rfl, B3.out, Y3.out, X3.out, by rw [show innerTo (lessY y i) i 0 = [] from rfl, List.append_nil]; exact R3.out, fun e => by have := HRB.out _ e; omega⟩
      case round =>
       clear B3 Y3 X3 R3 HRB
       obtain ⟨j, hj, hgj, rfl, B, Y, X, R, HO⟩ := hrel
       by_cases hlt2 : j < 4
       · have hjz : (j : Int) < 4 := by omega
         have hj0 : (0 : Int) ≤ j := by omega
         have HIS := hid (innerTo_succ (lessY y i) i j)
         by_cases hji : j = i
         · have e1 : ((j : Int) == i) = true := by simp; omega
           have R4 := R.out
           rw [show innerTo (lessY y i) i j = innerTo (lessY y i) i (j + 1) by rw [HIS.out, if_pos hji, List.append_nil]] at R4
           have R5 := hid R4
           clear R4 R hji
           go_wp2_with fail
           go_roundg (4 - (j + 1))
           case measure => omega
           case rel => exact ⟨j + 1, by omega, by omega, by go_num, B.out, Y.out, X.out, R5.out, HO.out⟩
         · have e1 : ((j : Int) == i) = false := by simp; omega
           have HIS2 := hid (show innerTo (lessY y i) i (j + 1) = innerTo (lessY y i) i j ++ gainL (lessY y i) j by rw [HIS.out, if_neg hji])
           have cg := gained_calls (lessY y i) j wr HLL.out (fun q hq => pin_get HLP.out hq) hlt2
           clear hji HIS
           go_wp2_with (first | (refine wpList_load_blk (by rfl) 44 _ rfl gx rfl 44 (ints (lessY y i)) _ X.out Tryz.underlying44 rfl HLZ.out ?_))
           refine cg.mono ?_
           rintro e w4 ⟨g4, n4, rfl, B4, R4⟩
           have RB := srow_below R.out B4 (Nat.le_refl _)
           have hlen1 := movedTo_len y i
           have hlen2 := innerTo_len (lessY y i) i j
           have hlen3 := gainL_len (lessY y i) j
           obtain ⟨v5, w5, hr5, S5, G5, O5⟩ := srow_concat (P := Tryz.prog) (t := 158) (bytes := 32) RB R4 (by decide) HPI.out (by kernel_rfl) Tryz.underlying158 (by rw [List.length_append]; omega) (by decide) (by have := B.out.size; have := B4.size; have := blk_lt Y.out; omega) 158
           have HR5 := hid hr5
           rw [List.append_assoc, ← HIS2.out] at S5
           have hol := srow_lt RB
           have B5 := hid ((bnext B.out B4).grown G5 (bnext B.out B4).size (fun k e => by have := (hol k e).1; omega))
           have Y5 := hid (blk_grown (blk_below Y.out B4 (blk_lt Y.out)) G5 (fun e => by have := (hol _ e.symm).1; omega))
           have X5 := hid (blk_grown (blk_below X.out B4 (blk_lt X.out)) G5 (fun e => HO.out e.symm))
           have O6 := hid (show v5.ownBlock ≠ some gx from fun e => by
            rcases O5 with h | h
            · exact HO.out (h.symm.trans e)
            · rw [h] at e
              injection e with e
              have := blk_lt X.out
              have := B4.size
              omega)
           have S5' := hid S5
           clear cg B4 R4 RB hlen1 hlen2 hlen3 hr5 S5 G5 O5 hol B Y X R HO
           go_wp2_with (first | (at_builtin; refine Lib.wpList_append_run _ rfl _ _ _ _ rfl _ _ rfl rfl _ _ HR5.out ?_))
           go_roundg (4 - (j + 1))
           case measure => omega
           case rel => exact ⟨j + 1, by omega, by omega, by go_num, B5.out, Y5.out, X5.out, S5'.out, O6.out⟩
       · obtain rfl : j = 4 := by omega
         have R4 := R.out
         rw [← HMA.out, ← HSU.out] at R4
         have R5 := hid R4
         clear R4 R
         go_wp2_with fail
         go_roundg (4 - (i + 1))
         case measure => omega
         case rel => exact ⟨i + 1, by omega, by omega, by go_num, B.out, Y.out, R5.out⟩
  · obtain rfl : i = 4 := by omega
    have HR := hid (show SRow wr w.heap.size 44 4 _ (movedL y) from ⟨R.out.wid, by
     rcases R.out.row with h | ⟨g, cap, cur, h1, h2, h3⟩
     · exact .inl h
     · exact .inr ⟨g, cap, cur, h1, by omega, h3⟩⟩)
    clear R HX
    go_wp2_with fail
    go_ret
    exact ⟨_, rfl, B.out, HR.out⟩
end Go.Proofs.YtiigipnfnfpepaaGreatDoor
namespace Go.Proofs.YtiigipnfnfpepaaGreatDoor
open Go.RowKit

def nearF (good : List Int → Bool) (s : List Int × Int) (z : List Int) : List Int × Int := if good z = true ∧ (s.2 < 0 ∨ indexI z < s.2) then (z, indexI z) else s
def nearL (good : List Int → Bool) (y : List Int) : List Int := ((movedL y).foldl (nearF good) (y, -1)).1
theorem nearF_in {good : List Int → Bool} {P : List Int → Prop} : ∀ (zs : List (List Int)) (s : List Int × Int), (∀ z ∈ zs, P z) → P s.1 → P (zs.foldl (nearF good) s).1
 | [], _, _, h => h
 | z :: zs, s, hz, h => nearF_in zs (nearF good s z) (fun q hq => hz q (List.mem_cons_of_mem _ hq)) (by
  unfold nearF; split
  · exact hz z List.mem_cons_self
  · exact h)
theorem nearL_in {good : List Int → Bool} {y : List Int} (hl : y.length = 4) : (nearL good y).length = 4 ∧ sumA (nearL good y) = sumA y :=
 nearF_in (P := fun z => z.length = 4 ∧ sumA z = sumA y) (movedL y) (y, -1) (movedL_in hl) ⟨hl, rfl⟩

set_option maxRecDepth 20000 in
set_option maxHeartbeats 4000000 in
theorem nearest_calls (y : List Int) (good : List Int → Bool) (p1 p2 p3 p4 p5 : Value) (w : World) (hl : y.length = 4) (hs : sumA y ≤ 12)
 (hgood : ∀ z W, z.length = 4 → sumA z ≤ 12 → Below w.heap.size w W → Calls Tryz.prog 51 #[.agg (ints z), p1, p2, p3, p4, p5] W fun e w' => e = .returned (.bool (good z)) ∧ Below W.heap.size W w') :
 Calls Tryz.prog 50 #[.agg (ints y), .func (.func 51) #[] #[p1, p2, p3, p4, p5]] w fun e w' => e = .returned (.agg (ints (nearL good y))) ∧ Below w.heap.size w w' := by
 have HYZ := hid (fun (z : List Int) (hz : z.length = 4) => show (Tryz.prog.info? 44).map (·.size) = some (ints z).size by rw [ints_size, hz]; kernel_rfl)
 have HYS := hid (fun (z : List Int) (hz : z.length = 4) => show (ints z).size = (#[Value.int .i64 0, .int .i64 0, .int .i64 0, .int .i64 0] : Array Value).size by rw [ints_size, hz]; rfl)
 have HYP := hid (fun (z : List Int) (hz : z.length = 4) => pul_size hz)
 have y0 := blk_alloc (blk_new w 44 (ints y)) (.cells #[Value.int .i64 0, .int .i64 0, .int .i64 0, .int .i64 0] 44)
 have r0 := blk_new (w.alloc (.cells (ints y) 44)) 44 #[Value.int .i64 0, .int .i64 0, .int .i64 0, .int .i64 0]
 rw [World.size_alloc] at r0
 have b0 := ((Below.refl w.heap.size w).alloc (Nat.le_refl _) (.cells (ints y) 44)).alloc (by simp) (.cells #[Value.int .i64 0, .int .i64 0, .int .i64 0, .int .i64 0] 44)
 let w1 := (w.alloc (.cells (ints y) 44)).alloc (.cells #[Value.int .i64 0, .int .i64 0, .int .i64 0, .int .i64 0] 44)
 have y1 := blk_alloc y0 (.cells #[Value.int .i64 0, .int .i64 0, .int .i64 0, .int .i64 0] 44)
 have r1 := blk_alloc r0 (.cells #[Value.int .i64 0, .int .i64 0, .int .i64 0, .int .i64 0] 44)
 have t1 := blk_new ((w.alloc (.cells (ints y) 44)).alloc (.cells #[Value.int .i64 0, .int .i64 0, .int .i64 0, .int .i64 0] 44)) 44 #[Value.int .i64 0, .int .i64 0, .int .i64 0, .int .i64 0]
 rw [World.size_alloc, World.size_alloc] at t1
 have b1 := b0.alloc (by simp; omega) (.cells #[Value.int .i64 0, .int .i64 0, .int .i64 0, .int .i64 0] 44)
 have Y0 := hid y0
 have Y1 := hid y1
 have R1 := hid r1
 have T1 := hid t1
 have B1 := hid b1
 have HG := hid hgood
 have HL := hid hl
 have HS := hid hs
 have HN : Hid (nearL good y = ((movedL y).foldl (nearF good) (y, -1)).1) := hid rfl
 have HM := hid (movedL_in hl)
 have hg51 : ∀ args W, (callFunc 51 args).run Tryz.prog W = .ok (.enter 51 args) W := enters_at Tryz.func51 (by kernel_rfl) rfl
 clear y0 r0 b0 y1 r1 t1 b1 hgood hl hs w1
 go_enter Tryz.func50, Tryz.ntmps50
 go_wp2_with (first | (refine wpList_load_blk (by rfl) 44 _ rfl w.heap.size rfl 44 (ints y) _ Y0.out Tryz.underlying44 rfl (HYZ.out y HL.out) ?_) | (refine wpList_store_blk rfl 44 _ _ rfl (w.heap.size + 1 + 1) 44 #[Value.int .i64 0, .int .i64 0, .int .i64 0, .int .i64 0] (ints y) rfl rfl T1.out (HYS.out y HL.out) (HYZ.out y HL.out) (ints_one y) ?_; intro w2 n0 n1; have Y2 := hid (blk_grown Y1.out n1 (fun e => by injection e with e; omega)); have R2 := hid (blk_grown R1.out n1 (fun e => by injection e with e; omega)); have B2 := hid (below_grown B1.out n1 B1.out.size (by omega)); have T2 := hid n0) | (refine wpList_load_blk (by rfl) 44 _ rfl w.heap.size rfl 44 (ints y) _ Y2.out Tryz.underlying44 rfl (HYZ.out y HL.out) ?_))
 have cm := moved_calls y w2 HL.out HS.out
 clear n0 n1 Y0 Y1 R1 T1 B1
 refine cm.mono ?_
 rintro e w3 ⟨v, rfl, B3, M3⟩
 have R3 := hid (blk_below R2.out B3 (blk_lt R2.out))
 have T3 := hid (blk_below T2.out B3 (blk_lt T2.out))
 have BB3 := hid (bnext B2.out B3)
 obtain ⟨a, c, rfl⟩ : ∃ a c, v = .slice a (movedL y).length c := by
  rcases M3.row with ⟨rfl, h0⟩ | ⟨g', cap, cur, rfl, _⟩
  · exact ⟨none, 0, by rw [h0]; rfl⟩
  · exact ⟨_, _, rfl⟩
 have hml : (movedL y).length ≤ 1000 := Nat.le_trans (movedTo_len y 4) (by decide)
 have M3' : Hid (SRow w3 (w.heap.size + 1 + 1 + 1) 44 4 (.slice a (movedL y).length c) (movedL y)) := hid ⟨M3.wid, by
  rcases M3.row with h | ⟨g, cap, cur, h1, h2, h3⟩
  · exact .inl h
  · exact .inr ⟨g, cap, cur, h1, Nat.le_trans (blk_lt T2.out) h2, h3⟩⟩
 clear cm B3 M3 Y2 R2 T2 B2
 obtain ⟨n, hn⟩ : ∃ n, n = (movedL y).length := ⟨_, rfl⟩
 rw [← hn] at M3' hml ⊢
 have HNN := hid hn
 clear hn
 go_wp2_with fail
 go_loopg [6, 15] n (fun gg s6 s15 wr => ∃ (q : Nat) (b : List Int) (ls : Int), q ≤ n ∧ n - q ≤ gg ∧ s15 = .int .i64 q ∧ s6 = .int .i64 ls ∧ Aside (((movedL y).take q).foldl (nearF good) (y, -1) = (b, ls) ∧ b.length = 4) ∧ Aside (Below w.heap.size w wr) ∧ Aside (Blk wr (w.heap.size + 1) 44 #[Value.int .i64 0, .int .i64 0, .int .i64 0, .int .i64 0]) ∧ Aside (Blk wr (w.heap.size + 1 + 1) 44 (ints b)) ∧ Aside (SRow wr (w.heap.size + 1 + 1 + 1) 44 4 (.slice a n c) (movedL y)))
 case atStart => exact ⟨0, y, -1, Nat.zero_le _, by omega, rfl, rfl, ⟨rfl, HL.out⟩, BB3.out, R3.out, T3.out, M3'.out⟩
 case round =>
  clear BB3 R3 T3 M3'
  obtain ⟨q, b, ls, hq, hgq, rfl, rfl, hI, B, R, T, M⟩ := hrel
  obtain ⟨hE, hbl⟩ := hI.out
  clear hI
  by_cases hlt : q < n
  · have hqz : (q : Int) < n := by omega
    have hq0 : (0 : Int) ≤ q := by omega
    have hnz : (n : Int) ≤ 1000 := by omega
    have hqm : q < (movedL y).length := by rw [← HNN.out]; exact hlt
    obtain ⟨g, cap, he, _, hgw, rz⟩ := srow_at M.out (i := q) hqm
    simp only [Value.slice.injEq] at he
    obtain ⟨rfl, hnl, rfl⟩ := he
    clear hnl
    have hzin := HM.out _ (show (movedL y).getD q [] ∈ movedL y by rw [List.getD_eq_getElem?_getD, List.getElem?_eq_getElem hqm]; exact List.getElem_mem hqm)
    have hE2 : ((movedL y).take (q + 1)).foldl (nearF good) (y, -1) = nearF good (b, ls) ((movedL y).getD q []) := by
     rw [List.take_add_one, List.getElem?_eq_getElem hqm, List.foldl_append, hE, List.getD_eq_getElem?_getD, List.getElem?_eq_getElem hqm]; rfl
    have HE2 := hid hE2
    clear hE2 hE hqm
    generalize (movedL y).getD q [] = z at *
    obtain ⟨hzl, hzs⟩ := hzin
    have hzs12 : sumA z ≤ 12 := by have := HS.out; omega
    have HZL := hid hzl
    have HZS := hid hzs12
    have HZP := hid (show pulsesI z ≤ 12 by rw [pulsesI_sum hzl hzs12]; exact hzs12)
    have B1 := hid (B.out.alloc B.out.size (.cells #[Value.int .i64 0, .int .i64 0, .int .i64 0, .int .i64 0] 44))
    have R1 := hid (blk_alloc R.out (.cells #[Value.int .i64 0, .int .i64 0, .int .i64 0, .int .i64 0] 44))
    have T1 := hid (blk_alloc T.out (.cells #[Value.int .i64 0, .int .i64 0, .int .i64 0, .int .i64 0] 44))
    have M1 := hid (srow_alloc M.out (.cells #[Value.int .i64 0, .int .i64 0, .int .i64 0, .int .i64 0] 44))
    have HMB := hid (fun k he => (srow_lt M.out k he).2)
    have HRN := hid (fun k he (e : k = w.heap.size + 1 + 1) => show False from absurd (srow_lt M.out k he).1 (by omega))
    have HGT := hid (blk_lt T.out)
    have HRZ := hid rz
    have HBL := hid hbl
    clear hzl hzs hzs12 rz M B R T hbl
    go_wp2_with (first | (refine wpList_load_mid rfl 44 _ rfl g (q * 4) rfl _ _ HRZ.out Tryz.underlying44 rfl (HYP.out z HZL.out) ?_) | (refine wpList_store_blk rfl 44 _ _ rfl wr.heap.size 44 #[Value.int .i64 0, .int .i64 0, .int .i64 0, .int .i64 0] (ints z) rfl rfl (blk_new wr _ _) (HYS.out z HZL.out) (HYZ.out z HZL.out) (ints_one z) ?_; intro w4 n0 n1; have Z4 := hid n0; have R4 := hid (blk_grown R1.out n1 (fun e => by injection e with e; have := HGT.out; omega)); have T4 := hid (blk_grown T1.out n1 (fun e => by injection e with e; have := HGT.out; omega)); have B4 := hid (below_grown B1.out n1 B1.out.size (by have := HGT.out; omega)); have M4 := hid (srow_blk M1.out fun k cur hk he hc => blk_grown hc n1 (fun e => by injection e with e; have := HMB.out k he; omega)); clear n0 n1))
    have ci := index_calls z wr.heap.size 4 w4 (by rw [HZL.out]; decide) (blk_lt Z4.out) HZP.out (row_blk Z4.out)
    rw [HZL.out] at ci
    clear B1 R1 T1 M1
    refine ci.mono ?_
    rintro e w5 ⟨rfl, B5⟩
    have Z5 := hid (blk_below Z4.out B5 (blk_lt Z4.out))
    have R5 := hid (blk_below R4.out B5 (blk_lt R4.out))
    have T5 := hid (blk_below T4.out B5 (blk_lt T4.out))
    have BB5 := hid (bnext B4.out B5)
    have M5 := hid (srow_below M4.out B5 (Nat.le_refl _))
    have cg := HG.out z w5 HZL.out HZS.out BB5.out
    clear ci B5 Z4 R4 T4 B4 M4
    have HNF := hid (show nearF good (b, ls) z = if good z = true ∧ (ls < 0 ∨ indexI z < ls) then (z, indexI z) else (b, ls) from rfl)
    generalize indexI z = ix at *
    generalize good z = gz at *
    generalize wr.heap.size = gb at *
    go_wp2_with (first | (refine wpList_load_blk (by rfl) 44 _ rfl gb rfl 44 (ints z) _ Z5.out Tryz.underlying44 rfl (HYZ.out z HZL.out) ?_))
    refine cg.mono ?_
    rintro e w6 ⟨rfl, B6⟩
    have Z6 := hid (blk_below Z5.out B6 (blk_lt Z5.out))
    have R6 := hid (blk_below R5.out B6 (blk_lt R5.out))
    have T6 := hid (blk_below T5.out B6 (blk_lt T5.out))
    have BB6 := hid (bnext BB5.out B6)
    have M6 := hid (srow_below M5.out B6 (Nat.le_refl _))
    clear cg B6 Z5 R5 T5 BB5 M5
    cases gz with
    | false =>
     have HX := hid (show nearF good (b, ls) z = (b, ls) by rw [HNF.out, if_neg (by simp)])
     have HE3 := hid (HE2.out.trans HX.out)
     clear HNF HX HE2
     go_wp2_with fail
     go_roundg (n - (q + 1))
     case measure => omega
     case rel => exact ⟨q + 1, b, ls, by omega, by omega, by go_num, rfl, ⟨HE3.out, HBL.out⟩, BB6.out, R6.out, T6.out, M6.out⟩
    | true =>
     by_cases h1 : ls < 0
     · have HX := hid (show nearF good (b, ls) z = (z, ix) by rw [HNF.out, if_pos (by exact ⟨rfl, Or.inl h1⟩)])
       have HE3 := hid (HE2.out.trans HX.out)
       have HBS := hid (show (ints z).size = (ints b).size by rw [ints_size, ints_size, HZL.out, HBL.out])
       have HGB := hid (blk_lt R6.out)
       clear HNF HX HE2
       go_wp2_with (first | (refine wpList_load_blk (by rfl) 44 _ rfl gb rfl 44 (ints z) _ Z6.out Tryz.underlying44 rfl (HYZ.out z HZL.out) ?_) | (refine wpList_store_blk rfl 44 _ _ rfl (w.heap.size + 1 + 1) 44 (ints b) (ints z) rfl rfl T6.out HBS.out (HYZ.out z HZL.out) (ints_one z) ?_; intro w7 n0 n1; have T7 := hid n0; have R7 := hid (blk_grown R6.out n1 (fun e => by injection e with e; omega)); have B7 := hid (below_grown BB6.out n1 BB6.out.size (by omega)); have M7 := hid (srow_blk M6.out fun k cur hk he hc => blk_grown hc n1 (fun e => by injection e with e; exact HRN.out k he e)); clear n0 n1))
       go_roundg (n - (q + 1))
       case measure => omega
       case rel => exact ⟨q + 1, z, ix, by omega, by omega, by go_num, rfl, ⟨HE3.out, HZL.out⟩, B7.out, R7.out, T7.out, M7.out⟩
     · have e1 : decide (ls < 0) = false := decide_eq_false h1
       by_cases h2 : ix < ls
       · have HX := hid (show nearF good (b, ls) z = (z, ix) by rw [HNF.out, if_pos (by exact ⟨rfl, Or.inr h2⟩)])
         have HE3 := hid (HE2.out.trans HX.out)
         have HBS := hid (show (ints z).size = (ints b).size by rw [ints_size, ints_size, HZL.out, HBL.out])
         have HGB := hid (blk_lt R6.out)
         clear HNF HX HE2
         go_wp2_with (first | (refine wpList_load_blk (by rfl) 44 _ rfl gb rfl 44 (ints z) _ Z6.out Tryz.underlying44 rfl (HYZ.out z HZL.out) ?_) | (refine wpList_store_blk rfl 44 _ _ rfl (w.heap.size + 1 + 1) 44 (ints b) (ints z) rfl rfl T6.out HBS.out (HYZ.out z HZL.out) (ints_one z) ?_; intro w7 n0 n1; have T7 := hid n0; have R7 := hid (blk_grown R6.out n1 (fun e => by injection e with e; omega)); have B7 := hid (below_grown BB6.out n1 BB6.out.size (by omega)); have M7 := hid (srow_blk M6.out fun k cur hk he hc => blk_grown hc n1 (fun e => by injection e with e; exact HRN.out k he e)); clear n0 n1))
         go_roundg (n - (q + 1))
         case measure => omega
         case rel => exact ⟨q + 1, z, ix, by omega, by omega, by go_num, rfl, ⟨HE3.out, HZL.out⟩, B7.out, R7.out, T7.out, M7.out⟩
       · have e2 : decide (ix < ls) = false := decide_eq_false h2
         have HX := hid (show nearF good (b, ls) z = (b, ls) by rw [HNF.out, if_neg (by intro h; exact h.2.elim h1 h2)])
         have HE3 := hid (HE2.out.trans HX.out)
         clear HNF HX HE2
         go_wp2_with fail
         go_roundg (n - (q + 1))
         case measure => omega
         case rel => exact ⟨q + 1, b, ls, by omega, by omega, by go_num, rfl, ⟨HE3.out, HBL.out⟩, BB6.out, R6.out, T6.out, M6.out⟩
  · obtain rfl : q = n := by omega
    have hE2 : nearL good y = b := by
     rw [HN.out]
     rw [HNN.out, List.take_length] at hE
     rw [hE]
    have HE := hid hE2
    have HBL := hid hbl
    clear hE hE2 hbl
    go_wp2_with (first | (refine wpList_load_blk (by rfl) 44 _ rfl (w.heap.size + 1 + 1) rfl 44 (ints b) _ T.out Tryz.underlying44 rfl (HYZ.out b HBL.out) ?_) | (refine wpList_store_blk rfl 44 _ _ rfl (w.heap.size + 1) 44 #[Value.int .i64 0, .int .i64 0, .int .i64 0, .int .i64 0] (ints b) rfl rfl R.out (HYS.out b HBL.out) (HYZ.out b HBL.out) (ints_one b) ?_; intro w7 n0 n1))
    have B7 := hid (below_grown B.out n1 B.out.size (by omega))
    exact bodyPost_ret (results_cell_row rfl _ _ (w.heap.size + 1) 44 (ints b) (0, 0) _ rfl n0 Tryz.underlying44 rfl (HYZ.out b HBL.out)) rfl ⟨by rw [HE.out], B7.out⟩
end Go.Proofs.YtiigipnfnfpepaaGreatDoor
namespace Go.Proofs.YtiigipnfnfpepaaGreatDoor
open Go.RowKit

def aheadI (kb : List UInt8) (p : List UInt8) : Int := wrap64 (bits .and .u64 (sumL kb (97 :: p)) 7)
set_option maxHeartbeats 2000000 in
theorem tahead_calls (kb p : List UInt8) (w : World) (hk : kb.length = 16) (hl : p.length ≤ 1000) (hS : Signs w) :
 Calls Tryz.prog 89 #[.agg (bytesV kb), .string (str p)] w fun e w' => e = .returned (.int .i64 (aheadI kb p)) ∧ Below w.heap.size w w' := by
 have b0 := (Below.refl w.heap.size w).alloc (Nat.le_refl _) (.cells (bytesV kb) 23)
 have K0 := hid (blk_new w 23 (bytesV kb))
 have B0 := hid b0
 have HKS := hid (key_size hk)
 have cs := sum_calls kb (97 :: p) (w.alloc (.cells (bytesV kb) 23)) hk (by simp; omega) (signs_below hS b0 (signs_size hS))
 have HA := hid (show wrap64 (bits .and .u64 (sumL kb (97 :: p)) 7) = aheadI kb p from rfl)
 rw [show (str (97 :: p)) = str [97] ++ str p from str_append [97] p] at cs
 have hsz := str_size p
 generalize sumL kb (97 :: p) = x at *
 clear b0 hk hS
 go_enter Tryz.func89, Tryz.ntmps89
 go_wp2_with (first | (refine wpList_load_blk (by rfl) 23 _ rfl w.heap.size rfl 23 (bytesV kb) _ K0.out Tryz.underlying23 rfl HKS.out ?_))
 refine cs.mono ?_
 rintro e w1 ⟨rfl, B1⟩
 have B2 := hid (bnext B0.out B1)
 clear cs B1
 go_wp2_with fail
 go_ret
 exact ⟨ret_i64 HA.out, B2.out⟩

abbrev pkV (n : Nat) (s : Shp) : Array Value := ints ((n : Int) :: s.flat)
section
variable {w : World} {g : Nat} {t : TypeId} {s : Shp} {n : Nat}
theorem pk_num (hb : Blk w g t (pkV n s)) : w.cell? ⟨g, 0, none⟩ = some (.int .i64 n) := by rw [blk_cell hb, ints_get]; rfl
theorem pk_sides (hb : Blk w g t (pkV n s)) (h : SOk s) : w.rangeAt g 1 (s.sd.map (.int .i64)) := fun j v hj => by
 have hl : j < s.sd.length := by simpa using (List.getElem?_eq_some_iff.1 hj).1
 rw [blk_cell hb, ints_get, Nat.add_comm 1 j, List.getElem?_cons_succ, shp_side h (by rw [← h.sl]; exact hl), ← hj, List.getElem?_map, List.getElem?_eq_getElem hl, List.getD_eq_getElem?_getD, List.getElem?_eq_getElem hl]
 rfl
theorem pk_y (hb : Blk w g t (pkV n s)) (h : SOk s) {b : Nat} (hb8 : b < 8) : w.rangeAt g (9 + b * 4) ((s.ys.getD b []).map (.int .i64)) := fun j v hj => by
 have hl : j < (s.ys.getD b []).length := by simpa using (List.getElem?_eq_some_iff.1 hj).1
 rw [blk_cell hb, ints_get, show 9 + b * 4 + j = 8 + (b * 4 + j) + 1 by omega, List.getElem?_cons_succ, shp_y h hb8 (by rw [← shp_ylen h hb8]; exact hl), ← hj, List.getElem?_map, List.getElem?_eq_getElem hl, List.getD_eq_getElem?_getD (l := s.ys.getD b []), List.getElem?_eq_getElem hl]
 rfl
theorem pk_shape (hb : Blk w g t (pkV n s)) : w.rangeAt g 1 (shV s).toList := fun j v hj => by
 rw [Array.getElem?_toList] at hj
 rw [blk_cell hb, ints_get, Nat.add_comm 1 j, List.getElem?_cons_succ, ← hj, ints_get]
end
theorem pk_size {s : Shp} (h : SOk s) (n : Nat) : (Tryz.prog.info? 49).map (·.size) = some (pkV n s).size := by rw [ints_size, List.length_cons, shp_len h]; kernel_rfl
def ownTo (n : Nat) (s : Shp) (i : Nat) : List UInt8 := [111, valB ((n : Int) / 256), valB ((n : Int) % 256)] ++ (s.sd.take i).map valB
def ownB (kb : List UInt8) (n : Nat) (s : Shp) : List UInt8 := ownTo n s 8 ++ (bytesY (s.ys.getD (bandI kb n).toNat []) 4 ++ bytesY (s.ys.getD ((bandsL (bandI kb n).toNat).getD 6 0).toNat []) 4)
def ownI (kb : List UInt8) (n : Nat) (s : Shp) : Int := wrap64 (bits .and .u64 (sumL kb (ownB kb n s)) 7)
theorem ownTo_succ (n : Nat) (s : Shp) {i : Nat} (hi : i < s.sd.length) : ownTo n s (i + 1) = ownTo n s i ++ [valB (s.sd.getD i 0)] := by
 unfold ownTo
 rw [List.take_add_one, List.getElem?_eq_getElem hi, List.map_append, ← List.append_assoc, List.getD_eq_getElem?_getD, List.getElem?_eq_getElem hi]
 rfl
theorem ownTo_len (n : Nat) (s : Shp) (i : Nat) : (ownTo n s i).length ≤ i + 3 := by
 unfold ownTo; simp; omega

set_option maxRecDepth 20000 in
set_option maxHeartbeats 4000000 in
theorem own_calls (kb : List UInt8) (n : Nat) (s : Shp) (w : World) (hk : kb.length = 16) (hn : n ≤ 5000) (hS : Signs w) (h : SK s) :
 Calls Tryz.prog 88 #[.agg (bytesV kb), .agg (pkV n s)] w fun e w' => e = .returned (.int .i64 (ownI kb n s)) ∧ Below w.heap.size w w' := by
 have k0 := blk_alloc (blk_new w 23 (bytesV kb)) (.cells (pkV n s) 49)
 have p0 := blk_new (w.alloc (.cells (bytesV kb) 23)) 49 (pkV n s)
 rw [World.size_alloc] at p0
 have b0 := ((Below.refl w.heap.size w).alloc (Nat.le_refl _) (.cells (bytesV kb) 23)).alloc (by simp) (.cells (pkV n s) 49)
 have c0 := pk_num p0
 have hnz : (n : Int) ≤ 5000 := by omega
 have hn0 : (0 : Int) ≤ n := by omega
 have HKS := hid (key_size hk)
 have HSS := hid (side_size h.ok.sl)
 have K0 := hid k0
 have P0 := hid p0
 have B0 := hid b0
 have HS := hid h
 have HG := hid hS
 have HK := hid hk
 have HN := hid hn
 have S0 := hid (pk_sides p0 h.ok)
 have nn : Blk (((w.alloc (.cells (bytesV kb) 23)).alloc (.cells (pkV n s) 49)).alloc (.cells #[.int .u8 ((n : Int) / 256), .int .u8 ((n : Int) % 256)] 5)) ((w.alloc (.cells (bytesV kb) 23)).alloc (.cells (pkV n s) 49)).heap.size 5 (bytesV [valB ((n : Int) / 256), valB ((n : Int) % 256)]) := by
  have e1 : Value.int .u8 ((n : Int) / 256) = .int .u8 ((valB ((n : Int) / 256)).toNat : Int) := by rw [valB_of (by omega) (by omega)]
  rw [u8_val (n : Int), e1]
  exact blk_new _ _ _
 have hc := conv_part nn 0 2 2 (by simp)
 rw [World.size_alloc, World.size_alloc] at hc
 have K1 := hid (blk_alloc k0 (.cells #[.int .u8 ((n : Int) / 256), .int .u8 ((n : Int) % 256)] 5))
 have P1 := hid (blk_alloc p0 (.cells #[.int .u8 ((n : Int) / 256), .int .u8 ((n : Int) % 256)] 5))
 have B1 := hid (b0.alloc b0.size (.cells #[.int .u8 ((n : Int) / 256), .int .u8 ((n : Int) % 256)] 5))
 have S1 := hid (pk_sides (blk_alloc p0 (.cells #[.int .u8 ((n : Int) / 256), .int .u8 ((n : Int) % 256)] 5)) h.ok)
 have hif := info_parts (P := Tryz.prog) (e := 3) (z := .int .i64 0) (size := 1) (bytes := 8) (by kernel_rfl)
 obtain ⟨infI, hinI, hzI, hsI, hbI⟩ := hif
 have HX := hid (fun (i : Nat) (hi : i < 8) (W : World) => run_index_any (P := Tryz.prog) (t := 42) (e := 3) Tryz.underlying42 (by kernel_rfl) hinI hsI (s.sd.map (Value.int .i64)).toArray (.int .i64 (s.sd.getD i 0)) i (by rw [show (s.sd.map (Value.int .i64)).toArray = ints s.sd from rfl, ints_get, List.getD_eq_getElem?_getD, List.getElem?_eq_getElem (by rw [h.ok.sl]; exact hi)]; rfl) hi W)
 have HSD := hid (fun i (hi : i < 8) => sd_in h.ok hi)
 have HSL := hid h.ok.sl
 clear k0 p0 b0 hS hk hn h nn hinI hzI hsI hbI K0 P0 B0 S0
 go_enter Tryz.func88, Tryz.ntmps88
 go_wp2_with (first | (refine wpList_load_mid rfl 42 _ rfl (w.heap.size + 1) 1 rfl _ _ S1.out Tryz.underlying42 rfl HSS.out ?_))
 generalize ((w.alloc (.cells (bytesV kb) 23)).alloc (.cells (pkV n s) 49)).alloc (.cells #[.int .u8 ((n : Int) / 256), .int .u8 ((n : Int) % 256)] 5) = w1 at *
 go_loopg [5, 22] 8 (fun gg s5 s22 wr => ∃ i : Nat, i ≤ 8 ∧ 8 - i ≤ gg ∧ s22 = .int .i64 i ∧ s5 = .string (str (ownTo n s i)) ∧ Aside (Below w.heap.size w wr) ∧ Aside (Blk wr w.heap.size 23 (bytesV kb)) ∧ Aside (Blk wr (w.heap.size + 1) 49 (pkV n s)))
 case atStart => exact ⟨0, Nat.zero_le _, by omega, rfl, by rw [show ownTo n s 0 = [111] ++ [valB ((n : Int) / 256), valB ((n : Int) % 256)] by simp [ownTo], str_append], B1.out, K1.out, P1.out⟩
 case round =>
  clear B1 K1 P1 S1 hc c0
  obtain ⟨i, hi, hgi, rfl, rfl, B, KK, P⟩ := hrel
  by_cases hlt : i < 8
  · have hiz : (i : Int) < 8 := by omega
    have hi0 : (0 : Int) ≤ i := by omega
    have hx := fun W => HX.out i hlt W
    obtain ⟨hx0, hx1⟩ := HSD.out i hlt
    have HOS := hid (ownTo_succ n s (i := i) (by rw [HSL.out]; exact hlt))
    generalize s.sd.getD i 0 = x at *
    have nn : Blk (wr.alloc (.cells #[.int .u8 x] 5)) wr.heap.size 5 (bytesV [valB x]) := by
     have e1 : Value.int .u8 x = .int .u8 ((valB x).toNat : Int) := by rw [valB_of (by omega) (by omega)]
     rw [e1]
     exact blk_new _ _ _
    have hc := conv_part nn 0 1 1 (by simp)
    have B2 := hid (B.out.alloc B.out.size (.cells #[.int .u8 x] 5))
    have K2 := hid (blk_alloc KK.out (.cells #[.int .u8 x] 5))
    have P2 := hid (blk_alloc P.out (.cells #[.int .u8 x] 5))
    have hsz1 := ownTo_len n s i
    have hsz2 := str_size (ownTo n s i)
    have hsz3 : (ownTo n s i).length ≤ 20 := by omega
    have hsz4 : (str [valB x]).size = 1 := str_size _
    clear nn hsz1 B KK P
    go_wp2_with fail
    go_roundg (8 - (i + 1))
    case measure => omega
    case rel => exact ⟨i + 1, by omega, by omega, by go_num, by rw [HOS.out, str_append], B2.out, K2.out, P2.out⟩
  · obtain rfl : i = 8 := by omega
    have cb0 := bands_calls kb n wr HK.out (by have := HN.out; omega) (signs_below HG.out B.out (signs_size HG.out))
    obtain ⟨ho0, ho1⟩ := bandI_in kb n
    obtain ⟨o, hoo⟩ : ∃ o : Nat, bandI kb n = o := ⟨(bandI kb n).toNat, by omega⟩
    have cbd := fun W hS => band_calls kb n W HK.out (by have := HN.out; omega) hS
    have HOB : Hid (ownB kb n s = ownTo n s 8 ++ (bytesY (s.ys.getD (bandI kb n).toNat []) 4 ++ bytesY (s.ys.getD ((bandsL (bandI kb n).toNat).getD 6 0).toNat []) 4)) := hid rfl
    rw [hoo] at cb0 HOB cbd ho0 ho1
    rw [Int.toNat_natCast] at cb0 HOB
    have ho8 : o < 8 := by omega
    obtain ⟨f, hff⟩ : ∃ f : Nat, (bandsL o).getD 6 0 = f := by
     rw [bandsL_get o (by decide)]
     split
     · exact ⟨6, rfl⟩
     · exact ⟨7, rfl⟩
    have hf8 : f < 8 := by
     rw [bandsL_get o (by decide)] at hff
     split at hff <;> omega
    rw [hff, Int.toNat_natCast] at HOB
    have hif := info_parts (P := Tryz.prog) (e := 3) (z := .int .i64 0) (size := 1) (bytes := 8) (by kernel_rfl)
    obtain ⟨infJ, hinJ, hzJ, hsJ, hbJ⟩ := hif
    have hx6 := fun (W : World) => run_index_any (P := Tryz.prog) (t := 153) (e := 3) Tryz.underlying153 (by kernel_rfl) hinJ hsJ (ints (bandsL o)) (.int .i64 f) 6 (by rw [ints_get, ← hff, List.getD_eq_getElem?_getD, List.getElem?_eq_getElem (by simp [bandsL])]; rfl) (by decide) W
    rw [show ((6 : Nat) : Int) = 6 from rfl] at hx6
    have hpo := sin_get (sk_in HS.out) ho8
    have hpf := sin_get (sk_in HS.out) hf8
    have HPo := hid (pul_size hpo.len)
    have HPf := hid (pul_size hpf.len)
    have HO8 := hid ho8
    have HF8 := hid hf8
    have cy1 := fun W => bytes_calls (s.ys.getD o []) W hpo
    have cy2 := fun W => bytes_calls (s.ys.getD f []) W hpf
    obtain ⟨yo, hyo⟩ : ∃ y, s.ys.getD o [] = y := ⟨_, rfl⟩
    obtain ⟨yf, hyf⟩ : ∃ y, s.ys.getD f [] = y := ⟨_, rfl⟩
    have hso : (str (bytesY yo 4)).size = 4 := by rw [str_size, bytesY_len (by rw [← hyo]; exact hpo.len) (Nat.le_refl _)]
    have hsf : (str (bytesY yf 4)).size = 4 := by rw [str_size, bytesY_len (by rw [← hyf]; exact hpf.len) (Nat.le_refl _)]
    have hsf2 : (str (bytesY yo 4) ++ str (bytesY yf 4)).size = 8 := by rw [← str_append, str_size, List.length_append, ← str_size, ← str_size, hso, hsf]
    have hst := str_size (ownTo n s 8)
    have hst2 := ownTo_len n s 8
    have hbig : ¬ (9223372036854775807 < (ownTo n s 8).length + 8) := by omega
    have HBL := hid (show (ownB kb n s).length ≤ 10000 by
     rw [HOB.out, List.length_append, List.length_append, hyo, hyf, ← str_size (bytesY yo 4), ← str_size (bytesY yf 4), hso, hsf]; omega)
    rw [hyo, hyf] at HOB
    rw [hyo] at cy1 HPo
    rw [hyf] at cy2 HPf
    have HYO := hid hyo
    have HYF := hid hyf
    have HOI : Hid (wrap64 (bits .and .u64 (sumL kb (ownB kb n s)) 7) = ownI kb n s) := hid rfl
    have cn := pk_num P.out
    have hoz : (o : Int) < 8 := by omega
    have hoz0 : (0 : Int) ≤ o := by omega
    have hfz : (f : Int) < 8 := by omega
    have hfz0 : (0 : Int) ≤ f := by omega
    have HKB := hid (blk_lt KK.out)
    clear hoo hff hinJ hzJ hsJ hbJ hpo hpf hyo hyf ho0 ho1 ho8 hf8 HX
    go_wp2_with (first | (refine wpList_load_blk (by rfl) 23 _ rfl w.heap.size rfl 23 (bytesV kb) _ KK.out Tryz.underlying23 rfl HKS.out ?_))
    refine cb0.mono ?_
    rintro e w2 ⟨rfl, B2⟩
    have K2 := hid (blk_below KK.out B2 (blk_lt KK.out))
    have P2 := hid (blk_below P.out B2 (blk_lt P.out))
    have BB2 := hid (bnext B.out B2)
    have k2 := K2.out
    have n2 := pk_num P2.out
    have yo2 : w2.rangeAt (w.heap.size + 1) (9 + o * 4) (yo.map (Value.int .i64)) := HYO.out ▸ pk_y P2.out HS.out.ok HO8.out
    have yf2 : w2.rangeAt (w.heap.size + 1) (9 + f * 4) (yf.map (Value.int .i64)) := HYF.out ▸ pk_y P2.out HS.out.ok HF8.out
    clear cb0 B2 KK P B cn
    go_wp2_with fail
    refine plain_region (S := (fun L W => (L.getD 4 true = true ∨ Blk W w.heap.size 23 (bytesV kb)) ∧ (L.getD 4 true = true ∨ W.cell? ⟨w.heap.size + 1, 0, none⟩ = some (.int .i64 (n : Int))) ∧ (L.getD 9 true = true ∨ W.rangeAt (w.heap.size + 1) (9 + o * 4) (yo.map (Value.int .i64))) ∧ (L.getD 15 true = true ∨ W.rangeAt (w.heap.size + 1) (9 + f * 4) (yf.map (Value.int .i64))))) (by kernel_rfl) (⟨Or.inr k2, Or.inr n2, Or.inr yo2, Or.inr yf2⟩) (fun hHeld => ?_)
    clear hHeld
    refine aW 0 ⟨Or.inr k2, Or.inr n2, Or.inr yo2, Or.inr yf2⟩ ?_
    refine aB 1 4 rfl (fun _ _ h k => rL k.1 h) (yields_blk (by rfl) 23 _ rfl w.heap.size rfl 23 (bytesV kb) _ (fun _ h => h) Tryz.underlying23 rfl HKS.out) ⟨Or.inr k2, Or.inr n2, Or.inr yo2, Or.inr yf2⟩ ?_
    refine aW 2 ⟨Or.inr k2, Or.inr n2, Or.inr yo2, Or.inr yf2⟩ ?_
    refine aL 3 4 (fun _ _ h k => rL k.2.1 h) ⟨Or.inr k2, Or.inr n2, Or.inr yo2, Or.inr yf2⟩ ?_
    refine aW 5 ⟨Or.inr k2, Or.inr n2, Or.inr yo2, Or.inr yf2⟩ ?_
    refine aW 6 ⟨Or.inr k2, Or.inr n2, Or.inr yo2, Or.inr yf2⟩ ?_
    refine aW 10 ⟨Or.inr k2, Or.inr n2, Or.inr yo2, Or.inr yf2⟩ ?_
    refine aW 11 ⟨Or.inr k2, Or.inr n2, Or.inr yo2, Or.inr yf2⟩ ?_
    refine aW 12 ⟨Or.inr k2, Or.inr n2, Or.inr yo2, Or.inr yf2⟩ ?_
    refine aW 13 ⟨Or.inr k2, Or.inr n2, Or.inr yo2, Or.inr yf2⟩ ?_
    refine aB 14 15 rfl (fun _ _ h k => rL k.2.2.2 h) (yieldsIf_load_mid (by rfl) 44 _ rfl (w.heap.size + 1) (9 + f * 4) rfl _ _ (fun _ h => h) Tryz.underlying44 rfl HPf.out) ⟨Or.inr k2, Or.inr n2, Or.inr yo2, Or.inr yf2⟩ ?_
    refine aR 4 (fun K hK => ?_)
    go_simp
    refine (cbd _ (show Signs w2.drew from signs_below HG.out (below_draws BB2.out 1) (signs_size HG.out))).mono ?_
    rintro e w3 ⟨rfl, B3⟩
    have P3 := hid (blk_below (blk_drew P2.out) B3 (blk_lt P2.out))
    have K3 := hid (blk_below (blk_drew K2.out) B3 (blk_lt K2.out))
    have BB3 := hid (bnext (below_draws BB2.out 1) B3)
    clear B3
    have yo2 : w3.rangeAt (w.heap.size + 1) (9 + o * 4) (yo.map (Value.int .i64)) := HYO.out ▸ pk_y P3.out HS.out.ok HO8.out
    have yf2 : w3.rangeAt (w.heap.size + 1) (9 + f * 4) (yf.map (Value.int .i64)) := HYF.out ▸ pk_y P3.out HS.out.ok HF8.out
    refine hK.out _ _ (⟨Or.inl (by rfl), Or.inl (by rfl), Or.inr yo2, Or.inr yf2⟩) (fun hHeld => ?_)
    clear hK K
    try simp only [Act.put, tA, tB, tC]
    clear hHeld
    refine aW 7 ⟨Or.inl (by rfl), Or.inl (by rfl), Or.inr yo2, Or.inr yf2⟩ ?_
    refine aB 8 9 rfl (fun _ _ h k => rL k.2.2.1 h) (yieldsIf_load_mid (by rfl) 44 _ rfl (w.heap.size + 1) (9 + o * 4) rfl _ _ (fun _ h => h) Tryz.underlying44 rfl HPo.out) ⟨Or.inl (by rfl), Or.inl (by rfl), Or.inr yo2, Or.inr yf2⟩ ?_
    refine aR 9 (fun K hK => ?_)
    go_simp
    refine (cy1 _).mono ?_
    rintro e w4 ⟨rfl, B4⟩
    have P4 := hid (blk_below P3.out B4 (blk_lt P3.out))
    have K4 := hid (blk_below K3.out B4 (blk_lt K3.out))
    have BB4 := hid (bnext BB3.out B4)
    clear B4
    have yf2 : w4.rangeAt (w.heap.size + 1) (9 + f * 4) (yf.map (Value.int .i64)) := HYF.out ▸ pk_y P4.out HS.out.ok HF8.out
    refine hK.out _ _ (⟨Or.inl (by rfl), Or.inl (by rfl), Or.inl (by rfl), Or.inr yf2⟩) (fun hHeld => ?_)
    clear hK K
    try simp only [Act.put, tA, tB, tC]
    clear hHeld
    refine aR 15 (fun K hK => ?_)
    go_simp
    refine (cy2 _).mono ?_
    rintro e w5 ⟨rfl, B5⟩
    have K5 := hid (blk_below K4.out B5 (blk_lt K4.out))
    have BB5 := hid (bnext BB4.out B5)
    clear B5
    refine hK.out _ _ (⟨Or.inl (by rfl), Or.inl (by rfl), Or.inl (by rfl), Or.inl (by rfl)⟩) (fun hHeld => ?_)
    clear hK K
    try simp only [Act.put, tA, tB, tC]
    clear hHeld
    refine aW 16 ⟨Or.inl (by rfl), Or.inl (by rfl), Or.inl (by rfl), Or.inl (by rfl)⟩ ?_
    refine aW 17 ⟨Or.inl (by rfl), Or.inl (by rfl), Or.inl (by rfl), Or.inl (by rfl)⟩ ?_
    refine aW 18 ⟨Or.inl (by rfl), Or.inl (by rfl), Or.inl (by rfl), Or.inl (by rfl)⟩ ?_
    refine anyU_done (by kernel_rfl) ?_ _
    have cs := sum_calls kb (ownB kb n s) w5 HK.out HBL.out (signs_below HG.out BB5.out (signs_size HG.out))
    rw [HOB.out, str_append, str_append, ← HOB.out] at cs
    generalize sumL kb (ownB kb n s) = x at *
    clear yo2 yf2 k2 n2 cy1 cy2 cbd
    go_wp2_with (first | (refine wpList_load_blk (by rfl) 23 _ rfl w.heap.size rfl 23 (bytesV kb) _ K5.out Tryz.underlying23 rfl HKS.out ?_))
    refine cs.mono ?_
    rintro e w6 ⟨rfl, B6⟩
    have BB6 := hid (bnext BB5.out B6)
    clear cs B6
    go_wp2_with fail
    go_ret
    exact ⟨ret_i64 HOI.out, BB6.out⟩
end Go.Proofs.YtiigipnfnfpepaaGreatDoor
