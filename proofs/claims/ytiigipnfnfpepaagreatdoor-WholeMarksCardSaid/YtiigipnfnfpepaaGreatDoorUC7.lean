/- Rows of things of several numbers each. How many pulses each band has (layer 16): the queue's methods. How many pulses each band has (layer 16): Pulses. -/
import Derived.Test.YtiigipnfnfpepaaGreatDoorUC5
import Derived.Test.YtiigipnfnfpepaaGreatDoorUC6
import Derived.Test.YtiigipnfnfpepaaGreatDoorUC3
import Derived.Test.YtiigipnfnfpepaaGreatDoorUA
namespace Go.Proofs.YtiigipnfnfpepaaGreatDoor
open Go.RowKit

theorem row_len {sz : Nat} : ∀ {L : List (List Int)}, (∀ x ∈ L, x.length = sz) → L.flatten.length = L.length * sz
 | [], _ => by simp
 | x :: L, h => by
  rw [List.flatten_cons, List.length_append, row_len (fun y hy => h y (List.mem_cons_of_mem _ hy)), h x List.mem_cons_self, List.length_cons, Nat.add_mul]
  omega
theorem row_at {sz : Nat} : ∀ {L : List (List Int)}, (∀ x ∈ L, x.length = sz) → ∀ i j, i < L.length → j < sz → L.flatten[i * sz + j]? = some ((L.getD i []).getD j 0)
 | [], _, i, _, hi, _ => absurd hi (Nat.not_lt_zero i)
 | x :: L, h, 0, j, _, hj => by
  have hx := h x List.mem_cons_self
  rw [List.flatten_cons, Nat.zero_mul, Nat.zero_add, List.getElem?_append_left (by omega), List.getElem?_eq_getElem (by omega)]
  rw [List.getD_cons_zero, List.getD_eq_getElem?_getD, List.getElem?_eq_getElem (show j < x.length by omega)]
  rfl
 | x :: L, h, i + 1, j, hi, hj => by
  have hx := h x List.mem_cons_self
  rw [List.flatten_cons, List.getElem?_append_right (by rw [Nat.add_mul]; omega), show (i + 1) * sz + j - x.length = i * sz + j by rw [Nat.add_mul]; omega,
   row_at (fun y hy => h y (List.mem_cons_of_mem _ hy)) i j (by simpa using hi) hj, List.getD_cons_succ]

structure SRow (w : World) (base : Nat) (e : TypeId) (sz : Nat) (v : Value) (L : List (List Int)) : Prop where
 wid : ∀ x ∈ L, x.length = sz
 row : (v = .slice none 0 0 ∧ L = []) ∨ ∃ g cap cur, v = .slice (some ⟨g, 0, none⟩) L.length cap ∧ base ≤ g ∧ Blk w g e cur ∧ L.length ≤ cap ∧ cap ≤ maxLen ∧ cur.size = cap * sz ∧
  ∀ i j, i < L.length → j < sz → cur[i * sz + j]? = some (.int .i64 ((L.getD i []).getD j 0))
section
variable {w : World} {base : Nat} {e : TypeId} {sz : Nat} {v : Value} {L : List (List Int)}
theorem srow_nil (w : World) (base : Nat) (e : TypeId) (sz : Nat) : SRow w base e sz (.slice none 0 0) [] := ⟨(fun _ h => by cases h), .inl ⟨rfl, rfl⟩⟩
theorem srow_owns (h : SRow w base e sz v L) (hs : 0 < sz) : w.ownsRow base e sz v L.length (L.flatten.map (.int .i64)) := by
 refine ⟨by rw [List.length_map, row_len h.wid], ?_⟩
 rcases h.row with ⟨rfl, rfl⟩ | ⟨g, cap, cur, rfl, hb, hg, hc, hm, hcs, hat⟩
 · exact .inl ⟨rfl, rfl⟩
 · refine .inr ⟨g, cap, cur, rfl, hb, hg, hc, hm, hcs, ?_⟩
   apply List.ext_getElem?
   intro k
   by_cases hk : k < L.length * sz
   · have hi : k / sz < L.length := Nat.div_lt_of_lt_mul (by rw [Nat.mul_comm]; exact hk)
     have hj : k % sz < sz := Nat.mod_lt _ hs
     have e1 : k / sz * sz + k % sz = k := by rw [Nat.mul_comm]; exact Nat.div_add_mod k sz
     have h1 := hat _ _ hi hj
     have h2 := row_at h.wid _ _ hi hj
     rw [e1] at h1 h2
     rw [List.getElem?_take_of_lt hk, Array.getElem?_toList, h1, List.getElem?_map, h2]
     rfl
   · rw [List.getElem?_eq_none (by rw [List.length_take]; omega), List.getElem?_eq_none (by rw [List.length_map, row_len h.wid]; omega)]
theorem srow_of (hw : ∀ x ∈ L, x.length = sz) (h : w.ownsRow base e sz v L.length (L.flatten.map (.int .i64))) : SRow w base e sz v L := by
 refine ⟨hw, ?_⟩
 rcases h.2 with ⟨rfl, h0⟩ | ⟨g, cap, cur, rfl, hb, hg, hc, hm, hcs, ht⟩
 · exact .inl ⟨rfl, List.eq_nil_of_length_eq_zero h0⟩
 · refine .inr ⟨g, cap, cur, rfl, hb, hg, hc, hm, hcs, ?_⟩
   intro i j hi hj
   have h2 := row_at hw i j hi hj
   have h3 : (L.flatten.map (Value.int .i64))[i * sz + j]? = some (.int .i64 ((L.getD i []).getD j 0)) := by rw [List.getElem?_map, h2]; rfl
   have hlt : i * sz + j < L.length * sz := by
    have := Nat.mul_le_mul_right sz (show i + 1 ≤ L.length by omega)
    rw [Nat.add_mul] at this
    omega
   rw [← ht, List.getElem?_take_of_lt hlt, Array.getElem?_toList] at h3
   exact h3
theorem srow_blk (h : SRow w base e sz v L) {w' : World} (hk : ∀ g cur, base ≤ g → v.ownBlock = some g → Blk w g e cur → Blk w' g e cur) : SRow w' base e sz v L := by
 refine ⟨h.wid, ?_⟩
 rcases h.row with h0 | ⟨g, cap, cur, rfl, hb, hg, r⟩
 · exact .inl h0
 · exact .inr ⟨g, cap, cur, rfl, hb, hk g cur hb rfl hg, r⟩
theorem srow_alloc (h : SRow w base e sz v L) (o : Obj) : SRow (w.alloc o) base e sz v L := srow_blk h fun _ _ _ _ hg => blk_alloc hg o
theorem srow_draws (h : SRow w base e sz v L) (n : Nat) : SRow (w.drewN n) base e sz v L := srow_blk h fun _ _ _ _ hg => blk_draws hg n
theorem srow_below {w' : World} {B : Nat} (h : SRow w base e sz v L) (hb : Below B w w') (hB : w.heap.size ≤ B) : SRow w' base e sz v L := srow_blk h fun _ _ _ _ hg => blk_below hg hb (Nat.lt_of_lt_of_le (blk_lt hg) hB)
theorem srow_far (h : SRow w base e sz v L) {b : Nat} (hb : b < base) (i : Nat) (u : Value) : SRow (w.setCell ⟨b, i, none⟩ u) base e sz v L := srow_blk h fun _ _ hg _ hk => blk_far hk (by omega) u
theorem srow_lt (h : SRow w base e sz v L) : ∀ k, v.ownBlock = some k → base ≤ k ∧ k < w.heap.size := fun k hk => by
 rcases h.row with ⟨rfl, _⟩ | ⟨g, cap, cur, rfl, hb, hg, _⟩
 · simp [Value.ownBlock] at hk
 · simp only [Value.ownBlock, Option.some.injEq] at hk
   subst hk
   exact ⟨hb, blk_lt hg⟩
theorem srow_at (h : SRow w base e sz v L) {i : Nat} (hi : i < L.length) : ∃ g cap, v = .slice (some ⟨g, 0, none⟩) L.length cap ∧ base ≤ g ∧ g < w.heap.size ∧ w.rangeAt g (i * sz) ((L.getD i []).map (.int .i64)) := by
 rcases h.row with ⟨rfl, rfl⟩ | ⟨g, cap, cur, rfl, hb, hg, hc, hm, hcs, hat⟩
 · exact absurd hi (Nat.not_lt_zero i)
 · refine ⟨g, cap, rfl, hb, blk_lt hg, ?_⟩
   intro j u hj
   have hx := h.wid _ (show L.getD i [] ∈ L by rw [List.getD_eq_getElem?_getD, List.getElem?_eq_getElem hi]; exact List.getElem_mem hi)
   have hl : j < (L.getD i []).length := by
    have := (List.getElem?_eq_some_iff.1 hj).1
    simpa using this
   rw [blk_cell hg, hat i j hi (by omega), ← hj, List.getElem?_map, List.getElem?_eq_getElem hl, List.getD_eq_getElem?_getD (l := L.getD i []), List.getElem?_eq_getElem hl]
   rfl
theorem srow_there {g n cap : Nat} (h : SRow w base e sz (.slice (some ⟨g, 0, none⟩) n cap) L) {i : Nat} (hi : i < L.length) : w.there g (i * sz) sz := by
 rcases h.row with ⟨h0, _⟩ | ⟨g', cap', cur, h1, hb, hg, hc, hm, hcs, hat⟩
 · cases h0
 · cases h1
   intro j hj
   rw [blk_cell hg, hat i j hi hj]
   exact ⟨rfl, blk_free hg _⟩
theorem srow_set {g n cap : Nat} (h : SRow w base e sz (.slice (some ⟨g, 0, none⟩) n cap) L) {i : Nat} (hi : i < L.length) {x : List Int} (hx : x.length = sz) :
 SRow (w.setCells g (i * sz) (x.map (.int .i64))) base e sz (.slice (some ⟨g, 0, none⟩) n cap) (L.set i x) ∧ w.grownBy (w.setCells g (i * sz) (x.map (.int .i64))) (some g) := by
 rcases h.row with ⟨h0, _⟩ | ⟨g', cap', cur, h1, hb, hg, hc, hm, hcs, hat⟩
 · cases h0
 · cases h1
   have hle : i * sz + sz ≤ cur.size := by
    have := Nat.mul_le_mul_right sz (show i + 1 ≤ cap by omega)
    rw [Nat.add_mul] at this
    omega
   obtain ⟨cs, k1, k2, k3, k4, k5, k6⟩ := setCells_blk (x.map (.int .i64)) (i * sz) w hg (by rw [List.length_map]; omega)
   refine ⟨⟨fun y hy => ?_, .inr ⟨g, cap, cs, by rw [List.length_set], hb, k1, by rw [List.length_set]; exact hc, hm, k3.trans hcs, ?_⟩⟩, k2⟩
   · rcases List.mem_or_eq_of_mem_set hy with h2 | rfl
     · exact h.wid y h2
     · exact hx
   · intro p q hp hq
     rw [List.length_set] at hp
     by_cases hpi : p = i
     · subst hpi
       rw [k5 q (by rw [List.length_map]; omega), List.getElem?_map, List.getElem?_eq_getElem (show q < x.length by omega)]
       have e1 : (L.set p x).getD p [] = x := by rw [List.getD_eq_getElem?_getD, List.getElem?_set_self hi]; rfl
       rw [e1, List.getD_eq_getElem?_getD, List.getElem?_eq_getElem (show q < x.length by omega)]
       rfl
     · have e1 : (L.set i x).getD p [] = L.getD p [] := by rw [List.getD_eq_getElem?_getD, List.getElem?_set_ne (fun h => hpi h.symm), List.getD_eq_getElem?_getD]
       rw [e1, ← hat p q hp hq]
       rcases Nat.lt_or_gt_of_ne hpi with h2 | h2
       · have := Nat.mul_le_mul_right sz (show p + 1 ≤ i by omega)
         rw [Nat.add_mul] at this
         exact k4 _ (by omega)
       · have := Nat.mul_le_mul_right sz (show i + 1 ≤ p by omega)
         rw [Nat.add_mul] at this
         exact k6 _ (by rw [List.length_map]; omega)
theorem srow_pop {x : List Int} (h : SRow w base e sz v (L ++ [x])) : ∃ g cap, v = .slice (some ⟨g, 0, none⟩) (L.length + 1) cap ∧ base ≤ g ∧ g < w.heap.size ∧ w.rangeAt g (L.length * sz) (x.map (.int .i64)) ∧ L.length + 1 ≤ cap ∧ SRow w base e sz (.slice (some ⟨g, 0, none⟩) L.length cap) L := by
 have hl : (L ++ [x]).length = L.length + 1 := by simp
 obtain ⟨g, cap, rfl, hb, hg, hr⟩ := srow_at h (i := L.length) (by omega)
 have e1 : (L ++ [x]).getD L.length [] = x := by simp [List.getD_eq_getElem?_getD]
 rw [e1] at hr
 refine ⟨g, cap, by rw [hl], hb, hg, hr, ?_, fun y hy => h.wid y (List.mem_append_left _ hy), ?_⟩
 · rcases h.row with ⟨h0, _⟩ | ⟨g', cap', cur, h1, hb, hg, hc, hm, hcs, hat⟩
   · cases h0
   · cases h1
     omega
 · rcases h.row with ⟨h0, _⟩ | ⟨g', cap', cur, h1, hb, hg, hc, hm, hcs, hat⟩
   · cases h0
   · cases h1
     refine .inr ⟨g, cap, cur, rfl, hb, hg, by omega, hm, hcs, ?_⟩
     intro i j hi hj
     rw [hat i j (by omega) hj, List.getD_eq_getElem?_getD (l := L ++ [x]), List.getElem?_append_left hi, List.getD_eq_getElem?_getD (l := L)]
theorem srow_append {P : Program} {t : TypeId} {bytes gx : Nat} {z : Value} (h : SRow w base e sz v L) (hs : 0 < sz) (hi : ∃ i : TypeInfo, P.info? e = some i ∧ i.zero = some z ∧ i.size = sz ∧ i.bytes = bytes) (hz : z.cells.size = sz) (ht : P.underlying t = some (.slice e))
 {x : List Int} (hx : x.length = sz) (hb : Blk w gx e (ints x)) (hL : L.length ≤ 1000000) (hby : bytes ≤ 64) (hbase : base ≤ w.heap.size) (ty : TypeId) :
 ∃ v' w', (Builtin.append_ #[t, t] ty #[v, .slice (some ⟨gx, 0, none⟩) 1 1]).run P w = .ok v' w' ∧ SRow w' base e sz v' (L ++ [x]) ∧ w.grownBy w' v.ownBlock ∧ (v'.ownBlock = v.ownBlock ∨ v'.ownBlock = some w.heap.size) := by
 obtain ⟨i, hi, hz1, hs1, hb1⟩ := hi
 have hle : (L.length + 1) * bytes ≤ 140737488355328 := Nat.le_trans (Nat.mul_le_mul (show L.length + 1 ≤ 1000001 by omega) hby) (by decide)
 obtain ⟨v', w', h1, h2, h3, _, h5⟩ := run_append_own_at (P := P) w base t ty e i z sz bytes ht hi hz1 hs1 hb1 hz hs v L.length _ (srow_owns h hs) ⟨gx, 0, none⟩ 1 1 (x.map (.int .i64)) (by rw [List.length_map, hx, Nat.one_mul])
  (fun j u hj => by rw [Addr.add_mid, Nat.zero_add, blk_cell hb, ints_get, ← hj, List.getElem?_map]) (ints_one1 _) (by unfold maxLen; omega) hle hbase
 refine ⟨v', w', h1, srow_of ?_ ?_, h3, h5⟩
 · intro y hy
   rcases List.mem_append.1 hy with h4 | h4
   · exact h.wid y h4
   · rw [List.mem_singleton.1 h4]; exact hx
 · rw [List.flatten_append, List.map_append, List.length_append]
   simpa using h2
end
section
variable {P : Program} {ops : Array Oper} {Q : Exit → Act → World → Prop}
theorem stepU_store {o : Oper} {a : Act} {w : World} {K : Act → World → Prop} (hw : Region.wanted o (yielded ops a.tmps) = true) (ty : TypeId) (x y : Operand) (ho : o.op = .store ty x y)
 (b off : Nat) (cells : List Value) (hx : a.eval x = .pointer (some ⟨b, off, none⟩)) (hy : a.eval y = .agg cells.toArray)
 (ht : w.there b off cells.length) (hi : (P.info? ty).map (·.size) = some cells.length) (h1 : ∀ v ∈ cells, v.oneCell' = true)
 (h : K (a.put o.dst undef) (w.setCells b off cells)) : if Region.wanted o (yielded ops a.tmps) = true then o.wp P a w K Q else K (a.put o.dst undef) w := by
 rw [if_pos hw]
 exact wp_store_mid ty x y ho b off cells.toArray hx hy (by simpa using ht) (by simpa using hi) (all_oneCell_toArray h1) (by simpa using h)
end
end Go.Proofs.YtiigipnfnfpepaaGreatDoor
namespace Go.Proofs.YtiigipnfnfpepaaGreatDoor
open Go.RowKit

def qL (l : List (Int × Int)) : List (List Int) := l.map fun x => [x.1, x.2]
theorem qL_get {l : List (Int × Int)} {i : Nat} (hi : i < l.length) : (qL l).getD i [] = [(l.getD i default).1, (l.getD i default).2] := by
 rw [qL, List.getD_eq_getElem?_getD, List.getElem?_map, List.getElem?_eq_getElem hi, List.getD_eq_getElem?_getD, List.getElem?_eq_getElem hi]
 rfl
theorem qL_len (l : List (Int × Int)) : (qL l).length = l.length := by simp [qL]
abbrev fnA : Value := .func (.func 60) #[] #[]
structure QInv (w0 : World) (g : Nat) (w : World) (l : List (Int × Int)) : Prop where
 bel : Below g w0 w
 small : l.length ≤ 1000
 row : ∃ v, Blk w g 122 #[v, fnA] ∧ SRow w (g + 1) 125 2 v (qL l)

theorem qinv_below {w0 w w' : World} {g : Nat} {l : List (Int × Int)} (h : QInv w0 g w l) (hb : Below w.heap.size w w') : QInv w0 g w' l := by
 obtain ⟨v, h1, h2⟩ := h.row
 exact ⟨h.bel.trans (hb.mono (Nat.le_of_lt (blk_lt h1))), h.small, v, blk_below h1 hb (blk_lt h1), srow_below h2 hb (Nat.le_refl _)⟩
theorem qinv_draws {w0 w : World} {g : Nat} {l : List (Int × Int)} (h : QInv w0 g w l) (n : Nat) : QInv w0 g (w.drewN n) l := by
 obtain ⟨v, h1, h2⟩ := h.row
 exact ⟨below_draws h.bel n, h.small, v, blk_draws h1 n, srow_draws h2 n⟩
theorem turn_size : (Tryz.prog.info? 125).map (·.size) = some 2 := by kernel_rfl

set_option maxHeartbeats 2000000 in
theorem qLen_calls {w0 w : World} {g : Nat} {l : List (Int × Int)} (h : QInv w0 g w l) : Calls Tryz.prog 62 #[.pointer (some ⟨g, 0, none⟩)] w fun e w' => e = .returned (.int .i64 l.length) ∧ QInv w0 g w' l := by
 obtain ⟨v, hb, hr⟩ := h.row
 have c0 := blk_cell hb 0
 have HQ := hid h
 have hl := qL_len l
 obtain ⟨a, c, rfl⟩ : ∃ a c, v = .slice a l.length c := by
  rcases hr.row with ⟨rfl, h0⟩ | ⟨g', cap, cur, rfl, _⟩
  · exact ⟨none, 0, by rw [← hl, h0]; rfl⟩
  · exact ⟨_, _, by rw [hl]⟩
 clear h hb hr hl
 go_enter Tryz.func62, Tryz.ntmps62
 go_wp2_with fail
 go_ret
 exact ⟨rfl, HQ.out⟩

set_option maxHeartbeats 2000000 in
theorem qLess_calls {w0 w : World} {g : Nat} {l : List (Int × Int)} (i j : Nat) (h : QInv w0 g w l) (hi : i < l.length) (hj : j < l.length) : Calls Tryz.prog 194 #[.pointer (some ⟨g, 0, none⟩), .int .i64 i, .int .i64 j] w fun e w' => e = .returned (.bool (aheadB (l.getD i default) (l.getD j default))) ∧ QInv w0 g w' l := by
 obtain ⟨v, hb, hr⟩ := h.row
 have HQ := hid h
 obtain ⟨gr, cap, rfl, _, _, ri⟩ := srow_at hr (i := i) (by rw [qL_len]; exact hi)
 obtain ⟨gr', cap', he, _, _, rj⟩ := srow_at hr (i := j) (by rw [qL_len]; exact hj)
 cases he
 have c0 : w.cell? ⟨g, 0, none⟩ = some (.slice (some ⟨gr, 0, none⟩) l.length cap) := by rw [blk_cell hb 0, qL_len]; rfl
 have c1 : w.cell? ⟨g, 1, none⟩ = some fnA := blk_cell hb 1
 have HB := hid hb
 rw [qL_get hi] at ri
 rw [qL_get hj] at rj
 have ca := fun W => gAhead_calls (l.getD i default) (l.getD j default) W
 generalize aheadB (l.getD i default) (l.getD j default) = bo at *
 generalize l.getD i default = x at *
 generalize l.getD j default = y at *
 have hi0 : (0 : Int) ≤ i := by omega
 have hj0 : (0 : Int) ≤ j := by omega
 have hi1 : (i : Int) < l.length := by omega
 have hj1 : (j : Int) < l.length := by omega
 generalize hn : l.length = n at c0 hi1 hj1
 have HN : Hid ((qL l).length = n) := hid (by rw [qL_len, hn])
 clear h hb hr hi hj hn
 go_enter Tryz.func194, Tryz.ntmps194
 go_wp2_with fail
 refine plain_region (S := (fun L W => (L.getD 18 true = true ∨ W.cell? ⟨g, 1, none⟩ = some (fnA)) ∧ W.cell? ⟨g, 0, none⟩ = some (.slice (some ⟨gr, 0, none⟩) n cap) ∧ (L.getD 18 true = true ∨ W.rangeAt gr (i * 2) ([x.1, x.2].map (Value.int .i64))) ∧ W.cell? ⟨g, 0, none⟩ = some (.slice (some ⟨gr, 0, none⟩) n cap) ∧ (L.getD 18 true = true ∨ W.rangeAt gr (j * 2) ([y.1, y.2].map (Value.int .i64))))) (by kernel_rfl) (⟨Or.inr c1, c0, Or.inr ri, c0, Or.inr rj⟩) (fun hHeld => ?_)
 clear hHeld
 refine aW 0 ⟨Or.inr c1, c0, Or.inr ri, c0, Or.inr rj⟩ ?_
 refine aW 1 ⟨Or.inr c1, c0, Or.inr ri, c0, Or.inr rj⟩ ?_
 refine aW 2 ⟨Or.inr c1, c0, Or.inr ri, c0, Or.inr rj⟩ ?_
 refine aL 3 18 (fun _ _ h k => rL k.1 h) ⟨Or.inr c1, c0, Or.inr ri, c0, Or.inr rj⟩ ?_
 refine aW 4 ⟨Or.inr c1, c0, Or.inr ri, c0, Or.inr rj⟩ ?_
 refine aW 5 ⟨Or.inr c1, c0, Or.inr ri, c0, Or.inr rj⟩ ?_
 refine aW 6 ⟨Or.inr c1, c0, Or.inr ri, c0, Or.inr rj⟩ ?_
 refine aL 7 9 (fun _ _ _ k => k.2.1) ⟨Or.inr c1, c0, Or.inr ri, c0, Or.inr rj⟩ ?_
 refine aW 8 ⟨Or.inr c1, c0, Or.inr ri, c0, Or.inr rj⟩ ?_
 refine aW 9 ⟨Or.inr c1, c0, Or.inr ri, c0, Or.inr rj⟩ ?_
 refine aB 10 18 rfl (fun _ _ h k => rL k.2.2.1 h) (yieldsIf_load_mid (by rfl) 125 _ rfl gr (i * 2) rfl _ _ (fun _ h => h) Tryz.underlying125 rfl turn_size) ⟨Or.inr c1, c0, Or.inr ri, c0, Or.inr rj⟩ ?_
 refine aW 11 ⟨Or.inr c1, c0, Or.inr ri, c0, Or.inr rj⟩ ?_
 refine aW 12 ⟨Or.inr c1, c0, Or.inr ri, c0, Or.inr rj⟩ ?_
 refine aW 13 ⟨Or.inr c1, c0, Or.inr ri, c0, Or.inr rj⟩ ?_
 refine aL 14 16 (fun _ _ _ k => k.2.2.2.1) ⟨Or.inr c1, c0, Or.inr ri, c0, Or.inr rj⟩ ?_
 refine aW 15 ⟨Or.inr c1, c0, Or.inr ri, c0, Or.inr rj⟩ ?_
 refine aW 16 ⟨Or.inr c1, c0, Or.inr ri, c0, Or.inr rj⟩ ?_
 refine aB 17 18 rfl (fun _ _ h k => rL k.2.2.2.2 h) (yieldsIf_load_mid (by rfl) 125 _ rfl gr (j * 2) rfl _ _ (fun _ h => h) Tryz.underlying125 rfl turn_size) ⟨Or.inr c1, c0, Or.inr ri, c0, Or.inr rj⟩ ?_
 refine aR 18 (fun K hK => ?_)
 go_simp
 refine (ca _).mono ?_
 rintro e w' ⟨rfl, B⟩
 have HQ' := hid (qinv_below (qinv_draws HQ.out 1) B)
 have c0 : w'.cell? ⟨g, 0, none⟩ = some (.slice (some ⟨gr, 0, none⟩) n cap) := by rw [blk_cell (blk_below (blk_draws HB.out 1) B (blk_lt HB.out)) 0, HN.out]; rfl
 clear B ca
 refine hK.out _ _ (⟨Or.inl (by rfl), c0, Or.inl (by rfl), c0, Or.inl (by rfl)⟩) (fun hHeld => ?_)
 clear hK K
 try simp only [Act.put, tA, tB, tC]
 clear hHeld
 refine aW 19 ⟨Or.inl (by rfl), c0, Or.inl (by rfl), c0, Or.inl (by rfl)⟩ ?_
 refine anyU_done (by kernel_rfl) ?_ _
 go_wp2_with fail
 go_ret
 exact ⟨rfl, HQ'.out⟩

set_option maxRecDepth 20000 in
set_option maxHeartbeats 2000000 in
theorem qSwap_calls {w0 w : World} {g : Nat} {l : List (Int × Int)} (i j : Nat) (h : QInv w0 g w l) (hi : i < l.length) (hj : j < l.length) : Calls Tryz.prog 197 #[.pointer (some ⟨g, 0, none⟩), .int .i64 i, .int .i64 j] w fun e w' => e = .returned (.tuple #[]) ∧ QInv w0 g w' (swapA l i j) := by
 obtain ⟨v, hb, hr⟩ := h.row
 obtain ⟨gr, cap, rfl, hgr, _, ri⟩ := srow_at hr (i := i) (by rw [qL_len]; exact hi)
 obtain ⟨gr', cap', he, _, _, rj⟩ := srow_at hr (i := j) (by rw [qL_len]; exact hj)
 cases he
 have c0 : w.cell? ⟨g, 0, none⟩ = some (.slice (some ⟨gr, 0, none⟩) l.length cap) := by rw [blk_cell hb 0, qL_len]; rfl
 rw [qL_get hi] at ri
 rw [qL_get hj] at rj
 obtain ⟨s1, g1⟩ := srow_set (w := w.drew) (i := i) (srow_draws hr 1) (by rw [qL_len]; exact hi) (x := [(l.getD j default).1, (l.getD j default).2]) rfl
 obtain ⟨s2, g2⟩ := srow_set (i := j) s1 (by rw [List.length_set, qL_len]; exact hj) (x := [(l.getD i default).1, (l.getD i default).2]) rfl
 have t1 := srow_there (w := w.drew) (srow_draws hr 1) (i := i) (by rw [qL_len]; exact hi)
 have t2 := srow_there s1 (i := j) (by rw [List.length_set, qL_len]; exact hj)
 have e2 : ((qL l).set i [(l.getD j default).1, (l.getD j default).2]).set j [(l.getD i default).1, (l.getD i default).2] = qL (swapA l i j) := by
  unfold swapA qL
  rw [List.map_set, List.map_set]
 rw [e2] at s2
 have G12 := g1.trans g2
 have hne : g ≠ gr := by omega
 have HQ : Hid (QInv w0 g ((w.drew.setCells gr (i * 2) ([(l.getD j default).1, (l.getD j default).2].map (Value.int .i64))).setCells gr (j * 2) ([(l.getD i default).1, (l.getD i default).2].map (Value.int .i64))) (swapA l i j)) :=
  hid ⟨below_grown (below_draws h.bel 1) G12 (Nat.le_of_lt (blk_lt (blk_draws hb 1))) (by omega), by rw [swapA_len]; exact h.small, _, blk_grown (blk_draws hb 1) G12 (fun e => by injection e with e; omega), s2⟩
 clear s1 s2 g1 g2 e2 G12 hr
 generalize swapA l i j = sl at *
 generalize l.getD i default = x at *
 generalize l.getD j default = y at *
 have hi0 : (0 : Int) ≤ i := by omega
 have hj0 : (0 : Int) ≤ j := by omega
 have hi1 : (i : Int) < l.length := by omega
 have hj1 : (j : Int) < l.length := by omega
 generalize hn : l.length = n at c0 hi1 hj1
 have T1 := hid t1
 have T2 := hid t2
 clear h hb hi hj hn t1 t2
 go_enter Tryz.func197, Tryz.ntmps197
 go_wp2_with fail
 refine plain_region (S := (fun L W => (L.getD 25 true = true ∨ W.cell? ⟨g, 0, none⟩ = some (.slice (some ⟨gr, 0, none⟩) n cap)) ∧ (L.getD 25 true = true ∨ W.cell? ⟨g, 0, none⟩ = some (.slice (some ⟨gr, 0, none⟩) n cap)) ∧ (L.getD 25 true = true ∨ W.cell? ⟨g, 0, none⟩ = some (.slice (some ⟨gr, 0, none⟩) n cap)) ∧ (L.getD 25 true = true ∨ W.rangeAt gr (j * 2) ([y.1, y.2].map (Value.int .i64))) ∧ (L.getD 25 true = true ∨ W.cell? ⟨g, 0, none⟩ = some (.slice (some ⟨gr, 0, none⟩) n cap)) ∧ (L.getD 25 true = true ∨ W.rangeAt gr (i * 2) ([x.1, x.2].map (Value.int .i64))))) (by kernel_rfl) (⟨Or.inr c0, Or.inr c0, Or.inr c0, Or.inr rj, Or.inr c0, Or.inr ri⟩) (fun hHeld => ?_)
 clear hHeld
 refine aW 0 ⟨Or.inr c0, Or.inr c0, Or.inr c0, Or.inr rj, Or.inr c0, Or.inr ri⟩ ?_
 refine aW 1 ⟨Or.inr c0, Or.inr c0, Or.inr c0, Or.inr rj, Or.inr c0, Or.inr ri⟩ ?_
 refine aW 2 ⟨Or.inr c0, Or.inr c0, Or.inr c0, Or.inr rj, Or.inr c0, Or.inr ri⟩ ?_
 refine aL 3 25 (fun _ _ h k => rL k.1 h) ⟨Or.inr c0, Or.inr c0, Or.inr c0, Or.inr rj, Or.inr c0, Or.inr ri⟩ ?_
 refine aW 4 ⟨Or.inr c0, Or.inr c0, Or.inr c0, Or.inr rj, Or.inr c0, Or.inr ri⟩ ?_
 refine aW 5 ⟨Or.inr c0, Or.inr c0, Or.inr c0, Or.inr rj, Or.inr c0, Or.inr ri⟩ ?_
 refine aW 6 ⟨Or.inr c0, Or.inr c0, Or.inr c0, Or.inr rj, Or.inr c0, Or.inr ri⟩ ?_
 refine aW 7 ⟨Or.inr c0, Or.inr c0, Or.inr c0, Or.inr rj, Or.inr c0, Or.inr ri⟩ ?_
 refine aL 8 25 (fun _ _ h k => rL k.2.1 h) ⟨Or.inr c0, Or.inr c0, Or.inr c0, Or.inr rj, Or.inr c0, Or.inr ri⟩ ?_
 refine aW 9 ⟨Or.inr c0, Or.inr c0, Or.inr c0, Or.inr rj, Or.inr c0, Or.inr ri⟩ ?_
 refine aW 10 ⟨Or.inr c0, Or.inr c0, Or.inr c0, Or.inr rj, Or.inr c0, Or.inr ri⟩ ?_
 refine aW 11 ⟨Or.inr c0, Or.inr c0, Or.inr c0, Or.inr rj, Or.inr c0, Or.inr ri⟩ ?_
 refine aW 12 ⟨Or.inr c0, Or.inr c0, Or.inr c0, Or.inr rj, Or.inr c0, Or.inr ri⟩ ?_
 refine aL 13 25 (fun _ _ h k => rL k.2.2.1 h) ⟨Or.inr c0, Or.inr c0, Or.inr c0, Or.inr rj, Or.inr c0, Or.inr ri⟩ ?_
 refine aW 14 ⟨Or.inr c0, Or.inr c0, Or.inr c0, Or.inr rj, Or.inr c0, Or.inr ri⟩ ?_
 refine aW 15 ⟨Or.inr c0, Or.inr c0, Or.inr c0, Or.inr rj, Or.inr c0, Or.inr ri⟩ ?_
 refine aB 16 25 rfl (fun _ _ h k => rL k.2.2.2.1 h) (yieldsIf_load_mid (by rfl) 125 _ rfl gr (j * 2) rfl _ _ (fun _ h => h) Tryz.underlying125 rfl turn_size) ⟨Or.inr c0, Or.inr c0, Or.inr c0, Or.inr rj, Or.inr c0, Or.inr ri⟩ ?_
 refine aW 17 ⟨Or.inr c0, Or.inr c0, Or.inr c0, Or.inr rj, Or.inr c0, Or.inr ri⟩ ?_
 refine aW 18 ⟨Or.inr c0, Or.inr c0, Or.inr c0, Or.inr rj, Or.inr c0, Or.inr ri⟩ ?_
 refine aW 19 ⟨Or.inr c0, Or.inr c0, Or.inr c0, Or.inr rj, Or.inr c0, Or.inr ri⟩ ?_
 refine aL 20 25 (fun _ _ h k => rL k.2.2.2.2.1 h) ⟨Or.inr c0, Or.inr c0, Or.inr c0, Or.inr rj, Or.inr c0, Or.inr ri⟩ ?_
 refine aW 21 ⟨Or.inr c0, Or.inr c0, Or.inr c0, Or.inr rj, Or.inr c0, Or.inr ri⟩ ?_
 refine aW 22 ⟨Or.inr c0, Or.inr c0, Or.inr c0, Or.inr rj, Or.inr c0, Or.inr ri⟩ ?_
 refine aB 23 25 rfl (fun _ _ h k => rL k.2.2.2.2.2 h) (yieldsIf_load_mid (by rfl) 125 _ rfl gr (i * 2) rfl _ _ (fun _ h => h) Tryz.underlying125 rfl turn_size) ⟨Or.inr c0, Or.inr c0, Or.inr c0, Or.inr rj, Or.inr c0, Or.inr ri⟩ ?_
 refine aW 24 ⟨Or.inr c0, Or.inr c0, Or.inr c0, Or.inr rj, Or.inr c0, Or.inr ri⟩ ?_
 refine aR 25 (fun K hK => ?_)
 refine stepU_store (by rfl) 125 _ _ rfl gr (i * 2) ([y.1, y.2].map (Value.int .i64)) rfl rfl T1.out turn_size (ints_one1 _) ?_
 refine hK.out _ _ (⟨Or.inl (by rfl), Or.inl (by rfl), Or.inl (by rfl), Or.inl (by rfl), Or.inl (by rfl), Or.inl (by rfl)⟩) (fun hHeld => ?_)
 clear hK K
 try simp only [Act.put]
 clear hHeld
 refine aW 26 ⟨Or.inl (by rfl), Or.inl (by rfl), Or.inl (by rfl), Or.inl (by rfl), Or.inl (by rfl), Or.inl (by rfl)⟩ ?_
 refine aR 27 (fun K hK => ?_)
 refine stepU_store (by rfl) 125 _ _ rfl gr (j * 2) ([x.1, x.2].map (Value.int .i64)) rfl rfl T2.out turn_size (ints_one1 _) ?_
 refine hK.out _ _ (⟨Or.inl (by rfl), Or.inl (by rfl), Or.inl (by rfl), Or.inl (by rfl), Or.inl (by rfl), Or.inl (by rfl)⟩) (fun hHeld => ?_)
 clear hK K
 try simp only [Act.put]
 clear hHeld
 refine anyU_done (by kernel_rfl) ?_ _
 generalize (w.drew.setCells gr (i * 2) ([y.1, y.2].map (Value.int .i64))).setCells gr (j * 2) ([x.1, x.2].map (Value.int .i64)) = w9 at *
 clear T1 T2 ri rj
 go_wp2_with fail
 go_end0
 exact ⟨rfl, HQ.out⟩
abbrev turnV (x : Int × Int) : Value := .iface 125 (.agg (ints [x.1, x.2]))
theorem turn_assert (a b : Int) (w : World) : (Instr.typeAssert (.iface 125 (.agg (ints [a, b]))) 20 125 false).run Tryz.prog w = .ok (.agg (ints [a, b])) w := by kernel_rfl
set_option maxRecDepth 20000 in
set_option maxHeartbeats 2000000 in
theorem qPush_calls {w0 w : World} {g : Nat} {l : List (Int × Int)} (x : Int × Int) (h : QInv w0 g w l) (hs : l.length < 1000) : Calls Tryz.prog 196 #[.pointer (some ⟨g, 0, none⟩), turnV x] w fun e w' => e = .returned (.tuple #[]) ∧ QInv w0 g w' (l ++ [x]) := by
 obtain ⟨v, hb, hr⟩ := h.row
 have hg := blk_lt hb
 have c0 : w.cell? ⟨g, 0, none⟩ = some v := blk_cell hb 0
 have hr1 := srow_alloc (srow_draws hr 1) (.cells (ints [x.1, x.2]) 125)
 have hb1 := blk_alloc (blk_draws hb 1) (.cells (ints [x.1, x.2]) 125)
 have c1 : (w.drew.alloc (.cells (ints [x.1, x.2]) 125)).cell? ⟨g, 0, none⟩ = some v := blk_cell hb1 0
 obtain ⟨v', w2, ra, r2, gw, _⟩ := srow_append (P := Tryz.prog) (t := 120) (bytes := 16) (z := .agg #[Value.int .i64 0, .int .i64 0]) hr1 (by decide) (info_parts (by kernel_rfl)) (by kernel_rfl) Tryz.underlying120 (x := [x.1, x.2]) rfl (blk_new w.drew 125 (ints [x.1, x.2])) (by rw [qL_len]; omega) (by decide) (by simp; omega) 120
 have hne : some g ≠ v.ownBlock := fun e => by
  have := (srow_lt hr g e.symm).1
  omega
 have hb2 := blk_grown hb1 gw hne
 have B2 : Below g w0 w2 := (((below_draws h.bel 1).alloc (Nat.le_of_lt hg) _).grown gw (Nat.le_of_lt (blk_lt hb1)) (fun k e => by have := (srow_lt hr k e).1; omega))
 have c2 : w2.cell? ⟨g, 0, none⟩ = some v := blk_cell hb2 0
 have f2 := blk_free hb2 0
 obtain ⟨gn, cn, rfl, _⟩ := srow_at r2 (i := l.length) (by simp [qL])
 generalize (qL l ++ [[x.1, x.2]]).length = nn at *
 have HQ : Hid (QInv w0 g (w2.setCell ⟨g, 0, none⟩ (.slice (some ⟨gn, 0, none⟩) nn cn)) (l ++ [x])) := hid ⟨below_set B2 (Nat.le_refl _) _, by simp; omega, _, blk_set hb2 0 _, by
  have e : qL (l ++ [x]) = qL l ++ [[x.1, x.2]] := by simp [qL]
  rw [e]
  exact srow_far r2 (Nat.lt_succ_self g) 0 _⟩
 have HR := hid ra
 clear h hb hr hr1 hb1 r2 gw hne hb2 B2 hs ra
 have ta := turn_assert x.1 x.2
 go_enter Tryz.func196, Tryz.ntmps196
 go_wp2_with fail
 refine plain_region (S := (fun L W => (L.getD 8 true = true ∨ W.cell? ⟨g, 0, none⟩ = some (v)))) (by kernel_rfl) (Or.inr c0) (fun hHeld => ?_)
 clear hHeld
 refine aW 0 (Or.inr c0) ?_
 refine aW 1 (Or.inr c0) ?_
 refine aW 2 (Or.inr c0) ?_
 refine aW 3 (Or.inr c0) ?_
 refine aL 4 8 (fun _ _ h k => rL k h) (Or.inr c0) ?_
 refine aW 5 (Or.inr c0) ?_
 refine aW 6 (Or.inr c0) ?_
 refine aR 7 (fun K hK => ?_)
 go_simp
 have c0 := c1
 refine hK.out _ _ (Or.inr c0) (fun hHeld => ?_)
 clear hK K
 try simp only [Act.put, tA, tB, tC]
 clear hHeld
 refine aR 8 (fun K hK => ?_)
 refine stepU_append (by rfl) _ _ _ _ rfl _ _ rfl rfl _ w2 HR.out ?_
 refine hK.out _ _ (Or.inl (by rfl)) (fun hHeld => ?_)
 clear hK K
 try simp only [Act.put, tA, tB, tC]
 clear hHeld
 refine aW 9 (Or.inl (by rfl)) ?_
 refine aW 10 (Or.inl (by rfl)) ?_
 refine aR 11 (fun K hK => ?_)
 go_simp
 skip
 refine hK.out _ _ (Or.inl (by rfl)) (fun hHeld => ?_)
 clear hK K
 try simp only [Act.put, tA, tB, tC]
 clear hHeld
 refine anyU_done (by kernel_rfl) ?_ _
 go_wp2_with fail
 go_end0
 exact ⟨rfl, HQ.out⟩
theorem qL_app (l : List (Int × Int)) (x : Int × Int) : qL (l ++ [x]) = qL l ++ [[x.1, x.2]] := by simp [qL]
set_option maxRecDepth 20000 in
set_option maxHeartbeats 2000000 in
theorem qPop_calls {w0 w : World} {g : Nat} {l : List (Int × Int)} (x : Int × Int) (h : QInv w0 g w (l ++ [x])) : Calls Tryz.prog 195 #[.pointer (some ⟨g, 0, none⟩)] w fun e w' => e = .returned (turnV x) ∧ QInv w0 g w' l := by
 obtain ⟨v, hb, hr⟩ := h.row
 have hg := blk_lt hb
 rw [qL_app] at hr
 obtain ⟨gr, cap, rfl, hgr, hlt, rx, hcap, r2⟩ := srow_pop hr
 rw [qL_len] at rx hb hcap r2
 have hsm : l.length ≤ 1000 := by have := h.small; simp at this; omega
 have c0 : w.cell? ⟨g, 0, none⟩ = some (.slice (some ⟨gr, 0, none⟩) (l.length + 1) cap) := blk_cell hb 0
 have hw : IntKind.i64.wrap (l.length : Int) = l.length := IntWalk.i64_in _ (by omega)
 have hlt1 : (l.length : Int) < l.length + 1 := by omega
 have hcap1 : (l.length : Int) ≤ cap := by omega
 have hl0 : (0 : Int) ≤ l.length := by omega
 have hl1 : (l.length : Int) ≤ 1000 := by omega
 have hcapz : (l.length : Int) + 1 ≤ cap := by omega
 let o0 : Obj := .cells #[Value.int .i64 0, .int .i64 0] 125
 have hb1 : Blk (w.alloc o0).drew g _ _ := blk_draws (blk_alloc hb o0) 1
 have r1 : SRow (w.alloc o0).drew _ _ _ _ _ := srow_draws (srow_alloc r2 o0) 1
 have x1 : Blk (w.alloc o0).drew w.heap.size 125 #[Value.int .i64 0, .int .i64 0] := blk_draws (blk_new w 125 #[Value.int .i64 0, .int .i64 0]) 1
 have b1 : Below g w0 (w.alloc o0).drew := below_draws (h.bel.alloc (Nat.le_of_lt hg) o0) 1
 have c1 : (w.alloc o0).drew.cell? ⟨g, 0, none⟩ = some (.slice (some ⟨gr, 0, none⟩) (l.length + 1) cap) := blk_cell hb1 0
 have rx1 : (w.alloc o0).drew.rangeAt gr (l.length * 2) ([x.1, x.2].map (Value.int .i64)) := fun j u hj => by
  obtain ⟨gr2, cap2, e, _, _, rr⟩ := srow_at (srow_draws (srow_alloc hr o0) 1) (i := l.length) (by simp [qL])
  have e2 : gr = gr2 := by
   simp only [Value.slice.injEq, Option.some.injEq, Addr.mk.injEq] at e
   exact e.1.1
  subst e2
  have e1 : (qL l ++ [[x.1, x.2]]).getD l.length [] = [x.1, x.2] := by
   rw [List.getD_eq_getElem?_getD, List.getElem?_append_right (by rw [qL_len]; exact Nat.le_refl _), qL_len, Nat.sub_self]; rfl
  rw [e1] at rr
  exact rr j u hj
 obtain ⟨x2, g2⟩ := setCells_whole (new := ints [x.1, x.2]) x1 rfl
 have hb2 := blk_grown hb1 g2 (fun e => by injection e with e; omega)
 have r3 := srow_blk r1 fun k cur hk he hc => blk_grown hc g2 (fun e => by
  have := (srow_lt r2 k he).2
  injection e with e
  omega)
 have b2 := below_grown b1 g2 (Nat.le_of_lt (blk_lt hb1)) (Nat.le_of_lt hg)
 have c2 : ((w.alloc o0).drew.setCells w.heap.size 0 ([x.1, x.2].map (Value.int .i64))).cell? ⟨g, 0, none⟩ = some (.slice (some ⟨gr, 0, none⟩) (l.length + 1) cap) := blk_cell hb2 0
 have f2 : ((w.alloc o0).drew.setCells w.heap.size 0 ([x.1, x.2].map (Value.int .i64))).frozen? ⟨g, 0, none⟩ = false := blk_free hb2 0
 have X2 : Hid (Blk ((w.alloc o0).drew.setCells w.heap.size 0 ([x.1, x.2].map (Value.int .i64))) w.heap.size 125 (ints [x.1, x.2])) := hid x2
 have TX := hid (blk_there x1)
 have hgx : g ≠ w.heap.size := by omega
 have HQ : Hid (∀ n, QInv w0 g ((((w.alloc o0).drew.setCells w.heap.size 0 ([x.1, x.2].map (Value.int .i64))).drewN n).setCell ⟨g, 0, none⟩ (.slice (some ⟨gr, 0, none⟩) l.length cap)) l) := hid fun n => ⟨below_set (below_draws b2 n) (Nat.le_refl _) _, hsm, _, blk_set (blk_draws hb2 n) 0 _, srow_far (srow_draws r3 n) (Nat.lt_succ_self g) 0 _⟩
 clear h hb hr r2 hb1 r1 x1 b1 x2 g2 hb2 r3 b2 hsm
 generalize hn : l.length = n at c0 c1 c2 rx rx1 hcap hw hl0 hl1 hcapz hlt1 hcap1 HQ
 have HN := hid hn
 clear hn
 go_enter Tryz.func195, Tryz.ntmps195
 go_wp2_with fail
 refine plain_region (S := (fun L W => (L.getD 13 true = true ∨ W.cell? ⟨g, 0, none⟩ = some (.slice (some ⟨gr, 0, none⟩) (n + 1) cap)) ∧ (L.getD 13 true = true ∨ W.cell? ⟨g, 0, none⟩ = some (.slice (some ⟨gr, 0, none⟩) (n + 1) cap)) ∧ (L.getD 13 true = true ∨ W.rangeAt gr (n * 2) ([x.1, x.2].map (Value.int .i64))))) (by kernel_rfl) (⟨Or.inr c0, Or.inr c0, Or.inr rx⟩) (fun hHeld => ?_)
 clear hHeld
 refine aW 0 ⟨Or.inr c0, Or.inr c0, Or.inr rx⟩ ?_
 refine aW 1 ⟨Or.inr c0, Or.inr c0, Or.inr rx⟩ ?_
 refine aW 2 ⟨Or.inr c0, Or.inr c0, Or.inr rx⟩ ?_
 refine aL 3 13 (fun _ _ h k => rL k.1 h) ⟨Or.inr c0, Or.inr c0, Or.inr rx⟩ ?_
 refine aW 4 ⟨Or.inr c0, Or.inr c0, Or.inr rx⟩ ?_
 refine aW 5 ⟨Or.inr c0, Or.inr c0, Or.inr rx⟩ ?_
 refine aW 6 ⟨Or.inr c0, Or.inr c0, Or.inr rx⟩ ?_
 refine aL 7 13 (fun _ _ h k => rL k.2.1 h) ⟨Or.inr c0, Or.inr c0, Or.inr rx⟩ ?_
 refine aW 8 ⟨Or.inr c0, Or.inr c0, Or.inr rx⟩ ?_
 refine aW 9 ⟨Or.inr c0, Or.inr c0, Or.inr rx⟩ ?_
 refine aW 10 ⟨Or.inr c0, Or.inr c0, Or.inr rx⟩ ?_
 refine aB 11 13 rfl (fun _ _ h k => rL k.2.2 h) (yieldsIf_load_mid (by rfl) 125 _ rfl gr (n * 2) rfl _ _ (fun _ h => h) Tryz.underlying125 rfl turn_size) ⟨Or.inr c0, Or.inr c0, Or.inr rx⟩ ?_
 refine aR 12 (fun K hK => ?_)
 go_simp
 have c0 := c1
 have rx := rx1
 refine hK.out _ _ (⟨Or.inr c0, Or.inr c0, Or.inr rx⟩) (fun hHeld => ?_)
 clear hK K
 try simp only [Act.put, tA, tB, tC]
 clear hHeld
 refine aR 13 (fun K hK => ?_)
 refine stepU_store (by rfl) 125 _ _ rfl w.heap.size 0 ([x.1, x.2].map (Value.int .i64)) rfl rfl TX.out turn_size (ints_one1 _) ?_
 refine hK.out _ _ (⟨Or.inl (by rfl), Or.inl (by rfl), Or.inl (by rfl)⟩) (fun hHeld => ?_)
 clear hK K
 try simp only [Act.put]
 clear hHeld
 refine anyU_done (by kernel_rfl) ?_ _
 clear c0 rx c1 rx1 TX
 generalize (w.alloc o0).drew.setCells w.heap.size 0 ([x.1, x.2].map (Value.int .i64)) = w2 at *
 go_wp2_with fail
 refine plain_region (S := (fun L W => (L.getD 14 true = true ∨ W.cell? ⟨g, 0, none⟩ = some (.slice (some ⟨gr, 0, none⟩) (n + 1) cap)) ∧ (L.getD 14 true = true ∨ W.cell? ⟨g, 0, none⟩ = some (.slice (some ⟨gr, 0, none⟩) (n + 1) cap)))) (by kernel_rfl) (⟨Or.inr c2, Or.inr c2⟩) (fun hHeld => ?_)
 clear hHeld
 refine aW 0 ⟨Or.inr c2, Or.inr c2⟩ ?_
 refine aW 1 ⟨Or.inr c2, Or.inr c2⟩ ?_
 refine aW 2 ⟨Or.inr c2, Or.inr c2⟩ ?_
 refine aW 3 ⟨Or.inr c2, Or.inr c2⟩ ?_
 refine aL 4 14 (fun _ _ h k => rL k.1 h) ⟨Or.inr c2, Or.inr c2⟩ ?_
 refine aW 5 ⟨Or.inr c2, Or.inr c2⟩ ?_
 refine aW 6 ⟨Or.inr c2, Or.inr c2⟩ ?_
 refine aW 7 ⟨Or.inr c2, Or.inr c2⟩ ?_
 refine aL 8 14 (fun _ _ h k => rL k.2 h) ⟨Or.inr c2, Or.inr c2⟩ ?_
 refine aW 9 ⟨Or.inr c2, Or.inr c2⟩ ?_
 refine aW 10 ⟨Or.inr c2, Or.inr c2⟩ ?_
 refine aW 11 ⟨Or.inr c2, Or.inr c2⟩ ?_
 refine aW 12 ⟨Or.inr c2, Or.inr c2⟩ ?_
 refine aW 13 ⟨Or.inr c2, Or.inr c2⟩ ?_
 refine aR 14 (fun K hK => ?_)
 go_simp
 skip
 refine hK.out _ _ (⟨Or.inl (by rfl), Or.inl (by rfl)⟩) (fun hHeld => ?_)
 clear hK K
 try simp only [Act.put, tA, tB, tC]
 clear hHeld
 refine anyU_done (by kernel_rfl) ?_ _
 have HQ' : Hid (QInv w0 g (w2.setCell ⟨g, 0, none⟩ (.slice (some ⟨gr, 0, none⟩) n cap)).drew l) := hid (HQ.out 1)
 have X3 : Hid (Blk (w2.setCell ⟨g, 0, none⟩ (.slice (some ⟨gr, 0, none⟩) n cap)).drew w.heap.size 125 (ints [x.1, x.2])) := hid (blk_draws (blk_far X2.out (Ne.symm hgx) _) 1)
 clear HQ X2 c2 f2
 generalize (w2.setCell ⟨g, 0, none⟩ (.slice (some ⟨gr, 0, none⟩) n cap)).drew = w3 at *
 go_wp2_with (first | (refine wpList_load_blk (by rfl) 125 _ rfl w.heap.size rfl 125 (ints [x.1, x.2]) _ X3.out Tryz.underlying125 rfl turn_size ?_))
 go_ret
 exact ⟨rfl, HQ'.out⟩

def qOps (w0 : World) (g : Nat) : HeapOps (A := Int × Int) 118 (.pointer (some ⟨g, 0, none⟩)) (QInv w0 g) aheadB where
 kLen := 62
 kLess := 194
 kSwap := 197
 cLen := fun _ _ => by kernel_rfl
 cLess := fun _ _ => by kernel_rfl
 cSwap := fun _ _ => by kernel_rfl
 small := fun h => Nat.le_trans h.small (by decide)
 len := fun h => ⟨_, by kernel_rfl, qLen_calls h⟩
 les := fun i j h hi hj => ⟨_, by kernel_rfl, qLess_calls i j h hi hj⟩
 swp := fun i j h hi hj => ⟨_, by kernel_rfl, qSwap_calls i j h hi hj⟩
theorem qpush_heap {w0 w : World} {g : Nat} {l : List (Int × Int)} (x : Int × Int) (h : QInv w0 g w l) (hs : l.length < 1000) :
 Calls Tryz.prog 61 #[.iface 118 (.pointer (some ⟨g, 0, none⟩)), turnV x] w fun e w' => e = .returned (.tuple #[]) ∧ QInv w0 g w' (pushH aheadB l x) :=
 hpush_calls (qOps w0 g) l w (by omega) (fun _ => by kernel_rfl) (fun _ _ => by kernel_rfl) (qPush_calls x h hs)
theorem qpop_heap {w0 w : World} {g : Nat} {l : List (Int × Int)} (h : QInv w0 g w l) (h0 : 0 < l.length) :
 Calls Tryz.prog 63 #[.iface 118 (.pointer (some ⟨g, 0, none⟩))] w fun e w' => e = .returned (turnV (popX aheadB l)) ∧ QInv w0 g w' (popL aheadB l) :=
 hpop_calls (enc := turnV) (qOps w0 g) l w h h0 (fun _ => by kernel_rfl) (fun _ _ => by kernel_rfl) (fun _ x _ h => qPop_calls x h)
end Go.Proofs.YtiigipnfnfpepaaGreatDoor
namespace Go.Proofs.YtiigipnfnfpepaaGreatDoor
open Go.RowKit

def firstQ (s : List Int) : Nat → List (Int × Int)
 | 0 => []
 | b + 1 => pushH aheadB (firstQ s b) (b, s.getD b 0)
theorem firstQ_len (s : List Int) : ∀ b, (firstQ s b).length = b
 | 0 => rfl
 | b + 1 => by rw [firstQ, pushH_len, firstQ_len]
theorem firstQ_all (s : List Int) : ∀ b, b ≤ 8 → ∀ x ∈ firstQ s b, 0 ≤ x.1 ∧ x.1 < 8
 | 0, _ => fun _ h => by cases h
 | b + 1, hb => pushH_all aheadB (firstQ_all s b (by omega)) (x := ((b : Int), s.getD b 0)) ⟨by dsimp only; omega, by dsimp only; omega⟩
def gpL (s : List Int) (b : Int) : List Int := giveL 1000 (firstQ s 8) [0, 0, 0, 0, 0, 0, 0, 0] b
theorem gpL_keeps (s : List Int) {b : Int} (hb : 0 ≤ b) : Ks (gpL s b) ∧ costS (gpL s b) ≤ b := by
 have h := giveL_keeps 1000 (firstQ s 8) [0, 0, 0, 0, 0, 0, 0, 0] b ⟨rfl, by decide⟩ (firstQ_all s 8 (Nat.le_refl _)) hb
 refine ⟨h.1, Int.le_trans h.2 ?_⟩
 rw [show costS [0, 0, 0, 0, 0, 0, 0, 0] = 0 by decide +kernel]
 omega

set_option maxRecDepth 20000 in
set_option maxHeartbeats 4000000 in
theorem gpulses_calls (s : List Int) (b : Int) (w : World) (hl : s.length = 8) (hs : ∀ z ∈ s, 0 ≤ z ∧ z ≤ 15) (h0 : 0 ≤ b) (h1 : b ≤ 1048576) :
 Calls Tryz.prog 30 #[.agg (ints s), .int .i64 b] w fun e w' => e = .returned (.tuple #[.agg (ints (gpL s b)), .int .i64 0]) ∧ Below w.heap.size w w' := by
 have hrt : rightB s = true := by
  unfold rightB
  rw [Bool.not_eq_true', List.any_eq_false]
  intro z hz
  have := hs z hz
  simp only [Bool.or_eq_true, decide_eq_true_eq]
  omega
 have ct := fun W => table_calls W
 have HSZ := hid (show (Tryz.prog.info? 42).map (·.size) = some (ints s).size by rw [ints_size, hl]; kernel_rfl)
 have HCZ := hid (show (Tryz.prog.info? 116).map (·.size) = some (ints costL).size by rw [ints_size]; kernel_rfl)
 have HCO := hid (ints_one costL)
 let w1 := ((w.alloc (.cells (ints s) 42)).alloc (.cells #[Value.int .i64 0, .int .i64 0, .int .i64 0, .int .i64 0, .int .i64 0, .int .i64 0, .int .i64 0, .int .i64 0] 41)).alloc (.cells #[Value.int .i64 0, .int .i64 0, .int .i64 0, .int .i64 0, .int .i64 0, .int .i64 0, .int .i64 0, .int .i64 0] 41)
 have hw1 : w1.heap.size = w.heap.size + 1 + 1 + 1 := by simp [w1]
 have b1 : Below w.heap.size w w1 := (((Below.refl w.heap.size w).alloc (Nat.le_refl _) _).alloc (by simp) _).alloc (by simp; omega) _
 have s1 : Blk w1 w.heap.size 42 (ints s) := blk_alloc (blk_alloc (blk_new w 42 (ints s)) _) _
 have r1 : Blk w1 (w.heap.size + 1) 41 #[Value.int .i64 0, .int .i64 0, .int .i64 0, .int .i64 0, .int .i64 0, .int .i64 0, .int .i64 0, .int .i64 0] := by
  have := blk_alloc (blk_new (w.alloc (.cells (ints s) 42)) 41 #[Value.int .i64 0, .int .i64 0, .int .i64 0, .int .i64 0, .int .i64 0, .int .i64 0, .int .i64 0, .int .i64 0]) (.cells #[Value.int .i64 0, .int .i64 0, .int .i64 0, .int .i64 0, .int .i64 0, .int .i64 0, .int .i64 0, .int .i64 0] 41)
  rw [World.size_alloc] at this
  exact this
 have k1 : Blk w1 (w.heap.size + 1 + 1) 41 #[Value.int .i64 0, .int .i64 0, .int .i64 0, .int .i64 0, .int .i64 0, .int .i64 0, .int .i64 0, .int .i64 0] := by
  have := blk_new ((w.alloc (.cells (ints s) 42)).alloc (.cells #[Value.int .i64 0, .int .i64 0, .int .i64 0, .int .i64 0, .int .i64 0, .int .i64 0, .int .i64 0, .int .i64 0] 41)) 41 #[Value.int .i64 0, .int .i64 0, .int .i64 0, .int .i64 0, .int .i64 0, .int .i64 0, .int .i64 0, .int .i64 0]
  rw [World.size_alloc, World.size_alloc] at this
  exact this
 have cr := right_calls s w1 hl (fun z hz => by have := hs z hz; omega)
 rw [hrt] at cr
 rw [show (#[Value.int .i64 0, .int .i64 0, .int .i64 0, .int .i64 0, .int .i64 0, .int .i64 0, .int .i64 0, .int .i64 0] : Array Value) = ints [0, 0, 0, 0, 0, 0, 0, 0] from by kernel_rfl] at r1 k1
 have S1 := hid s1
 have R1 := hid r1
 have K1 := hid k1
 have B1 := hid b1
 have HL := hid hl
 have HS := hid hs
 have HW := hid hw1
 clear hl hs hrt s1 r1 k1 b1 hw1
 go_enter Tryz.func30, Tryz.ntmps30
 go_wp2_with (first | (refine wpList_load_blk (by rfl) 42 _ rfl w.heap.size rfl 42 (ints s) _ S1.out Tryz.underlying42 rfl HSZ.out ?_))
 refine cr.mono ?_
 rintro e w2 ⟨rfl, B2⟩
 have S2 := hid (blk_below S1.out B2 (by rw [HW.out]; omega))
 have R2 := hid (blk_below R1.out B2 (by rw [HW.out]; omega))
 have K2 := hid (blk_below K1.out B2 (by rw [HW.out]; omega))
 have b2 := bnext B1.out (B2.mono (Nat.le_refl _))
 have B2' := hid b2
 have hz2 := hid (show w.heap.size + 1 + 1 + 1 ≤ w2.heap.size by have := B2.size; rw [HW.out] at this; exact this)
 clear cr B2 S1 R1 K1 B1 b2
 have ct2 := ct w2
 clear ct
 go_wp2_with fail
 refine ct2.mono ?_
 rintro e w3 ⟨rfl, B3⟩
 clear ct2
 have hz3 := B3.size
 have hz23 := hz2.out
 have R3 := blk_below R2.out B3 (by omega)
 have K3 := blk_below K2.out B3 (by omega)
 have S3 := blk_below S2.out B3 (by omega)
 have B4 := B2'.out.trans (B3.mono (show w.heap.size ≤ w2.heap.size by omega))
 have z13 : (#[Value.int .i64 0, .int .i64 0, .int .i64 0, .int .i64 0, .int .i64 0, .int .i64 0, .int .i64 0, .int .i64 0, .int .i64 0, .int .i64 0, .int .i64 0, .int .i64 0, .int .i64 0] : Array Value).size = (ints costL).size := by rw [ints_size]; kernel_rfl
 have HZ13 := hid z13
 have N3 := hid (blk_new w3 116 #[Value.int .i64 0, .int .i64 0, .int .i64 0, .int .i64 0, .int .i64 0, .int .i64 0, .int .i64 0, .int .i64 0, .int .i64 0, .int .i64 0, .int .i64 0, .int .i64 0, .int .i64 0])
 have hgc : w.heap.size + 1 + 1 < w3.heap.size := by omega
 have R4 := hid (blk_alloc R3 (.cells #[Value.int .i64 0, .int .i64 0, .int .i64 0, .int .i64 0, .int .i64 0, .int .i64 0, .int .i64 0, .int .i64 0, .int .i64 0, .int .i64 0, .int .i64 0, .int .i64 0, .int .i64 0] 116))
 have K4 := hid (blk_alloc K3 (.cells #[Value.int .i64 0, .int .i64 0, .int .i64 0, .int .i64 0, .int .i64 0, .int .i64 0, .int .i64 0, .int .i64 0, .int .i64 0, .int .i64 0, .int .i64 0, .int .i64 0, .int .i64 0] 116))
 have S4 := hid (blk_alloc S3 (.cells #[Value.int .i64 0, .int .i64 0, .int .i64 0, .int .i64 0, .int .i64 0, .int .i64 0, .int .i64 0, .int .i64 0, .int .i64 0, .int .i64 0, .int .i64 0, .int .i64 0, .int .i64 0] 116))
 have B5 := hid (B4.alloc (show w.heap.size ≤ w3.heap.size by omega) (.cells #[Value.int .i64 0, .int .i64 0, .int .i64 0, .int .i64 0, .int .i64 0, .int .i64 0, .int .i64 0, .int .i64 0, .int .i64 0, .int .i64 0, .int .i64 0, .int .i64 0, .int .i64 0] 116))
 have HGC := hid hgc
 clear B2' R2 K2 R3 K3 B4 S2 S3 z13 hz2 hz3 hz23 hgc B3
 go_wp2_with (first | (refine wpList_store_blk rfl 116 _ _ rfl w3.heap.size 116 #[Value.int .i64 0, .int .i64 0, .int .i64 0, .int .i64 0, .int .i64 0, .int .i64 0, .int .i64 0, .int .i64 0, .int .i64 0, .int .i64 0, .int .i64 0, .int .i64 0, .int .i64 0] (ints costL) rfl rfl N3.out HZ13.out.symm HCZ.out HCO.out ?_; intro w4 n0 n1; have R5 := hid (blk_grown R4.out n1 (fun e => by injection e with e; have := HGC.out; omega)); have K5 := hid (blk_grown K4.out n1 (fun e => by injection e with e; have := HGC.out; omega)); have S5 := hid (blk_grown S4.out n1 (fun e => by injection e with e; have := HGC.out; omega)); have C5 := hid n0; have B6 := hid (below_grown B5.out n1 (by have := HGC.out; simp; omega) (by have := HGC.out; omega)); clear n0 n1 N3 R4 K4 S4 B5) | (refine wpList_load_blk (by rfl) 42 _ rfl w.heap.size rfl 42 (ints s) _ (blk_alloc S5.out _) Tryz.underlying42 rfl HSZ.out ?_))
 have hgc4 := blk_lt C5.out
 have R6 := hid (blk_alloc R5.out (.cells #[.slice none 0 0, fnA] 122))
 have K6 := hid (blk_alloc K5.out (.cells #[.slice none 0 0, fnA] 122))
 have C6 := hid (blk_alloc C5.out (.cells #[.slice none 0 0, fnA] 122))
 have hw4 : w.heap.size ≤ w4.heap.size := by have := HGC.out; omega
 have B7 := hid (B6.out.alloc hw4 (.cells #[.slice none 0 0, fnA] 122))
 have Q6 : Hid (QInv (w4.alloc (.cells #[.slice none 0 0, fnA] 122)) w4.heap.size (w4.alloc (.cells #[.slice none 0 0, fnA] 122)) (firstQ s 0)) := hid ⟨Below.refl _ _, Nat.zero_le _, _, blk_new _ _ _, srow_nil _ _ _ _⟩
 have HG4 := hid hgc4
 have HW4 := hid hw4
 have HGC' := HGC.out
 have HGK := hid (show w.heap.size + 1 + 1 < w4.heap.size by omega)
 clear R5 K5 C5 B6 S5 hgc4 hw4 HGC' HCO HCZ HZ13 HSZ HW
 generalize hgq : w4.heap.size = gq at *
 clear hgq
 generalize w4.alloc (.cells #[.slice none 0 0, fnA] 122) = w5 at *
 generalize w3.heap.size = gc at *
 have hif := info_parts (P := Tryz.prog) (e := 3) (z := .int .i64 0) (size := 1) (bytes := 8) (by kernel_rfl)
 obtain ⟨infI, hinI, hzI, hsI, hbI⟩ := hif
 have HX := hid (fun (i : Nat) (h : i < 8) (W : World) => run_index_any (P := Tryz.prog) (t := 42) (e := 3) Tryz.underlying42 (by kernel_rfl) hinI hsI (ints s) (.int .i64 (s.getD i 0)) i (by rw [ints_get, List.getD_eq_getElem?_getD, List.getElem?_eq_getElem (by rw [HL.out]; exact h)]; rfl) h W)
 clear hinI hzI hsI hbI w1
 go_loopg [29] 8 (fun gg s29 wr => ∃ k : Nat, k ≤ 8 ∧ 8 - k ≤ gg ∧ s29 = .int .i64 k ∧ Aside (Below w.heap.size w wr) ∧ Aside (Blk wr (w.heap.size + 1) 41 (ints [0, 0, 0, 0, 0, 0, 0, 0])) ∧ Aside (Blk wr (w.heap.size + 1 + 1) 41 (ints [0, 0, 0, 0, 0, 0, 0, 0])) ∧ Aside (Blk wr gc 116 (ints costL)) ∧ Aside (QInv wr gq wr (firstQ s k)))
 case atStart => exact ⟨0, Nat.zero_le _, by omega, rfl, B7.out, R6.out, K6.out, C6.out, Q6.out⟩
 case round =>
  clear B7 R6 K6 C6 Q6
  obtain ⟨k, hk, hgk, rfl, B, R, K, C, Q⟩ := hrel
  by_cases hlt : k < 8
  · have hkz : (k : Int) < 8 := by omega
    have hk0 : (0 : Int) ≤ k := by omega
    have hx := fun W => HX.out k hlt W
    have cp := qpush_heap ((k : Int), s.getD k 0) Q.out (by rw [firstQ_len]; omega)
    have HF := hid (show pushH aheadB (firstQ s k) ((k : Int), s.getD k 0) = firstQ s (k + 1) from rfl)
    generalize s.getD k 0 = sk at *
    go_wp2_with fail
    refine cp.mono ?_
    rintro e w6 ⟨rfl, Q6⟩
    rw [HF.out] at Q6
    have hbq := Q6.bel
    have R6 := hid (blk_below R.out hbq (by have := HGK.out; omega))
    have K6 := hid (blk_below K.out hbq HGK.out)
    have C6 := hid (blk_below C.out hbq HG4.out)
    have B6 := hid (B.out.trans (hbq.mono HW4.out))
    have Q7 : Hid (QInv w6 gq w6 (firstQ s (k + 1))) := hid ⟨Below.refl _ _, Q6.small, Q6.row⟩
    clear Q6 hbq cp hx
    go_wp2_with fail
    go_roundg (8 - (k + 1))
    case measure => omega
    case rel => exact ⟨k + 1, by omega, by omega, by go_num, B6.out, R6.out, K6.out, C6.out, Q7.out⟩
  · obtain rfl : k = 8 := by omega
    clear HX
    go_wp2_with fail
    have hm8 : giveM (firstQ s 8) [0, 0, 0, 0, 0, 0, 0, 0] < 1000 := by unfold giveM; rw [firstQ_len]; decide
    go_loopg [1] 1000 (fun gg s1 wr => ∃ (f : Nat) (q : List (Int × Int)) (k : List Int) (bb : Int), f ≤ gg ∧ s1 = .int .i64 bb ∧ Aside (giveM q k < f ∧ 0 ≤ bb ∧ bb ≤ 1048576 ∧ Ks k ∧ (∀ x ∈ q, 0 ≤ x.1 ∧ x.1 < 8) ∧ q.length ≤ 8 ∧ giveL f q k bb = gpL s b) ∧ Aside (Below w.heap.size w wr) ∧ Aside (Blk wr (w.heap.size + 1) 41 (ints [0, 0, 0, 0, 0, 0, 0, 0])) ∧ Aside (Blk wr (w.heap.size + 1 + 1) 41 (ints k)) ∧ Aside (Blk wr gc 116 (ints costL)) ∧ Aside (QInv wr gq wr q))
    case atStart => exact ⟨1000, firstQ s 8, [0, 0, 0, 0, 0, 0, 0, 0], b, Nat.le_refl _, rfl, ⟨hm8, h0, h1, ⟨rfl, by decide⟩, firstQ_all s 8 (Nat.le_refl _), by rw [firstQ_len]; exact Nat.le_refl _, rfl⟩, B.out, R.out, K.out, C.out, Q.out⟩
    case round =>
     clear B R K C Q hm8 hk hgk hlt h0 h1
     obtain ⟨f, q, k, bb, hf, rfl, hI, B, R, K, C, Q⟩ := hrel
     obtain ⟨hm, hb0, hb1, hks, hqa, hql, hE⟩ := hI.out
     clear hI
     obtain ⟨f, rfl⟩ : ∃ f', f = f' + 1 := ⟨f - 1, by omega⟩
     have cl := qLen_calls Q.out
     cases q with
     | nil =>
      rw [show (([] : List (Int × Int)).length : Int) = 0 from rfl] at cl
      have HE := hid (show k = gpL s b from hE)
      clear hE hm hqa hql Q
      have HKS := hid hks
      have HSZ := hid (show (Tryz.prog.info? 41).map (·.size) = some (ints k).size by rw [ints_size, hks.len]; kernel_rfl)
      have HSS := hid (show (ints k).size = (ints [0, 0, 0, 0, 0, 0, 0, 0]).size by rw [ints_size, hks.len]; rfl)
      have HON := hid (ints_one k)
      clear hks
      go_wp2_with fail
      refine cl.mono ?_
      rintro e w7 ⟨rfl, Q7⟩
      have hbq := Q7.bel
      have R7 := hid (blk_below R.out hbq (by have := HGK.out; omega))
      have K7 := hid (blk_below K.out hbq HGK.out)
      have B7 := hid (B.out.trans (hbq.mono HW4.out))
      clear cl Q7 hbq R K B C
      go_wp2_with (first | (refine wpList_load_blk (by rfl) 41 _ rfl (w.heap.size + 1 + 1) rfl 41 (ints k) _ K7.out Tryz.underlying41 rfl HSZ.out ?_) | (refine wpList_store_blk rfl 41 _ _ rfl (w.heap.size + 1) 41 _ (ints k) rfl rfl R7.out HSS.out HSZ.out HON.out ?_; intro w8 n0 n1))
      have B8 := hid (below_grown B7.out n1 (by have := B7.out.size; omega) (Nat.le_succ _))
      exact bodyPost_ret (results_row_slot rfl _ _ (w.heap.size + 1) 41 (ints k) (0, 0) _ _ rfl rfl n0 Tryz.underlying41 rfl HSZ.out) rfl ⟨by rw [HE.out]; rfl, B8.out⟩
     | cons y l =>
      have hlz : (0 : Int) < ((y :: l).length : Int) := by simp only [List.length_cons]; omega
      generalize hQ : y :: l = q at *
      have hne : q ≠ [] := by rw [← hQ]; simp
      have HQ := hid hQ
      clear hQ
      rw [← HQ.out, giveL, HQ.out] at hE
      have HE := hid hE
      have HQL := hid hql
      clear hE hql
      have HX1 := popX_all aheadB hqa hne
      have HX2 := popL_all aheadB hqa hne
      have HM := hid hm
      clear hm
      generalize (q.length : Int) = m at cl hlz
      have HNE := hid hne
      have HKS := hid hks
      have HQA := hid HX2
      clear hne HX2 hqa hks
      go_wp2_with fail
      refine cl.mono ?_
      rintro e w7 ⟨rfl, Q7⟩
      have hbq := Q7.bel
      have R7 := hid (blk_below R.out hbq (by have := HGK.out; omega))
      have K7 := hid (blk_below K.out hbq HGK.out)
      have C7 := hid (blk_below C.out hbq HG4.out)
      have B7 := hid (B.out.trans (hbq.mono HW4.out))
      have cp := qpop_heap (w0 := w7) (w := w7) (g := gq) (l := q) ⟨Below.refl _ _, Q7.small, Q7.row⟩ (List.length_pos_iff.2 HNE.out)
      clear cl Q7 hbq R K B C Q
      go_wp2_with fail
      refine cp.mono ?_
      rintro e w8 ⟨rfl, Q8⟩
      have hbq := Q8.bel
      have R8 := hid (blk_below R7.out hbq (by have := HGK.out; omega))
      have K8 := hid (blk_below K7.out hbq HGK.out)
      have C8 := hid (blk_below C7.out hbq HG4.out)
      have B8 := hid (B7.out.trans (hbq.mono HW4.out))
      have Q8' : Hid (QInv w8 gq w8 (popL aheadB q)) := hid ⟨Below.refl _ _, Q8.small, Q8.row⟩
      clear cp Q8 hbq R7 K7 B7 C7
      have HPL := hid (popL_len aheadB q)
      generalize popL aheadB q = q' at *
      generalize popX aheadB q = x at *
      obtain ⟨x1, x2⟩ := x
      dsimp only at HE HX1
      obtain ⟨bd, rfl⟩ : ∃ n : Nat, x1 = n := ⟨x1.toNat, by omega⟩
      have ta := turn_assert bd x2
      have hbd : bd < 8 := by omega
      rw [Int.toNat_natCast] at HE
      have hk1 := getD_all HKS.out.all (i := bd) (by rw [HKS.out.len]; exact hbd) 0
      have HKI := hid (show bd < k.length by rw [HKS.out.len]; exact hbd)
      obtain ⟨n, hn⟩ : ∃ n : Nat, k.getD bd 0 = n := ⟨(k.getD bd 0).toNat, by omega⟩
      rw [hn, Int.toNat_natCast] at HE
      rw [hn] at hk1
      have HN := hid hn
      clear hn
      have hgx : w.heap.size + 1 + 1 < w8.heap.size := by have := blk_lt K8.out; omega
      have hgcx : gc < w8.heap.size := blk_lt C8.out
      have HGX := hid hgx
      have HGCX := hid hgcx
      have B9 := hid (B8.out.alloc (by omega) (.cells #[Value.int .i64 0, .int .i64 0] 125))
      have hbdz : (0 : Int) ≤ bd := by omega
      have hbdz1 : (bd : Int) < 8 := by omega
      have hnz : (0 : Int) ≤ n := by omega
      have hnz1 : (n : Int) ≤ 12 := by omega
      have hs2 : (ints [(bd : Int), x2]).size = 2 := rfl
      have HS2 := hid hs2
      clear hgx hgcx hs2 hk1 HX1
      go_wp2_with (first | (refine wpList_store_blk rfl 125 _ _ rfl w8.heap.size 125 #[Value.int .i64 0, .int .i64 0] (ints [(bd : Int), x2]) rfl rfl (blk_new w8 _ _) HS2.out turn_size (ints_one _) ?_; intro w9 n0 n1; have cx0 : w9.cell? ⟨w8.heap.size, 0, none⟩ = some (.int .i64 bd) := blk_int n0 (i := 0) (by simp); have cx1 : w9.cell? ⟨w8.heap.size, 1, none⟩ = some (.int .i64 x2) := blk_int n0 (i := 1) (by simp); have K9 := hid (blk_grown (blk_alloc K8.out (.cells #[Value.int .i64 0, .int .i64 0] 125)) n1 (fun e => by injection e with e; have := HGX.out; omega)); have C9 := hid (blk_grown (blk_alloc C8.out (.cells #[Value.int .i64 0, .int .i64 0] 125)) n1 (fun e => by injection e with e; have := HGCX.out; omega)); have R9 := hid (blk_grown (blk_alloc R8.out (.cells #[Value.int .i64 0, .int .i64 0] 125)) n1 (fun e => by injection e with e; have := HGX.out; omega)); have ck : w9.cell? ⟨w.heap.size + 1 + 1, bd, none⟩ = some (.int .i64 n) := by rw [blk_int K9.out (i := bd) HKI.out, HN.out]))
      by_cases h12 : 12 ≤ n
      · have h12z : (12 : Int) ≤ n := by omega
        have hE := HE.out
        rw [if_pos (Or.inl h12z)] at hE
        have HE := hid hE
        clear hE
        refine plain_region (S := (fun L W => True)) (by kernel_rfl) (trivial) (fun hHeld => ?_)
        clear hHeld
        refine aW 0 trivial ?_
        refine aW 1 trivial ?_
        refine aW 2 trivial ?_
        refine aS 3 trivial ?_
        refine aS 4 trivial ?_
        refine aS 5 trivial ?_
        refine aS 6 trivial ?_
        refine aS 7 trivial ?_
        refine aS 8 trivial ?_
        refine aS 9 trivial ?_
        refine aS 10 trivial ?_
        refine aS 11 trivial ?_
        refine aS 12 trivial ?_
        refine aW 13 trivial ?_
        refine anyU_done (by kernel_rfl) ?_ _
        have B10 := hid (below_draws (below_grown B9.out n1 (by have := B9.out.size; exact this) (by have := B8.out.size; exact this)) 1)
        have R10 := hid (blk_draws R9.out 1)
        have K10 := hid (blk_draws K9.out 1)
        have C10 := hid (blk_draws C9.out 1)
        have q9 := qinv_below Q8'.out (below_grown ((Below.refl w8.heap.size w8).alloc (Nat.le_refl _) (.cells #[Value.int .i64 0, .int .i64 0] 125)) n1 (by simp) (Nat.le_refl _))
        have Q10 : Hid (QInv (w9.drewN 1) gq (w9.drewN 1) q') := hid ⟨Below.refl _ _, q9.small, (qinv_draws q9 1).row⟩
        have HMM := hid (show giveM q' k < f by have h1 := HM.out; have h2 := HPL.out; have h3 := List.length_pos_iff.2 HNE.out; unfold giveM at *; omega)
        have HQL' := hid (show q'.length ≤ 8 by have := HPL.out; have := HQL.out; omega)
        clear B9 R9 K9 C9 q9 Q8' n0 n1 R8 K8 C8 B8 cx0 cx1 ck
        change Exit.then _ _ Exit.normal _ (World.drewN _ 1)
        generalize World.drewN _ 1 = w10 at *
        go_wp2_with fail
        go_roundg f
        case measure => omega
        case rel => exact ⟨f, q', k, bb, Nat.le_refl _, rfl, ⟨HMM.out, hb0, hb1, HKS.out, HQA.out, HQL'.out, HE.out⟩, B10.out, R10.out, K10.out, C10.out, Q10.out⟩
      · have h12z : ¬ (12 : Int) ≤ n := by omega
        have hnz2 : (n : Int) + 1 < 13 := by omega
        have hnz3 : (0 : Int) ≤ (n : Int) + 1 := by omega
        have hnw : IntKind.i64.wrap ((n : Int) + 1) = n + 1 := IntWalk.i64_in _ (by omega)
        have hnz4 : (n : Int) < 13 := by omega
        have cc0 := blk_int C9.out (i := n) (by show n < 13; omega)
        have cc1 := blk_int C9.out (i := n + 1) (by show n + 1 < 13; omega)
        have hc0 := cost_in n (by omega)
        have hc1 := cost_in (n + 1) (by omega)
        have hd0 := costD_in n (by omega)
        have hd : IntKind.i64.wrap (costL.getD (n + 1) 0 - costL.getD n 0) = costD n := IntWalk.i64_in _ (by omega)
        have hbd1 : IntKind.i64.wrap (bb - costD n) = bb - costD n := IntWalk.i64_in _ (by omega)
        generalize costL.getD (n + 1) 0 = c1 at *
        generalize costL.getD n 0 = c0 at *
        generalize costD n = d at *
        obtain ⟨hc00, hc01⟩ := hc0
        obtain ⟨hc10, hc11⟩ := hc1
        obtain ⟨hd00, hd01⟩ := hd0
        by_cases hbd2 : bb < d
        · have hE := HE.out
          rw [if_pos (Or.inr hbd2)] at hE
          have HE := hid hE
          clear hE
          refine plain_region (S := (fun L W => W.cell? ⟨gc, n + 1, none⟩ = some (.int .i64 c1) ∧ W.cell? ⟨gc, n, none⟩ = some (.int .i64 c0))) (by kernel_rfl) (⟨cc1, cc0⟩) (fun hHeld => ?_)
          clear hHeld
          refine aW 0 ⟨cc1, cc0⟩ ?_
          refine aW 1 ⟨cc1, cc0⟩ ?_
          refine aW 2 ⟨cc1, cc0⟩ ?_
          refine aW 3 ⟨cc1, cc0⟩ ?_
          refine aW 4 ⟨cc1, cc0⟩ ?_
          refine aW 5 ⟨cc1, cc0⟩ ?_
          refine aL 6 10 (fun _ _ _ k => k.1) ⟨cc1, cc0⟩ ?_
          refine aW 7 ⟨cc1, cc0⟩ ?_
          refine aW 8 ⟨cc1, cc0⟩ ?_
          refine aL 9 10 (fun _ _ _ k => k.2) ⟨cc1, cc0⟩ ?_
          refine aW 10 ⟨cc1, cc0⟩ ?_
          refine aW 11 ⟨cc1, cc0⟩ ?_
          refine aW 12 ⟨cc1, cc0⟩ ?_
          refine aW 13 ⟨cc1, cc0⟩ ?_
          refine anyU_done (by kernel_rfl) ?_ _
          clear cc0 cc1
          have B10 := hid (below_draws (below_grown B9.out n1 (by have := B9.out.size; exact this) (by have := B8.out.size; exact this)) 1)
          have R10 := hid (blk_draws R9.out 1)
          have K10 := hid (blk_draws K9.out 1)
          have C10 := hid (blk_draws C9.out 1)
          have q9 := qinv_below Q8'.out (below_grown ((Below.refl w8.heap.size w8).alloc (Nat.le_refl _) (.cells #[Value.int .i64 0, .int .i64 0] 125)) n1 (by simp) (Nat.le_refl _))
          have Q10 : Hid (QInv (w9.drewN 1) gq (w9.drewN 1) q') := hid ⟨Below.refl _ _, q9.small, (qinv_draws q9 1).row⟩
          have HMM := hid (show giveM q' k < f by have h1 := HM.out; have h2 := HPL.out; have h3 := List.length_pos_iff.2 HNE.out; unfold giveM at *; omega)
          have HQL' := hid (show q'.length ≤ 8 by have := HPL.out; have := HQL.out; omega)
          clear B9 R9 K9 C9 q9 Q8' n0 n1 R8 K8 C8 B8 cx0 cx1 ck
          change Exit.then _ _ Exit.normal _ (World.drewN _ 1)
          generalize World.drewN _ 1 = w10 at *
          go_wp2_with fail
          go_roundg f
          case measure => omega
          case rel => exact ⟨f, q', k, bb, Nat.le_refl _, rfl, ⟨HMM.out, hb0, hb1, HKS.out, HQA.out, HQL'.out, HE.out⟩, B10.out, R10.out, K10.out, C10.out, Q10.out⟩
        · have hE := HE.out
          rw [if_neg (fun h => h.elim h12z hbd2), IntWalk.i64_left (x2 - 1)] at hE
          have HE := hid hE
          clear hE
          have cc0' : w9.drew.cell? ⟨gc, n, none⟩ = some (.int .i64 c0) := cc0
          have cc1' : w9.drew.cell? ⟨gc, n + 1, none⟩ = some (.int .i64 c1) := cc1
          have ck' : ((w9.drewN 1).drewN 1).cell? ⟨w.heap.size + 1 + 1, bd, none⟩ = some (.int .i64 n) := ck
          have cx0' : ((w9.drewN 1).drewN 1).cell? ⟨w8.heap.size, 0, none⟩ = some (.int .i64 bd) := cx0
          have fk' : ((w9.drewN 1).drewN 1).frozen? ⟨w.heap.size + 1 + 1, bd, none⟩ = false := blk_free (blk_draws (blk_draws K9.out 1) 1) bd
          refine plain_region (S := (fun L W => W.cell? ⟨gc, n + 1, none⟩ = some (.int .i64 c1) ∧ W.cell? ⟨gc, n, none⟩ = some (.int .i64 c0))) (by kernel_rfl) (⟨cc1, cc0⟩) (fun hHeld => ?_)
          clear hHeld
          refine aW 0 ⟨cc1, cc0⟩ ?_
          refine aW 1 ⟨cc1, cc0⟩ ?_
          refine aW 2 ⟨cc1, cc0⟩ ?_
          refine aW 3 ⟨cc1, cc0⟩ ?_
          refine aW 4 ⟨cc1, cc0⟩ ?_
          refine aW 5 ⟨cc1, cc0⟩ ?_
          refine aL 6 10 (fun _ _ _ k => k.1) ⟨cc1, cc0⟩ ?_
          refine aW 7 ⟨cc1, cc0⟩ ?_
          refine aW 8 ⟨cc1, cc0⟩ ?_
          refine aL 9 10 (fun _ _ _ k => k.2) ⟨cc1, cc0⟩ ?_
          refine aW 10 ⟨cc1, cc0⟩ ?_
          refine aW 11 ⟨cc1, cc0⟩ ?_
          refine aW 12 ⟨cc1, cc0⟩ ?_
          refine aW 13 ⟨cc1, cc0⟩ ?_
          refine anyU_done (by kernel_rfl) ?_ _
          go_wp2_with fail
          refine plain_region (S := (fun L W => W.cell? ⟨gc, n + 1, none⟩ = some (.int .i64 c1) ∧ W.cell? ⟨gc, n, none⟩ = some (.int .i64 c0))) (by kernel_rfl) (⟨cc1', cc0'⟩) (fun hHeld => ?_)
          clear hHeld
          refine aW 0 ⟨cc1', cc0'⟩ ?_
          refine aW 1 ⟨cc1', cc0'⟩ ?_
          refine aW 2 ⟨cc1', cc0'⟩ ?_
          refine aW 3 ⟨cc1', cc0'⟩ ?_
          refine aL 4 8 (fun _ _ _ k => k.1) ⟨cc1', cc0'⟩ ?_
          refine aW 5 ⟨cc1', cc0'⟩ ?_
          refine aW 6 ⟨cc1', cc0'⟩ ?_
          refine aL 7 8 (fun _ _ _ k => k.2) ⟨cc1', cc0'⟩ ?_
          refine aW 8 ⟨cc1', cc0'⟩ ?_
          refine aW 9 ⟨cc1', cc0'⟩ ?_
          refine aW 10 ⟨cc1', cc0'⟩ ?_
          refine anyU_done (by kernel_rfl) ?_ _
          clear cc0 cc1 cc0' cc1' ck cx0 cx1
          have k11 := blk_set_int (blk_draws (blk_draws K9.out 1) 1) bd ((n : Int) + 1)
          have B11 := hid (below_set (below_draws (below_draws (below_grown B9.out n1 (by have := B9.out.size; exact this) (by have := B8.out.size; exact this)) 1) 1) (b := w.heap.size + 1 + 1) (i := bd) (by omega) (.int .i64 ((n : Int) + 1)))
          have R11 := hid (blk_far (b := w.heap.size + 1 + 1) (i := bd) (blk_draws (blk_draws R9.out 1) 1) (by omega) (.int .i64 ((n : Int) + 1)))
          have C11 := hid (blk_far (b := w.heap.size + 1 + 1) (i := bd) (blk_draws (blk_draws C9.out 1) 1) (by have := HGC.out; omega) (.int .i64 ((n : Int) + 1)))
          have K11 := hid k11
          have q9 := qinv_below Q8'.out (below_grown ((Below.refl w8.heap.size w8).alloc (Nat.le_refl _) (.cells #[Value.int .i64 0, .int .i64 0] 125)) n1 (by simp) (Nat.le_refl _))
          have q10 := qinv_draws (qinv_draws q9 1) 1
          have Q11 : Hid (QInv ((w9.drewN 1).drewN 1 |>.setCell ⟨w.heap.size + 1 + 1, bd, none⟩ (.int .i64 ((n : Int) + 1))) gq ((w9.drewN 1).drewN 1 |>.setCell ⟨w.heap.size + 1 + 1, bd, none⟩ (.int .i64 ((n : Int) + 1))) q') := by
           obtain ⟨v, e1, e2⟩ := q10.row
           exact hid ⟨Below.refl _ _, q10.small, v, blk_far e1 (by have := HGK.out; omega) _, srow_far e2 (by have := HGK.out; omega) _ _⟩
          have cx0'' : ((w9.drewN 1).drewN 1 |>.setCell ⟨w.heap.size + 1 + 1, bd, none⟩ (.int .i64 ((n : Int) + 1))).cell? ⟨w8.heap.size, 0, none⟩ = some (.int .i64 bd) := blk_int (blk_far (blk_draws (blk_draws n0 1) 1) (by have := HGX.out; omega) _) (i := 0) (by simp)
          have cx1'' : ((w9.drewN 1).drewN 1 |>.setCell ⟨w.heap.size + 1 + 1, bd, none⟩ (.int .i64 ((n : Int) + 1))).cell? ⟨w8.heap.size, 1, none⟩ = some (.int .i64 x2) := blk_int (blk_far (blk_draws (blk_draws n0 1) 1) (by have := HGX.out; omega) _) (i := 1) (by simp)
          clear k11 q9 q10 B9 R9 K9 C9 n0 n1 Q8'
          change Exit.then _ _ Exit.normal _ ((w9.drewN 1).drewN 1)
          generalize (w9.drewN 1).drewN 1 = w10 at *
          have hs2 : q'.length < 1000 := by have := HPL.out; have := HQL.out; omega
          have cp := qpush_heap ((bd : Int), wrap64 (x2 - 1)) Q11.out hs2
          have HQA2 := hid (pushH_all aheadB (P := fun x : Int × Int => 0 ≤ x.1 ∧ x.1 < 8) HQA.out (x := ((bd : Int), wrap64 (x2 - 1))) ⟨hbdz, hbdz1⟩)
          have HPL2 := hid (pushH_len aheadB q' ((bd : Int), wrap64 (x2 - 1)))
          have hks2 : Ks (k.set bd ((n : Int) + 1)) := ⟨by rw [List.length_set]; exact HKS.out.len, set_all HKS.out.all _ ⟨by omega, by omega⟩⟩
          have hsum : (k.set bd ((n : Int) + 1)).sum = k.sum + 1 := by
           have := sum_set (fun x : Int => x) k bd ((n : Int) + 1) 0 HKI.out
           rw [List.map_id', List.map_id', HN.out] at this
           rw [this]
           omega
          have HMM := hid (show giveM (pushH aheadB q' ((bd : Int), wrap64 (x2 - 1))) (k.set bd ((n : Int) + 1)) < f by
           have h1 := HM.out
           have h2 := HPL.out
           have h3 := List.length_pos_iff.2 HNE.out
           have h4 := (ks_sum _ hks2.all).2
           rw [hks2.len] at h4
           unfold giveM at *
           rw [pushH_len, hsum] at *
           omega)
          have HKS2 := hid hks2
          have HQL2 := hid (show (pushH aheadB q' ((bd : Int), wrap64 (x2 - 1))).length ≤ 8 by have h1 := HPL2.out; have := HPL.out; have := HQL.out; have := List.length_pos_iff.2 HNE.out; omega)
          clear hks2 hsum hs2
          go_wp2_with fail
          refine cp.mono ?_
          rintro e w12 ⟨rfl, Q12⟩
          have hbq := Q12.bel
          have R12 := hid (blk_below R11.out hbq (by have := HGK.out; omega))
          have K12 := hid (blk_below K11.out hbq HGK.out)
          have C12 := hid (blk_below C11.out hbq HG4.out)
          have B12 := hid (B11.out.trans (hbq.mono HW4.out))
          have Q12' : Hid (QInv w12 gq w12 _) := hid ⟨Below.refl _ _, Q12.small, Q12.row⟩
          have hb3 : 0 ≤ bb - d := by omega
          have hb4 : bb - d ≤ 1048576 := by omega
          clear cp Q12 hbq R11 K11 B11 C11 Q11 cx0' cx0'' cx1'' ck' fk' hd hbd1 hnw
          go_wp2_with fail
          go_roundg f
          case measure => omega
          case rel => exact ⟨f, _, _, bb - d, Nat.le_refl _, rfl, ⟨HMM.out, hb3, hb4, HKS2.out, HQA2.out, HQL2.out, HE.out⟩, B12.out, R12.out, K12.out, C12.out, Q12'.out⟩
end Go.Proofs.YtiigipnfnfpepaaGreatDoor
