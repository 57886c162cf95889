/- A frame's bit (layer 18): the best vector. -/
import Derived.Test.YtiigipnfnfpepaaGreatDoorUC9
import Derived.Test.YtiigipnfnfpepaaGreatDoorUC10
import Derived.Test.YtiigipnfnfpepaaGreatDoorUA
namespace Go.Proofs.YtiigipnfnfpepaaGreatDoor
open Go.RowKit

def srL (y c : List Int) (m : Int) (b : List Int) (f : Int) : List Int := y ++ c ++ m :: b ++ [f]
abbrev ST84 : TypeId := 84
section
variable {w : World} {g : Nat} {y c b : List Int} {m f : Int}
theorem sr_y (h : Blk w g ST84 (ints (srL y c m b f))) (hy : y.length = 4) : w.rangeAt g 0 (y.map (.int .i64)) := fun j v hj => by
 obtain ⟨a0, a1, a2, a3, rfl⟩ := list4 hy
 rw [blk_cell h, ints_get, Nat.zero_add]
 match j, hj with
 | 0, hj => exact hj
 | 1, hj => exact hj
 | 2, hj => exact hj
 | 3, hj => exact hj
 | j + 4, hj => simp at hj
theorem sr_c (h : Blk w g ST84 (ints (srL y c m b f))) (hy : y.length = 4) (hc : c.length = 4) : w.rangeAt g 4 (c.map (.int .i64)) := fun j v hj => by
 obtain ⟨a0, a1, a2, a3, rfl⟩ := list4 hy
 obtain ⟨c0, c1, c2, c3, rfl⟩ := list4 hc
 rw [blk_cell h, ints_get]
 match j, hj with
 | 0, hj => exact hj
 | 1, hj => exact hj
 | 2, hj => exact hj
 | 3, hj => exact hj
 | j + 4, hj => simp at hj
theorem sr_b (h : Blk w g ST84 (ints (srL y c m b f))) (hy : y.length = 4) (hc : c.length = 4) (hb : b.length = 4) : w.rangeAt g 9 (b.map (.int .i64)) := fun j v hj => by
 obtain ⟨a0, a1, a2, a3, rfl⟩ := list4 hy
 obtain ⟨c0, c1, c2, c3, rfl⟩ := list4 hc
 obtain ⟨b0, b1, b2, b3, rfl⟩ := list4 hb
 rw [blk_cell h, ints_get]
 match j, hj with
 | 0, hj => exact hj
 | 1, hj => exact hj
 | 2, hj => exact hj
 | 3, hj => exact hj
 | j + 4, hj => simp at hj
theorem sr_m (h : Blk w g ST84 (ints (srL y c m b f))) (hy : y.length = 4) (hc : c.length = 4) : w.cell? ⟨g, 8, none⟩ = some (.int .i64 m) := by
 obtain ⟨a0, a1, a2, a3, rfl⟩ := list4 hy
 obtain ⟨c0, c1, c2, c3, rfl⟩ := list4 hc
 rw [blk_cell h, ints_get]; rfl
theorem sr_f (h : Blk w g ST84 (ints (srL y c m b f))) (hy : y.length = 4) (hc : c.length = 4) (hb : b.length = 4) : w.cell? ⟨g, 13, none⟩ = some (.int .i64 f) := by
 obtain ⟨a0, a1, a2, a3, rfl⟩ := list4 hy
 obtain ⟨c0, c1, c2, c3, rfl⟩ := list4 hc
 obtain ⟨b0, b1, b2, b3, rfl⟩ := list4 hb
 rw [blk_cell h, ints_get]; rfl
theorem grown_setCell (w : World) (g i : Nat) (u : Value) : w.grownBy (w.setCell ⟨g, i, none⟩ u) (some g) :=
 ⟨rfl, rfl, rfl, by simp [World.setCell], fun k _ hne => Below.heap_setCell w ⟨g, i, none⟩ u k (fun e => hne (by rw [e]))⟩
theorem sr_put (h : Blk w g ST84 (ints (srL y c m b f))) (hy : y.length = 4) (hc : c.length = 4) (hb : b.length = 4) {z : List Int} (hz : z.length = 4) (d : Int) :
 w.there g 9 4 ∧ Blk (w.setCells g 9 (z.map (.int .i64))) g ST84 (ints (srL y c m z f)) ∧ Blk ((w.setCells g 9 (z.map (.int .i64))).setCell ⟨g, 13, none⟩ (.int .i64 d)) g ST84 (ints (srL y c m z d)) ∧ w.grownBy ((w.setCells g 9 (z.map (.int .i64))).setCell ⟨g, 13, none⟩ (.int .i64 d)) (some g) := by
 obtain ⟨a0, a1, a2, a3, rfl⟩ := list4 hy
 obtain ⟨c0, c1, c2, c3, rfl⟩ := list4 hc
 obtain ⟨b0, b1, b2, b3, rfl⟩ := list4 hb
 obtain ⟨z0, z1, z2, z3, rfl⟩ := list4 hz
 have h1 := blk_set_int (blk_set_int (blk_set_int (blk_set_int h 9 z0) 10 z1) 11 z2) 12 z3
 refine ⟨fun j hj => ?_, h1, blk_set_int h1 13 d, ?_⟩
 · rw [blk_cell h, ints_get]
   match j, hj with
   | 0, _ => exact ⟨rfl, blk_free h _⟩
   | 1, _ => exact ⟨rfl, blk_free h _⟩
   | 2, _ => exact ⟨rfl, blk_free h _⟩
   | 3, _ => exact ⟨rfl, blk_free h _⟩
 · exact ((((grown_setCell w g 9 _).trans (grown_setCell _ g 10 _)).trans (grown_setCell _ g 11 _)).trans (grown_setCell _ g 12 _)).trans (grown_setCell _ g 13 _)
end
def lookF (y c : List Int) (m : Int) (s : List Int × Int) (z : List Int) : List Int × Int :=
 if 2 ≤ sumC z c 4 ∧ farL y z ≤ m ∧ (s.2 < 0 ∨ farL y z < s.2) then (z, farL y z) else s
theorem below_grown' {w w' : World} (h : Below w.heap.size w w') (r : Option Nat) : w.grownBy w' r := ⟨h.os, h.tape, h.output, h.size, fun k hk _ => h.block k hk⟩

set_option maxRecDepth 20000 in
set_option maxHeartbeats 4000000 in
theorem look_calls (y c : List Int) (m : Int) (s : List Int × Int) (z : List Int) (g : Nat) (w : World) (hy : PIn y) (hc : ChIn c) (hz : PIn z) (hb4 : s.1.length = 4) (hb : Blk w g ST84 (ints (srL y c m s.1 s.2))) :
 Calls Tryz.prog 42 #[.pointer (some ⟨g, 0, none⟩), .agg (ints z)] w fun e w' => e = .returned (.tuple #[]) ∧ Blk w' g ST84 (ints (srL y c m (lookF y c m s z).1 (lookF y c m s z).2)) ∧ w.grownBy w' (some g) := by
 obtain ⟨b, f⟩ := s
 dsimp only at hb hb4
 have HLF : Hid (lookF y c m (b, f) z = if 2 ≤ sumC z c 4 ∧ farL y z ≤ m ∧ (f < 0 ∨ farL y z < f) then (z, farL y z) else (b, f)) := hid rfl
 have hg := blk_lt hb
 have hb1 := blk_alloc hb (.cells (ints z) 44)
 have z1 := blk_new w 44 (ints z)
 have G1 := hid (World.grownBy_alloc w (.cells (ints z) 44) (some g))
 have HZZ := hid (show (Tryz.prog.info? 44).map (·.size) = some (ints z).size by rw [ints_size, hz.len]; kernel_rfl)
 have HYP := hid (pul_size hy.len)
 have HZP := hid (pul_size hz.len)
 have HCP := hid (show (Tryz.prog.info? 43).map (·.size) = some (c.map (Value.int .i64)).length by rw [List.length_map, hc.len]; kernel_rfl)
 have cf := fun W => far_calls y z W hy.len hz.len (fun q hq => by have := hy.all q hq; omega) (fun q hq => by have := hz.all q hq; omega)
 have cs := fun W => mSum_calls z c W hz hc
 have HB := hid hb1
 have HZ := hid z1
 have HYL := hid hy.len
 have HCL := hid hc.len
 have HBL := hid hb4
 have HZL := hid hz.len
 have HGG := hid hg
 have y1 := sr_y hb1 hy.len
 clear hb hb1 hy hc hz hb4 hg
 generalize farL y z = d at *
 generalize sumC z c 4 = sm at *
 generalize lookF y c m (b, f) z = res at *
 go_enter Tryz.func42, Tryz.ntmps42
 go_wp2_with fail
 generalize w.alloc (.cells (ints z) 44) = w1 at *
 generalize hgz : w.heap.size = gz at *
 have HGZ := hid hgz
 clear hgz
 have hgz1 := blk_lt HZ.out
 refine plain_region (S := (fun L W => (L.getD 5 true = true ∨ W.rangeAt g 0 (y.map (Value.int .i64))) ∧ (L.getD 5 true = true ∨ Blk W gz 44 (ints z)))) (by kernel_rfl) (⟨Or.inr y1, Or.inr z1⟩) (fun hHeld => ?_)
 clear hHeld
 refine aW 0 ⟨Or.inr y1, Or.inr z1⟩ ?_
 refine aW 1 ⟨Or.inr y1, Or.inr z1⟩ ?_
 refine aW 2 ⟨Or.inr y1, Or.inr z1⟩ ?_
 refine aB 3 5 rfl (fun _ _ h k => rL k.1 h) (yieldsIf_load_mid (by rfl) 44 _ rfl g 0 rfl _ _ (fun _ h => h) Tryz.underlying44 rfl HYP.out) ⟨Or.inr y1, Or.inr z1⟩ ?_
 refine aB 4 5 rfl (fun _ _ h k => rL k.2 h) (yields_blk (by rfl) 44 _ rfl gz rfl 44 (ints z) _ (fun _ h => h) Tryz.underlying44 rfl HZZ.out) ⟨Or.inr y1, Or.inr z1⟩ ?_
 refine aR 5 (fun K hK => ?_)
 go_simp
 refine (cf _).mono ?_
 rintro e w2 ⟨rfl, B2⟩
 have B2' := hid B2
 clear B2
 refine hK.out _ _ (⟨Or.inl (by rfl), Or.inl (by rfl)⟩) (fun hHeld => ?_)
 clear hK K
 try simp only [Act.put, tA, tB, tC]
 clear hHeld
 refine aW 6 ⟨Or.inl (by rfl), Or.inl (by rfl)⟩ ?_
 refine anyU_done (by kernel_rfl) ?_ _
 have B2 := B2'.out
 have HB2 := hid (blk_draws (blk_below (blk_drew HB.out) B2 (blk_lt HB.out)) 1)
 have hb2 := blk_below (blk_drew HB.out) B2 (blk_lt HB.out)
 have z2 := blk_below (blk_drew HZ.out) B2 hgz1
 have c2 := sr_c hb2 HYL.out HCL.out
 have m2 := sr_m hb2 HYL.out HCL.out
 have f2 := sr_f hb2 HYL.out HCL.out HBL.out
 have G2 := hid (G1.out.trans (below_grown' (show Below w1.heap.size w1 w2 from (below_draws (Below.refl _ w1) 1).trans B2) (some g)))
 have HB2' := hid hb2
 have HZ2 := hid z2
 have hg2 := hid (blk_lt hb2)
 have hgz2 := hid (blk_lt z2)
 clear B2 hb2 y1 z1 B2' HB2 cf hgz1 G1 HB HZ
 by_cases h1 : 2 ≤ sm
 · by_cases h2 : d ≤ m
   · by_cases h3 : f < 0
     · have HX := hid (show res = (z, d) by rw [HLF.out, if_pos (by omega)])
       clear HLF
       go_wp2_with fail
       refine plain_region (S := (fun L W => (L.getD 5 true = true ∨ Blk W gz 44 (ints z)) ∧ (L.getD 5 true = true ∨ W.rangeAt g 4 (c.map (Value.int .i64))) ∧ W.cell? ⟨g, 8, none⟩ = some (.int .i64 m) ∧ W.cell? ⟨g, 13, none⟩ = some (.int .i64 f))) (by kernel_rfl) (⟨Or.inr z2, Or.inr c2, m2, f2⟩) (fun hHeld => ?_)
       clear hHeld
       refine aB 0 5 rfl (fun _ _ h k => rL k.1 h) (yields_blk (by rfl) 44 _ rfl gz rfl 44 (ints z) _ (fun _ h => h) Tryz.underlying44 rfl HZZ.out) ⟨Or.inr z2, Or.inr c2, m2, f2⟩ ?_
       refine aW 1 ⟨Or.inr z2, Or.inr c2, m2, f2⟩ ?_
       refine aW 2 ⟨Or.inr z2, Or.inr c2, m2, f2⟩ ?_
       refine aW 3 ⟨Or.inr z2, Or.inr c2, m2, f2⟩ ?_
       refine aB 4 5 rfl (fun _ _ h k => rL k.2.1 h) (yieldsIf_load_mid (by rfl) 43 _ rfl g 4 rfl _ _ (fun _ h => h) Tryz.underlying43 rfl HCP.out) ⟨Or.inr z2, Or.inr c2, m2, f2⟩ ?_
       refine aR 5 (fun K hK => ?_)
       go_simp
       refine (cs _).mono ?_
       rintro e w3 ⟨rfl, B3⟩
       have B3' := hid B3
       have hb3 := blk_below (blk_drew HB2'.out) B3 hg2.out
       have m2 := sr_m hb3 HYL.out HCL.out
       have f2 := sr_f hb3 HYL.out HCL.out HBL.out
       have HB3 := hid hb3
       have HZ3 := hid (blk_below (blk_drew HZ2.out) B3 hgz2.out)
       clear B3 hb3
       refine hK.out _ _ (⟨Or.inl (by rfl), Or.inl (by rfl), m2, f2⟩) (fun hHeld => ?_)
       clear hK K
       try simp only [Act.put, tA, tB, tC]
       clear hHeld
       refine aW 6 ⟨Or.inl (by rfl), Or.inl (by rfl), m2, f2⟩ ?_
       refine aW 7 ⟨Or.inl (by rfl), Or.inl (by rfl), m2, f2⟩ ?_
       refine aW 8 ⟨Or.inl (by rfl), Or.inl (by rfl), m2, f2⟩ ?_
       refine aW 9 ⟨Or.inl (by rfl), Or.inl (by rfl), m2, f2⟩ ?_
       refine aW 10 ⟨Or.inl (by rfl), Or.inl (by rfl), m2, f2⟩ ?_
       refine aW 11 ⟨Or.inl (by rfl), Or.inl (by rfl), m2, f2⟩ ?_
       refine aL 12 13 (fun _ _ _ k => k.2.2.1) ⟨Or.inl (by rfl), Or.inl (by rfl), m2, f2⟩ ?_
       refine aW 13 ⟨Or.inl (by rfl), Or.inl (by rfl), m2, f2⟩ ?_
       refine aW 14 ⟨Or.inl (by rfl), Or.inl (by rfl), m2, f2⟩ ?_
       refine aW 15 ⟨Or.inl (by rfl), Or.inl (by rfl), m2, f2⟩ ?_
       refine aW 16 ⟨Or.inl (by rfl), Or.inl (by rfl), m2, f2⟩ ?_
       refine aW 17 ⟨Or.inl (by rfl), Or.inl (by rfl), m2, f2⟩ ?_
       refine aW 18 ⟨Or.inl (by rfl), Or.inl (by rfl), m2, f2⟩ ?_
       refine aL 19 20 (fun _ _ _ k => k.2.2.2) ⟨Or.inl (by rfl), Or.inl (by rfl), m2, f2⟩ ?_
       refine aW 20 ⟨Or.inl (by rfl), Or.inl (by rfl), m2, f2⟩ ?_
       refine aW 21 ⟨Or.inl (by rfl), Or.inl (by rfl), m2, f2⟩ ?_
       refine aS 22 ⟨Or.inl (by rfl), Or.inl (by rfl), m2, f2⟩ ?_
       refine aS 23 ⟨Or.inl (by rfl), Or.inl (by rfl), m2, f2⟩ ?_
       refine aS 24 ⟨Or.inl (by rfl), Or.inl (by rfl), m2, f2⟩ ?_
       refine aS 25 ⟨Or.inl (by rfl), Or.inl (by rfl), m2, f2⟩ ?_
       refine aS 26 ⟨Or.inl (by rfl), Or.inl (by rfl), m2, f2⟩ ?_
       refine aS 27 ⟨Or.inl (by rfl), Or.inl (by rfl), m2, f2⟩ ?_
       refine aW 28 ⟨Or.inl (by rfl), Or.inl (by rfl), m2, f2⟩ ?_
       refine aW 29 ⟨Or.inl (by rfl), Or.inl (by rfl), m2, f2⟩ ?_
       refine anyU_done (by kernel_rfl) ?_ _
       clear c2 m2 f2 z2
       obtain ⟨q1, q2, q3, q4⟩ := sr_put HB3.out HYL.out HCL.out HBL.out HZL.out d
       have T1 := hid q1
       have HB4 := hid q3
       have f5 := blk_free q2 13
       have f5c := sr_f q2 HYL.out HCL.out HZL.out
       have G4 := hid ((G2.out.trans ((below_grown' (show Below w2.heap.size w2 w3 from (below_draws (Below.refl _ w2) 1).trans B3'.out) (some g)))).trans q4)
       clear q1 q2 q3 q4 HB3 HB2' HZ2
       go_wp2_with (first | (refine wpList_load_blk (by rfl) 44 _ rfl gz rfl 44 (ints z) _ HZ3.out Tryz.underlying44 rfl HZZ.out ?_) | (refine wpList_store_mid rfl 44 _ _ rfl g 9 (ints z) rfl rfl (by rw [ints_size, HZL.out]; exact T1.out) HZZ.out (ints_one _) ?_; rw [show (ints z).toList = z.map (Value.int .i64) from rfl]))
       go_end0
       exact ⟨rfl, by rw [HX.out]; exact HB4.out, G4.out⟩
     · have e3 : decide (f < 0) = false := decide_eq_false h3
       by_cases h4 : d < f
       · have HX := hid (show res = (z, d) by rw [HLF.out, if_pos (by omega)])
         clear HLF
         go_wp2_with fail
         refine plain_region (S := (fun L W => (L.getD 5 true = true ∨ Blk W gz 44 (ints z)) ∧ (L.getD 5 true = true ∨ W.rangeAt g 4 (c.map (Value.int .i64))) ∧ W.cell? ⟨g, 8, none⟩ = some (.int .i64 m) ∧ W.cell? ⟨g, 13, none⟩ = some (.int .i64 f) ∧ W.cell? ⟨g, 13, none⟩ = some (.int .i64 f))) (by kernel_rfl) (⟨Or.inr z2, Or.inr c2, m2, f2, f2⟩) (fun hHeld => ?_)
         clear hHeld
         refine aB 0 5 rfl (fun _ _ h k => rL k.1 h) (yields_blk (by rfl) 44 _ rfl gz rfl 44 (ints z) _ (fun _ h => h) Tryz.underlying44 rfl HZZ.out) ⟨Or.inr z2, Or.inr c2, m2, f2, f2⟩ ?_
         refine aW 1 ⟨Or.inr z2, Or.inr c2, m2, f2, f2⟩ ?_
         refine aW 2 ⟨Or.inr z2, Or.inr c2, m2, f2, f2⟩ ?_
         refine aW 3 ⟨Or.inr z2, Or.inr c2, m2, f2, f2⟩ ?_
         refine aB 4 5 rfl (fun _ _ h k => rL k.2.1 h) (yieldsIf_load_mid (by rfl) 43 _ rfl g 4 rfl _ _ (fun _ h => h) Tryz.underlying43 rfl HCP.out) ⟨Or.inr z2, Or.inr c2, m2, f2, f2⟩ ?_
         refine aR 5 (fun K hK => ?_)
         go_simp
         refine (cs _).mono ?_
         rintro e w3 ⟨rfl, B3⟩
         have B3' := hid B3
         have hb3 := blk_below (blk_drew HB2'.out) B3 hg2.out
         have m2 := sr_m hb3 HYL.out HCL.out
         have f2 := sr_f hb3 HYL.out HCL.out HBL.out
         have HB3 := hid hb3
         have HZ3 := hid (blk_below (blk_drew HZ2.out) B3 hgz2.out)
         clear B3 hb3
         refine hK.out _ _ (⟨Or.inl (by rfl), Or.inl (by rfl), m2, f2, f2⟩) (fun hHeld => ?_)
         clear hK K
         try simp only [Act.put, tA, tB, tC]
         clear hHeld
         refine aW 6 ⟨Or.inl (by rfl), Or.inl (by rfl), m2, f2, f2⟩ ?_
         refine aW 7 ⟨Or.inl (by rfl), Or.inl (by rfl), m2, f2, f2⟩ ?_
         refine aW 8 ⟨Or.inl (by rfl), Or.inl (by rfl), m2, f2, f2⟩ ?_
         refine aW 9 ⟨Or.inl (by rfl), Or.inl (by rfl), m2, f2, f2⟩ ?_
         refine aW 10 ⟨Or.inl (by rfl), Or.inl (by rfl), m2, f2, f2⟩ ?_
         refine aW 11 ⟨Or.inl (by rfl), Or.inl (by rfl), m2, f2, f2⟩ ?_
         refine aL 12 13 (fun _ _ _ k => k.2.2.1) ⟨Or.inl (by rfl), Or.inl (by rfl), m2, f2, f2⟩ ?_
         refine aW 13 ⟨Or.inl (by rfl), Or.inl (by rfl), m2, f2, f2⟩ ?_
         refine aW 14 ⟨Or.inl (by rfl), Or.inl (by rfl), m2, f2, f2⟩ ?_
         refine aW 15 ⟨Or.inl (by rfl), Or.inl (by rfl), m2, f2, f2⟩ ?_
         refine aW 16 ⟨Or.inl (by rfl), Or.inl (by rfl), m2, f2, f2⟩ ?_
         refine aW 17 ⟨Or.inl (by rfl), Or.inl (by rfl), m2, f2, f2⟩ ?_
         refine aW 18 ⟨Or.inl (by rfl), Or.inl (by rfl), m2, f2, f2⟩ ?_
         refine aL 19 20 (fun _ _ _ k => k.2.2.2.1) ⟨Or.inl (by rfl), Or.inl (by rfl), m2, f2, f2⟩ ?_
         refine aW 20 ⟨Or.inl (by rfl), Or.inl (by rfl), m2, f2, f2⟩ ?_
         refine aW 21 ⟨Or.inl (by rfl), Or.inl (by rfl), m2, f2, f2⟩ ?_
         refine aW 22 ⟨Or.inl (by rfl), Or.inl (by rfl), m2, f2, f2⟩ ?_
         refine aW 23 ⟨Or.inl (by rfl), Or.inl (by rfl), m2, f2, f2⟩ ?_
         refine aW 24 ⟨Or.inl (by rfl), Or.inl (by rfl), m2, f2, f2⟩ ?_
         refine aW 25 ⟨Or.inl (by rfl), Or.inl (by rfl), m2, f2, f2⟩ ?_
         refine aL 26 27 (fun _ _ _ k => k.2.2.2.2) ⟨Or.inl (by rfl), Or.inl (by rfl), m2, f2, f2⟩ ?_
         refine aW 27 ⟨Or.inl (by rfl), Or.inl (by rfl), m2, f2, f2⟩ ?_
         refine aW 28 ⟨Or.inl (by rfl), Or.inl (by rfl), m2, f2, f2⟩ ?_
         refine aW 29 ⟨Or.inl (by rfl), Or.inl (by rfl), m2, f2, f2⟩ ?_
         refine anyU_done (by kernel_rfl) ?_ _
         clear c2 m2 f2 z2
         obtain ⟨q1, q2, q3, q4⟩ := sr_put HB3.out HYL.out HCL.out HBL.out HZL.out d
         have T1 := hid q1
         have HB4 := hid q3
         have f5 := blk_free q2 13
         have f5c := sr_f q2 HYL.out HCL.out HZL.out
         have G4 := hid ((G2.out.trans ((below_grown' (show Below w2.heap.size w2 w3 from (below_draws (Below.refl _ w2) 1).trans B3'.out) (some g)))).trans q4)
         clear q1 q2 q3 q4 HB3 HB2' HZ2
         go_wp2_with (first | (refine wpList_load_blk (by rfl) 44 _ rfl gz rfl 44 (ints z) _ HZ3.out Tryz.underlying44 rfl HZZ.out ?_) | (refine wpList_store_mid rfl 44 _ _ rfl g 9 (ints z) rfl rfl (by rw [ints_size, HZL.out]; exact T1.out) HZZ.out (ints_one _) ?_; rw [show (ints z).toList = z.map (Value.int .i64) from rfl]))
         go_end0
         exact ⟨rfl, by rw [HX.out]; exact HB4.out, G4.out⟩
       · have HX := hid (show res = (b, f) by rw [HLF.out, if_neg (by omega)])
         clear HLF
         go_wp2_with fail
         refine plain_region (S := (fun L W => (L.getD 5 true = true ∨ Blk W gz 44 (ints z)) ∧ (L.getD 5 true = true ∨ W.rangeAt g 4 (c.map (Value.int .i64))) ∧ W.cell? ⟨g, 8, none⟩ = some (.int .i64 m) ∧ W.cell? ⟨g, 13, none⟩ = some (.int .i64 f) ∧ W.cell? ⟨g, 13, none⟩ = some (.int .i64 f))) (by kernel_rfl) (⟨Or.inr z2, Or.inr c2, m2, f2, f2⟩) (fun hHeld => ?_)
         clear hHeld
         refine aB 0 5 rfl (fun _ _ h k => rL k.1 h) (yields_blk (by rfl) 44 _ rfl gz rfl 44 (ints z) _ (fun _ h => h) Tryz.underlying44 rfl HZZ.out) ⟨Or.inr z2, Or.inr c2, m2, f2, f2⟩ ?_
         refine aW 1 ⟨Or.inr z2, Or.inr c2, m2, f2, f2⟩ ?_
         refine aW 2 ⟨Or.inr z2, Or.inr c2, m2, f2, f2⟩ ?_
         refine aW 3 ⟨Or.inr z2, Or.inr c2, m2, f2, f2⟩ ?_
         refine aB 4 5 rfl (fun _ _ h k => rL k.2.1 h) (yieldsIf_load_mid (by rfl) 43 _ rfl g 4 rfl _ _ (fun _ h => h) Tryz.underlying43 rfl HCP.out) ⟨Or.inr z2, Or.inr c2, m2, f2, f2⟩ ?_
         refine aR 5 (fun K hK => ?_)
         go_simp
         refine (cs _).mono ?_
         rintro e w3 ⟨rfl, B3⟩
         have B3' := hid B3
         have hb3 := blk_below (blk_drew HB2'.out) B3 hg2.out
         have m2 := sr_m hb3 HYL.out HCL.out
         have f2 := sr_f hb3 HYL.out HCL.out HBL.out
         have HB3 := hid hb3
         have HZ3 := hid (blk_below (blk_drew HZ2.out) B3 hgz2.out)
         clear B3 hb3
         refine hK.out _ _ (⟨Or.inl (by rfl), Or.inl (by rfl), m2, f2, f2⟩) (fun hHeld => ?_)
         clear hK K
         try simp only [Act.put, tA, tB, tC]
         clear hHeld
         refine aW 6 ⟨Or.inl (by rfl), Or.inl (by rfl), m2, f2, f2⟩ ?_
         refine aW 7 ⟨Or.inl (by rfl), Or.inl (by rfl), m2, f2, f2⟩ ?_
         refine aW 8 ⟨Or.inl (by rfl), Or.inl (by rfl), m2, f2, f2⟩ ?_
         refine aW 9 ⟨Or.inl (by rfl), Or.inl (by rfl), m2, f2, f2⟩ ?_
         refine aW 10 ⟨Or.inl (by rfl), Or.inl (by rfl), m2, f2, f2⟩ ?_
         refine aW 11 ⟨Or.inl (by rfl), Or.inl (by rfl), m2, f2, f2⟩ ?_
         refine aL 12 13 (fun _ _ _ k => k.2.2.1) ⟨Or.inl (by rfl), Or.inl (by rfl), m2, f2, f2⟩ ?_
         refine aW 13 ⟨Or.inl (by rfl), Or.inl (by rfl), m2, f2, f2⟩ ?_
         refine aW 14 ⟨Or.inl (by rfl), Or.inl (by rfl), m2, f2, f2⟩ ?_
         refine aW 15 ⟨Or.inl (by rfl), Or.inl (by rfl), m2, f2, f2⟩ ?_
         refine aW 16 ⟨Or.inl (by rfl), Or.inl (by rfl), m2, f2, f2⟩ ?_
         refine aW 17 ⟨Or.inl (by rfl), Or.inl (by rfl), m2, f2, f2⟩ ?_
         refine aW 18 ⟨Or.inl (by rfl), Or.inl (by rfl), m2, f2, f2⟩ ?_
         refine aL 19 20 (fun _ _ _ k => k.2.2.2.1) ⟨Or.inl (by rfl), Or.inl (by rfl), m2, f2, f2⟩ ?_
         refine aW 20 ⟨Or.inl (by rfl), Or.inl (by rfl), m2, f2, f2⟩ ?_
         refine aW 21 ⟨Or.inl (by rfl), Or.inl (by rfl), m2, f2, f2⟩ ?_
         refine aW 22 ⟨Or.inl (by rfl), Or.inl (by rfl), m2, f2, f2⟩ ?_
         refine aW 23 ⟨Or.inl (by rfl), Or.inl (by rfl), m2, f2, f2⟩ ?_
         refine aW 24 ⟨Or.inl (by rfl), Or.inl (by rfl), m2, f2, f2⟩ ?_
         refine aW 25 ⟨Or.inl (by rfl), Or.inl (by rfl), m2, f2, f2⟩ ?_
         refine aL 26 27 (fun _ _ _ k => k.2.2.2.2) ⟨Or.inl (by rfl), Or.inl (by rfl), m2, f2, f2⟩ ?_
         refine aW 27 ⟨Or.inl (by rfl), Or.inl (by rfl), m2, f2, f2⟩ ?_
         refine aW 28 ⟨Or.inl (by rfl), Or.inl (by rfl), m2, f2, f2⟩ ?_
         refine aW 29 ⟨Or.inl (by rfl), Or.inl (by rfl), m2, f2, f2⟩ ?_
         refine anyU_done (by kernel_rfl) ?_ _
         clear c2 m2 f2 z2
         have HB4 := hid (blk_draws HB3.out 1)
         have G4 := hid (G2.out.trans ((below_grown' (show Below w2.heap.size w2 w3 from (below_draws (Below.refl _ w2) 1).trans B3'.out) (some g))))
         clear HB3 HZ3 HB2' HZ2
         go_wp2_with fail
         go_end0
         exact ⟨rfl, by rw [HX.out]; exact HB4.out, G4.out⟩
   · have e2 : decide (d ≤ m) = false := decide_eq_false h2
     have HX := hid (show res = (b, f) by rw [HLF.out, if_neg (by omega)])
     clear HLF
     go_wp2_with fail
     refine plain_region (S := (fun L W => (L.getD 5 true = true ∨ Blk W gz 44 (ints z)) ∧ (L.getD 5 true = true ∨ W.rangeAt g 4 (c.map (Value.int .i64))) ∧ W.cell? ⟨g, 8, none⟩ = some (.int .i64 m))) (by kernel_rfl) (⟨Or.inr z2, Or.inr c2, m2⟩) (fun hHeld => ?_)
     clear hHeld
     refine aB 0 5 rfl (fun _ _ h k => rL k.1 h) (yields_blk (by rfl) 44 _ rfl gz rfl 44 (ints z) _ (fun _ h => h) Tryz.underlying44 rfl HZZ.out) ⟨Or.inr z2, Or.inr c2, m2⟩ ?_
     refine aW 1 ⟨Or.inr z2, Or.inr c2, m2⟩ ?_
     refine aW 2 ⟨Or.inr z2, Or.inr c2, m2⟩ ?_
     refine aW 3 ⟨Or.inr z2, Or.inr c2, m2⟩ ?_
     refine aB 4 5 rfl (fun _ _ h k => rL k.2.1 h) (yieldsIf_load_mid (by rfl) 43 _ rfl g 4 rfl _ _ (fun _ h => h) Tryz.underlying43 rfl HCP.out) ⟨Or.inr z2, Or.inr c2, m2⟩ ?_
     refine aR 5 (fun K hK => ?_)
     go_simp
     refine (cs _).mono ?_
     rintro e w3 ⟨rfl, B3⟩
     have B3' := hid B3
     have hb3 := blk_below (blk_drew HB2'.out) B3 hg2.out
     have m2 := sr_m hb3 HYL.out HCL.out
     have f2 := sr_f hb3 HYL.out HCL.out HBL.out
     have HB3 := hid hb3
     have HZ3 := hid (blk_below (blk_drew HZ2.out) B3 hgz2.out)
     clear B3 hb3
     refine hK.out _ _ (⟨Or.inl (by rfl), Or.inl (by rfl), m2⟩) (fun hHeld => ?_)
     clear hK K
     try simp only [Act.put, tA, tB, tC]
     clear hHeld
     refine aW 6 ⟨Or.inl (by rfl), Or.inl (by rfl), m2⟩ ?_
     refine aW 7 ⟨Or.inl (by rfl), Or.inl (by rfl), m2⟩ ?_
     refine aW 8 ⟨Or.inl (by rfl), Or.inl (by rfl), m2⟩ ?_
     refine aW 9 ⟨Or.inl (by rfl), Or.inl (by rfl), m2⟩ ?_
     refine aW 10 ⟨Or.inl (by rfl), Or.inl (by rfl), m2⟩ ?_
     refine aW 11 ⟨Or.inl (by rfl), Or.inl (by rfl), m2⟩ ?_
     refine aL 12 13 (fun _ _ _ k => k.2.2) ⟨Or.inl (by rfl), Or.inl (by rfl), m2⟩ ?_
     refine aW 13 ⟨Or.inl (by rfl), Or.inl (by rfl), m2⟩ ?_
     refine aW 14 ⟨Or.inl (by rfl), Or.inl (by rfl), m2⟩ ?_
     refine aW 15 ⟨Or.inl (by rfl), Or.inl (by rfl), m2⟩ ?_
     refine aS 16 ⟨Or.inl (by rfl), Or.inl (by rfl), m2⟩ ?_
     refine aS 17 ⟨Or.inl (by rfl), Or.inl (by rfl), m2⟩ ?_
     refine aS 18 ⟨Or.inl (by rfl), Or.inl (by rfl), m2⟩ ?_
     refine aS 19 ⟨Or.inl (by rfl), Or.inl (by rfl), m2⟩ ?_
     refine aS 20 ⟨Or.inl (by rfl), Or.inl (by rfl), m2⟩ ?_
     refine aS 21 ⟨Or.inl (by rfl), Or.inl (by rfl), m2⟩ ?_
     refine aS 22 ⟨Or.inl (by rfl), Or.inl (by rfl), m2⟩ ?_
     refine aS 23 ⟨Or.inl (by rfl), Or.inl (by rfl), m2⟩ ?_
     refine aS 24 ⟨Or.inl (by rfl), Or.inl (by rfl), m2⟩ ?_
     refine aS 25 ⟨Or.inl (by rfl), Or.inl (by rfl), m2⟩ ?_
     refine aS 26 ⟨Or.inl (by rfl), Or.inl (by rfl), m2⟩ ?_
     refine aS 27 ⟨Or.inl (by rfl), Or.inl (by rfl), m2⟩ ?_
     refine aS 28 ⟨Or.inl (by rfl), Or.inl (by rfl), m2⟩ ?_
     refine aW 29 ⟨Or.inl (by rfl), Or.inl (by rfl), m2⟩ ?_
     refine anyU_done (by kernel_rfl) ?_ _
     clear c2 m2 f2 z2
     have HB4 := hid (blk_draws HB3.out 1)
     have G4 := hid (G2.out.trans ((below_grown' (show Below w2.heap.size w2 w3 from (below_draws (Below.refl _ w2) 1).trans B3'.out) (some g))))
     clear HB3 HZ3 HB2' HZ2
     go_wp2_with fail
     go_end0
     exact ⟨rfl, by rw [HX.out]; exact HB4.out, G4.out⟩
 · have e1 : decide (2 ≤ sm) = false := decide_eq_false h1
   have HX := hid (show res = (b, f) by rw [HLF.out, if_neg (by omega)])
   clear HLF
   go_wp2_with fail
   refine plain_region (S := (fun L W => (L.getD 5 true = true ∨ Blk W gz 44 (ints z)) ∧ (L.getD 5 true = true ∨ W.rangeAt g 4 (c.map (Value.int .i64))))) (by kernel_rfl) (⟨Or.inr z2, Or.inr c2⟩) (fun hHeld => ?_)
   clear hHeld
   refine aB 0 5 rfl (fun _ _ h k => rL k.1 h) (yields_blk (by rfl) 44 _ rfl gz rfl 44 (ints z) _ (fun _ h => h) Tryz.underlying44 rfl HZZ.out) ⟨Or.inr z2, Or.inr c2⟩ ?_
   refine aW 1 ⟨Or.inr z2, Or.inr c2⟩ ?_
   refine aW 2 ⟨Or.inr z2, Or.inr c2⟩ ?_
   refine aW 3 ⟨Or.inr z2, Or.inr c2⟩ ?_
   refine aB 4 5 rfl (fun _ _ h k => rL k.2 h) (yieldsIf_load_mid (by rfl) 43 _ rfl g 4 rfl _ _ (fun _ h => h) Tryz.underlying43 rfl HCP.out) ⟨Or.inr z2, Or.inr c2⟩ ?_
   refine aR 5 (fun K hK => ?_)
   go_simp
   refine (cs _).mono ?_
   rintro e w3 ⟨rfl, B3⟩
   have B3' := hid B3
   have hb3 := blk_below (blk_drew HB2'.out) B3 hg2.out
   have m2 := sr_m hb3 HYL.out HCL.out
   have f2 := sr_f hb3 HYL.out HCL.out HBL.out
   have HB3 := hid hb3
   have HZ3 := hid (blk_below (blk_drew HZ2.out) B3 hgz2.out)
   clear B3 hb3
   refine hK.out _ _ (⟨Or.inl (by rfl), Or.inl (by rfl)⟩) (fun hHeld => ?_)
   clear hK K
   try simp only [Act.put, tA, tB, tC]
   clear hHeld
   refine aW 6 ⟨Or.inl (by rfl), Or.inl (by rfl)⟩ ?_
   refine aW 7 ⟨Or.inl (by rfl), Or.inl (by rfl)⟩ ?_
   refine aS 8 ⟨Or.inl (by rfl), Or.inl (by rfl)⟩ ?_
   refine aS 9 ⟨Or.inl (by rfl), Or.inl (by rfl)⟩ ?_
   refine aS 10 ⟨Or.inl (by rfl), Or.inl (by rfl)⟩ ?_
   refine aS 11 ⟨Or.inl (by rfl), Or.inl (by rfl)⟩ ?_
   refine aS 12 ⟨Or.inl (by rfl), Or.inl (by rfl)⟩ ?_
   refine aS 13 ⟨Or.inl (by rfl), Or.inl (by rfl)⟩ ?_
   refine aW 14 ⟨Or.inl (by rfl), Or.inl (by rfl)⟩ ?_
   refine aW 15 ⟨Or.inl (by rfl), Or.inl (by rfl)⟩ ?_
   refine aS 16 ⟨Or.inl (by rfl), Or.inl (by rfl)⟩ ?_
   refine aS 17 ⟨Or.inl (by rfl), Or.inl (by rfl)⟩ ?_
   refine aS 18 ⟨Or.inl (by rfl), Or.inl (by rfl)⟩ ?_
   refine aS 19 ⟨Or.inl (by rfl), Or.inl (by rfl)⟩ ?_
   refine aS 20 ⟨Or.inl (by rfl), Or.inl (by rfl)⟩ ?_
   refine aS 21 ⟨Or.inl (by rfl), Or.inl (by rfl)⟩ ?_
   refine aS 22 ⟨Or.inl (by rfl), Or.inl (by rfl)⟩ ?_
   refine aS 23 ⟨Or.inl (by rfl), Or.inl (by rfl)⟩ ?_
   refine aS 24 ⟨Or.inl (by rfl), Or.inl (by rfl)⟩ ?_
   refine aS 25 ⟨Or.inl (by rfl), Or.inl (by rfl)⟩ ?_
   refine aS 26 ⟨Or.inl (by rfl), Or.inl (by rfl)⟩ ?_
   refine aS 27 ⟨Or.inl (by rfl), Or.inl (by rfl)⟩ ?_
   refine aS 28 ⟨Or.inl (by rfl), Or.inl (by rfl)⟩ ?_
   refine aW 29 ⟨Or.inl (by rfl), Or.inl (by rfl)⟩ ?_
   refine anyU_done (by kernel_rfl) ?_ _
   clear c2 m2 f2 z2
   have HB4 := hid (blk_draws HB3.out 1)
   have G4 := hid (G2.out.trans ((below_grown' (show Below w2.heap.size w2 w3 from (below_draws (Below.refl _ w2) 1).trans B3'.out) (some g))))
   clear HB3 HZ3 HB2' HZ2
   go_wp2_with fail
   go_end0
   exact ⟨rfl, by rw [HX.out]; exact HB4.out, G4.out⟩
end Go.Proofs.YtiigipnfnfpepaaGreatDoor
