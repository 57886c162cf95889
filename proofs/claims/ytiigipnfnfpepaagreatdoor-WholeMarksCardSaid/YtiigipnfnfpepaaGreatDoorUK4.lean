/- pack.pulses (layer 14). pack.Read (layer 14): a packet that fills. pack.Read (layer 14): walked. -/
import Derived.Test.YtiigipnfnfpepaaGreatDoorUK3
import Derived.Test.YtiigipnfnfpepaaGreatDoorUD2
import Derived.Test.YtiigipnfnfpepaaGreatDoorUA
namespace Go.Proofs.YtiigipnfnfpepaaGreatDoor
open Go.RowKit

theorem grown_new {A B C : World} {r : Option Nat} {b : Nat} (h : A.grownBy B r) (k : B.grownBy C (some b)) (hb : A.heap.size ≤ b) : A.grownBy C r :=
 ⟨k.os.trans h.os, k.tape.trans h.tape, k.output.trans h.output, Nat.le_trans h.size k.size, fun i hi hr => (k.block i (Nat.lt_of_lt_of_le hi h.size) (fun e => by injection e with e; omega)).trans (h.block i hi hr)⟩

set_option maxRecDepth 20000 in
set_option maxHeartbeats 4000000 in
theorem rpulses_calls (g : Nat) (s : List UInt8) (p k : Nat) (y : List Int) (w : World) (h : RR w g s p) (hp : p + bitsK k ≤ 8 * s.length) (hs : s.length ≤ 100) (hyl : y.length = 4) (hk : plN y = k) (hk12 : k ≤ 12) (hi : (getN s p (bitsK k) : Int) = indexI y) :
 Calls Tryz.prog 31 #[.pointer (some ⟨g, 0, none⟩), .int .i64 k] w fun e w' => e = .returned (.tuple #[.agg (ints y), .int .i64 0]) ∧ RR w' g s (p + bitsK k) ∧ w.grownBy w' (some g) := by
 have hiv := index_vec hyl (by omega)
 rw [hk] at hiv
 have hbk := (bitsK_all k (by omega)).1
 have cb := fun W => pvqBits_calls k W hk12
 have cg := fun W (hW : RR W g s p) => get_calls g s p (bitsK k) W hW hp (by omega) hs
 rw [hi] at cg
 have cv := fun W => vector_calls k (indexI y) W hk12 hiv.1 hiv.2.1
 rw [hiv.2.2] at cv
 have H1 := hid (blk_alloc h (.cells #[Value.int .i64 0, .int .i64 0, .int .i64 0, .int .i64 0] 44))
 have G1 := hid (grown_below (r := some g) ((Below.refl w.heap.size w).alloc (Nat.le_refl _) (.cells #[Value.int .i64 0, .int .i64 0, .int .i64 0, .int .i64 0] 44)))
 have Y1 := hid (blk_new w 44 #[Value.int .i64 0, .int .i64 0, .int .i64 0, .int .i64 0])
 have HGL := hid (blk_lt h)
 have HYZ := hid (pul_size hyl)
 have HYS := hid (show (Tryz.prog.info? 44).map (·.size) = some (ints y).size by rw [ints_size, hyl]; kernel_rfl)
 have HYW := hid (show (ints y).size = (#[Value.int .i64 0, .int .i64 0, .int .i64 0, .int .i64 0] : Array Value).size by rw [ints_size, hyl]; rfl)
 have HYL := hid hyl
 generalize indexI y = ix at *
 generalize bitsK k = bk at *
 clear h hp hs hyl hk hi hiv hbk
 go_enter Tryz.func31, Tryz.ntmps31
 go_wp2_with fail
 generalize w.alloc (.cells #[Value.int .i64 0, .int .i64 0, .int .i64 0, .int .i64 0] 44) = w1 at *
 refine (cb _).mono ?_
 rintro e w2 ⟨rfl, B⟩
 have H2 := hid (blk_below H1.out B (blk_lt H1.out))
 have Y2 := hid (blk_below Y1.out B (blk_lt Y1.out))
 have G2 := hid (grown_join G1.out (grown_below (r := some g) B))
 clear B H1 Y1 G1 cb
 go_wp2_with fail
 refine (cg w2 H2.out).mono ?_
 rintro e w3 ⟨rfl, R, G⟩
 have Y3 := hid (blk_grown Y2.out G (fun e => by injection e with e; have := HGL.out; omega))
 have G3 := hid (grown_join G2.out G)
 have R3 := hid R
 clear R G Y2 H2 G2 cg
 go_wp2_with fail
 refine (cv w3).mono ?_
 rintro e w4 ⟨gv, c, rfl, hgv, hc, R, B⟩
 have R4 := hid (blk_below R3.out B (blk_lt R3.out))
 have Y4 := hid (blk_below Y3.out B (blk_lt Y3.out))
 have G4 := hid (grown_join G3.out (grown_below (r := some g) B))
 have V4 : Hid (w4.rangeAt gv 0 (y.map (Value.int .i64))) := hid (fun j v hj => by
  have hl : j < y.length := by simpa using (List.getElem?_eq_some_iff.1 hj).1
  rw [Nat.zero_add, R j hl, ← hj, List.getElem?_map, List.getElem?_eq_getElem hl, List.getD_eq_getElem?_getD, List.getElem?_eq_getElem hl]
  rfl)
 have hc4 : (4 : Int) ≤ c := by omega
 have ra := fun a cap w => run_arrayAt (P := Tryz.prog) 44 3 4 Tryz.underlying44 a 4 cap (Nat.le_refl _) w
 clear R B R3 Y3 G3 cv hc
 go_wp2_with (first | (refine wpList_load_mid rfl 44 _ rfl gv 0 rfl (y.map (Value.int .i64)) _ V4.out Tryz.underlying44 rfl HYZ.out ?_) | (refine wpList_store_blk rfl 44 _ _ rfl w.heap.size 44 #[Value.int .i64 0, .int .i64 0, .int .i64 0, .int .i64 0] (ints y) rfl rfl Y4.out HYW.out HYS.out (ints_one y) ?_; intro w5 n0 n1; have Y5 := hid n0; have R5 := hid (blk_grown R4.out n1 (fun e => by injection e with e; have := HGL.out; omega)); have G5 := hid (grown_new G4.out n1 (Nat.le_refl _)); clear n0 n1))
 exact bodyPost_ret (results_row_slot rfl _ _ w.heap.size 44 (ints y) (0, 0) _ _ rfl rfl Y5.out Tryz.underlying44 rfl HYS.out) rfl ⟨rfl, R5.out, G5.out⟩
end Go.Proofs.YtiigipnfnfpepaaGreatDoor
namespace Go.Proofs.YtiigipnfnfpepaaGreatDoor
open Go.RowKit

def fstTo {A : Type} (f : Nat → A) (z : A) (k : Nat) : List A := (List.range 8).map fun b => if b < k then f b else z
theorem fstTo_len {A : Type} (f : Nat → A) (z : A) (k : Nat) : (fstTo f z k).length = 8 := by simp [fstTo]
theorem fstTo_set {A : Type} (f : Nat → A) (z : A) (k : Nat) : (fstTo f z k).set k (f k) = fstTo f z (k + 1) := by
 apply List.ext_getElem?
 intro i
 rw [List.getElem?_set]
 unfold fstTo
 simp only [List.getElem?_map, List.length_map, List.length_range]
 by_cases hi : i < 8
 · rw [List.getElem?_range hi, Option.map_some, Option.map_some]
   by_cases e : k = i
   · subst e
     rw [if_pos rfl, if_pos hi, if_pos (by omega)]
   · rw [if_neg e]
     by_cases h : i < k
     · rw [if_pos h, if_pos (by omega)]
     · rw [if_neg h, if_neg (by omega)]
 · rw [List.getElem?_eq_none (by simp; omega)]
   by_cases e : k = i
   · rw [if_pos e, if_neg (by omega)]; rfl
   · rw [if_neg e]; rfl
theorem fstTo_get {A : Type} (f : Nat → A) (z d : A) {k b : Nat} (hb : b < 8) : (fstTo f z k).getD b d = if b < k then f b else z := by
 rw [fstTo, List.getD_eq_getElem?_getD, List.getElem?_map, List.getElem?_range hb]; rfl
theorem fstTo_all {A : Type} {P : A → Prop} {f : Nat → A} {z : A} (hf : ∀ b, b < 8 → P (f b)) (hz : P z) (k : Nat) : ∀ x ∈ fstTo f z k, P x := fun x hx => by
 obtain ⟨b, hb, rfl⟩ := List.mem_map.1 hx
 split
 · exact hf b (List.mem_range.1 hb)
 · exact hz
theorem fstTo_full {A : Type} (l : List A) (z d : A) (hl : l.length = 8) : fstTo (fun b => l.getD b d) z 8 = l := by
 apply List.ext_getElem?
 intro i
 by_cases hi : i < 8
 · unfold fstTo
   rw [List.getElem?_map, List.getElem?_range hi, Option.map_some, if_pos hi]
   show some (l.getD i d) = _
   rw [List.getD_eq_getElem?_getD, List.getElem?_eq_getElem (by omega)]
   rfl
 · rw [List.getElem?_eq_none (by rw [fstTo_len]; omega), List.getElem?_eq_none (by omega)]
def shUp (s : Shp) (a b : Nat) : Shp := ⟨fstTo (fun i => s.sd.getD i 0) 0 a, fstTo (fun i => s.ys.getD i []) [0, 0, 0, 0] b⟩
theorem shUp_ok {s : Shp} (h : SOk s) (a b : Nat) : SOk (shUp s a b) := ⟨fstTo_len _ _ _, fstTo_all (P := fun z => 0 ≤ z ∧ z ≤ 15) (fun i hi => sd_in h hi) ⟨by decide, by decide⟩ a, fstTo_len _ _ _, fstTo_all (P := fun y : List Int => y.length = 4) (fun i hi => shp_ylen h hi) rfl b⟩
theorem shUp_full {s : Shp} (h : SOk s) : shUp s 8 8 = s := by
 unfold shUp
 rw [fstTo_full s.sd 0 0 h.sl, fstTo_full s.ys [0, 0, 0, 0] [] h.yl]
theorem shUp_sd {s : Shp} (h : SOk s) (b : Nat) : (shUp s 8 b).sd = s.sd := fstTo_full s.sd 0 0 h.sl
theorem shUp_put (s : Shp) (a b : Nat) : (shUp s a b).put b (s.ys.getD b []) = shUp s a (b + 1) := by
 unfold shUp Shp.put
 rw [fstTo_set (fun i => s.ys.getD i []) [0, 0, 0, 0] b]
theorem pk_zero (s : Shp) : (#[Value.int .i64 0, .int .i64 0, .int .i64 0, .int .i64 0, .int .i64 0, .int .i64 0, .int .i64 0, .int .i64 0, .int .i64 0, .int .i64 0, .int .i64 0, .int .i64 0, .int .i64 0, .int .i64 0, .int .i64 0, .int .i64 0, .int .i64 0, .int .i64 0, .int .i64 0, .int .i64 0, .int .i64 0, .int .i64 0, .int .i64 0, .int .i64 0, .int .i64 0, .int .i64 0, .int .i64 0, .int .i64 0, .int .i64 0, .int .i64 0, .int .i64 0, .int .i64 0, .int .i64 0, .int .i64 0, .int .i64 0, .int .i64 0, .int .i64 0, .int .i64 0, .int .i64 0, .int .i64 0, .int .i64 0] : Array Value) = pkV 0 (shUp s 0 0) := rfl
theorem pk_setnum {n m : Nat} {s : Shp} {w : World} {g : Nat} {t : TypeId} (hb : Blk w g t (pkV m s)) : Blk (w.setCell ⟨g, 0, none⟩ (.int .i64 n)) g t (pkV n s) := blk_set_int hb 0 n
theorem pk_setside {n : Nat} {s : Shp} {w : World} {g : Nat} {t : TypeId} {a b : Nat} (ha : a < 8) (hb : Blk w g t (pkV n (shUp s a b))) : Blk (w.setCell ⟨g, 1 + a, none⟩ (.int .i64 (s.sd.getD a 0))) g t (pkV n (shUp s (a + 1) b)) := by
 have h := blk_set_int hb (1 + a) (s.sd.getD a 0)
 have e : ((n : Int) :: (shUp s a b).flat).set (1 + a) (s.sd.getD a 0) = (n : Int) :: (shUp s (a + 1) b).flat := by
  rw [Nat.add_comm 1 a, List.set_cons_succ]
  unfold shUp Shp.flat
  dsimp only
  rw [List.set_append_left _ _ (by rw [fstTo_len]; exact ha), fstTo_set (fun i => s.sd.getD i 0) 0 a]
 rw [e] at h
 exact h
theorem pk_store {n : Nat} {s : Shp} {w : World} {g : Nat} {t : TypeId} (hb : Blk w g t (pkV n s)) (h : SOk s) {b : Nat} (hb8 : b < 8) {y : List Int} (hy : y.length = 4) :
 Blk (w.setCells g (9 + b * 4) (y.map (.int .i64))) g t (pkV n (s.put b y)) ∧ w.grownBy (w.setCells g (9 + b * 4) (y.map (.int .i64))) (some g) := by
 have h2 := sok_put h b hy
 have hsz : ∀ {s : Shp}, SOk s → (pkV n s).size = 41 := fun h => by rw [ints_size, List.length_cons, shp_len h]
 obtain ⟨cs, k1, k2, k3, k4, k5, k6⟩ := setCells_blk (y.map (.int .i64)) (9 + b * 4) w hb (by rw [List.length_map, hy, hsz h]; omega)
 have e : cs = pkV n (s.put b y) := by
  apply Array.ext_getElem?
  intro i
  rw [List.length_map, hy] at k5 k6
  have hg : ∀ (s : Shp) i, (pkV n s)[i + 1]? = (s.flat[i]?).map (Value.int .i64) := fun s i => by rw [ints_get, List.getElem?_cons_succ]
  cases i with
  | zero => rw [k4 0 (by omega), ints_get, ints_get]; rfl
  | succ i =>
   by_cases h8 : i < 8
   · rw [k4 (i + 1) (by omega), hg, hg, shp_side h h8, shp_side h2 h8]; rfl
   · by_cases h40 : i < 40
     · obtain ⟨p, q, rfl, hp, hq⟩ : ∃ p q, i = 8 + (p * 4 + q) ∧ p < 8 ∧ q < 4 := ⟨(i - 8) / 4, (i - 8) % 4, by omega, by omega, by omega⟩
       rw [hg, shp_y h2 hp hq]
       by_cases hpb : p = b
       · subst hpb
         have e1 : ((s.put p y).ys.getD p []) = y := by
          rw [Shp.put, List.getD_eq_getElem?_getD, List.getElem?_set_self (by rw [h.yl]; exact hp)]; rfl
         rw [e1, show 8 + (p * 4 + q) + 1 = 9 + p * 4 + q by omega, k5 q hq, List.getElem?_map, List.getElem?_eq_getElem (by omega), List.getD_eq_getElem?_getD, List.getElem?_eq_getElem (by omega)]
         rfl
       · have e1 : ((s.put b y).ys.getD p []) = s.ys.getD p [] := by
          rw [Shp.put, List.getD_eq_getElem?_getD, List.getElem?_set_ne (fun h => hpb h.symm), List.getD_eq_getElem?_getD]
         rw [e1]
         have : cs[8 + (p * 4 + q) + 1]? = (pkV n s)[8 + (p * 4 + q) + 1]? := by
          by_cases hlt : p < b
          · exact k4 _ (by omega)
          · exact k6 _ (by omega)
         rw [this, hg, shp_y h hp hq]
     · rw [Array.getElem?_eq_none (by rw [k3, hsz h]; omega), Array.getElem?_eq_none (by rw [hsz h2]; omega)]
 rw [e] at k1
 exact ⟨k1, k2⟩
theorem pk_there {n : Nat} {s : Shp} {w : World} {g : Nat} {t : TypeId} (hb : Blk w g t (pkV n s)) (h : SOk s) {b : Nat} (hb8 : b < 8) : w.there g (9 + b * 4) 4 := fun j hj => by
 rw [blk_cell hb, ints_get, show 9 + b * 4 + j = 8 + (b * 4 + j) + 1 by omega, List.getElem?_cons_succ, shp_y h hb8 hj]
 exact ⟨rfl, blk_free hb _⟩
end Go.Proofs.YtiigipnfnfpepaaGreatDoor
namespace Go.Proofs.YtiigipnfnfpepaaGreatDoor
open Go.RowKit
attribute [local go_sem ↓] Go.wp_at_zero Go.wp_at_succ

theorem bitsTo_up (ys : List (List Int)) (b : Nat) : ∀ j, bitsTo ys b ≤ bitsTo ys (b + j)
 | 0 => Nat.le_refl _
 | j + 1 => by have := bitsTo_up ys b j; rw [← Nat.add_assoc, bitsTo_succ]; omega

set_option maxRecDepth 20000 in
set_option maxHeartbeats 4000000 in
theorem read_calls (n : Nat) (s : Shp) (size : Nat) (w : World) (hn : n ≤ 5000) (h : SK s) (hs0 : 12 ≤ size) (hs1 : size ≤ 24) (hG : Given (8 * (size : Int) - 64) s) :
 Calls Tryz.prog 11 #[.string (str (layL n s size))] w fun e w' => e = .returned (.tuple #[.agg (pkV n s), .int .i64 0]) ∧ Below w.heap.size w w' := by
 have hlen := layL_len (n := n) h hG (by omega) hs0
 have hrd := body_reads (n := n) (by omega) h size
 rw [layL_body] at hlen ⊢
 rw [sealL_len] at hlen
 obtain ⟨B, hB⟩ : ∃ B, B = bodyL n s size := ⟨_, rfl⟩
 rw [← hB] at hlen hrd ⊢
 have hss := str_size (sealL B)
 rw [sealL_len, hlen] at hss
 have cb := fun W => gBits_calls size W hs0 hs1
 have co := fun W => open_calls B W (by omega)
 have cn := rnew_calls B
 have hB100 : B.length ≤ 100 := by omega
 obtain ⟨z, hz⟩ : ∃ z : Int, z = 8 * (size : Int) - 64 := ⟨_, rfl⟩
 have hz0 : (z == 0) = false := by simp; omega
 have hzp : 0 ≤ z ∧ z ≤ 128 := by omega
 rw [← hz] at cb hG
 have HG := hid hG
 have HR := hid hrd
 have HB := hid hB100
 have HN := hid hn
 have HS := hid h
 have HZP := hid hzp
 obtain ⟨S, hS⟩ : ∃ S, S = str (sealL B) := ⟨_, rfl⟩
 rw [← hS] at hss co ⊢
 have P1 := hid (blk_new w 49 (pkV 0 (shUp s 0 0)))
 have B1 := hid ((Below.refl w.heap.size w).alloc (Nat.le_refl _) (.cells (pkV 0 (shUp s 0 0)) 49))
 have hpz := pk_zero s
 have HPZ := hid hpz
 clear hlen hrd hB hG hB100 hn h hz hS hs0 hs1 hzp
 go_enter Tryz.func11, Tryz.ntmps11
 go_wp2_with fail
 generalize w.alloc (.cells (pkV 0 (shUp s 0 0)) 49) = w1 at *
 refine (cb _).mono ?_
 rintro e w' ⟨rfl, rfl⟩
 go_wp2_with fail
 refine (co w1).mono ?_
 rintro e w2 ⟨rfl, B⟩
 have P2 := hid (blk_below P1.out B (blk_lt P1.out))
 have B2 := hid (bnext B1.out B)
 clear co B P1 B1
 go_wp2_with fail
 refine (cn w2).mono ?_
 rintro e w3 ⟨rfl, R, B⟩
 have P3 := hid (blk_alloc (blk_below P2.out B (blk_lt P2.out)) (.cells (pkV 0 (shUp s 0 0)) 49))
 have R3 := hid (blk_alloc R (.cells (pkV 0 (shUp s 0 0)) 49))
 have Q3 := hid (blk_new w3 49 (pkV 0 (shUp s 0 0)))
 have B3 := hid ((bnext B2.out B).alloc (bnext B2.out B).size (.cells (pkV 0 (shUp s 0 0)) 49))
 have HRP := hid (show w.heap.size < w2.heap.size from blk_lt P2.out)
 have HQR := hid (show w2.heap.size < w3.heap.size from blk_lt R)
 clear cn B P2 B2 R
 go_wp2_with fail
 generalize w3.alloc (.cells (pkV 0 (shUp s 0 0)) 49) = w4 at *
 obtain ⟨gr, hgr⟩ : ∃ gr, gr = w2.heap.size := ⟨_, rfl⟩
 obtain ⟨gp, hgp⟩ : ∃ gp, gp = w3.heap.size := ⟨_, rfl⟩
 rw [← hgr] at R3 HRP HQR
 rw [← hgp] at Q3 HQR
 rw [← hgr, ← hgp]
 have cg := get_calls gr B 0 16 w4 R3.out (by have := HR.out.long; omega) (by omega) HB.out
 rw [HR.out.num] at cg
 clear hgr hgp hpz
 refine cg.mono ?_
 rintro e w5 ⟨rfl, R, G⟩
 have hlt := HRP.out
 have hlt2 := HQR.out
 have R5 := hid R
 have P5 := hid (blk_grown P3.out G (fun e => by injection e with e; omega))
 have Q5 := hid (blk_grown Q3.out G (fun e => by injection e with e; omega))
 have B5 := hid (below_grown B3.out G B3.out.size (by omega))
 have f5 : w5.frozen? ⟨gp, 0, none⟩ = false := blk_free Q5.out 0
 have c5 := pk_num Q5.out
 clear cg R G R3 P3 Q3 B3
 go_wp2_with fail
 clear f5 c5
 have R6 := hid (blk_far (b := gp) (i := 0) R5.out (by omega) (.int .i64 n))
 have P6 := hid (blk_far (b := gp) (i := 0) P5.out (by omega) (.int .i64 n))
 have Q6 := hid (pk_setnum (n := n) Q5.out)
 have B6 := hid (below_set (i := 0) B5.out (b := gp) (by omega) (.int .i64 n))
 clear R5 P5 Q5 B5
 generalize w5.setCell ⟨gp, 0, none⟩ (.int .i64 n) = w6 at *
 go_loopg [34] 8 (fun gg s34 wr => ∃ b : Nat, b ≤ 8 ∧ 8 - b ≤ gg ∧ s34 = .int .i64 b ∧ Aside (RR wr gr B (16 + 4 * b)) ∧ Aside (Blk wr w.heap.size 49 (pkV 0 (shUp s 0 0))) ∧ Aside (Blk wr gp 49 (pkV n (shUp s b 0))) ∧ Aside (Below w.heap.size w wr))
 case atStart => exact ⟨0, Nat.zero_le _, by omega, rfl, R6.out, P6.out, Q6.out, B6.out⟩
 case round =>
  clear R6 P6 Q6 B6
  obtain ⟨b, hb, hgb, rfl, R, P, Q, BB⟩ := hrel
  by_cases hb8 : b < 8
  · have hbz : (b : Int) < 8 := by omega
    have hb0 : (0 : Int) ≤ b := by omega
    have cg := get_calls gr B (16 + 4 * b) 4 wr R.out (by have := HR.out.long; omega) (by omega) HB.out
    rw [HR.out.side b hb8] at cg
    go_wp2_with fail
    refine cg.mono ?_
    rintro e w7 ⟨rfl, R7, G⟩
    have R7' := hid (show RR w7 gr B (16 + 4 * (b + 1)) from R7)
    have P7 := hid (blk_grown P.out G (fun e => by injection e with e; omega))
    have Q7 := hid (blk_grown Q.out G (fun e => by injection e with e; omega))
    have B7 := hid (below_grown BB.out G BB.out.size (by omega))
    have f7 : w7.frozen? ⟨gp, 1 + b, none⟩ = false := blk_free Q7.out (1 + b)
    have c7 : w7.cell? ⟨gp, 1 + b, none⟩ = some (.int .i64 ((shUp s b 0).sd.getD b 0)) := by
     have h1 := pk_sides Q7.out (shUp_ok HS.out.ok b 0) b (.int .i64 ((shUp s b 0).sd.getD b 0)) (by
      rw [List.getElem?_map, List.getElem?_eq_getElem (show b < (shUp s b 0).sd.length by rw [(shUp_ok HS.out.ok b 0).sl]; exact hb8), List.getD_eq_getElem?_getD, List.getElem?_eq_getElem (show b < (shUp s b 0).sd.length by rw [(shUp_ok HS.out.ok b 0).sl]; exact hb8)]; rfl)
     exact h1
    clear cg R7 G R P Q BB
    go_wp2_with fail
    clear f7 c7
    have R8 := hid (blk_far (b := gp) (i := 1 + b) R7'.out (by omega) (.int .i64 (s.sd.getD b 0)))
    have P8 := hid (blk_far (b := gp) (i := 1 + b) P7.out (by omega) (.int .i64 (s.sd.getD b 0)))
    have Q8 := hid (pk_setside hb8 Q7.out)
    have B8 := hid (below_set (i := 1 + b) B7.out (b := gp) (by omega) (.int .i64 (s.sd.getD b 0)))
    clear R7' P7 Q7 B7
    go_roundg (8 - (b + 1))
    case measure => omega
    case rel => exact ⟨b + 1, by omega, by omega, by go_num, R8.out, P8.out, Q8.out, B8.out⟩
  · obtain rfl : b = 8 := by omega
    have sid : ∀ {W : World}, Blk W gp 49 (pkV n (shUp s 8 0)) → W.rangeAt gp 1 (s.sd.map (Value.int .i64)) := fun hb => by
     have := pk_sides hb (shUp_ok HS.out.ok 8 0)
     rwa [shUp_sd HS.out.ok] at this
    have cp := fun W => gpulses_calls s.sd z W HS.out.ok.sl HS.out.ok.s15 HZP.out.1 (by have := HZP.out.2; omega)
    obtain ⟨kl, hkl⟩ : ∃ kl, kl = gpL s.sd z := ⟨_, rfl⟩
    rw [← hkl] at cp
    have hkk := (gpL_keeps s.sd HZP.out.1).1
    rw [← hkl] at hkk
    have HKK := hid hkk
    have HKL := hid hkl
    have HKZ := hid (show (Tryz.prog.info? 41).map (·.size) = some (ints kl).size by rw [ints_size, hkk.len]; kernel_rfl)
    have HKS := hid (show (ints kl).size = (#[Value.int .i64 0, .int .i64 0, .int .i64 0, .int .i64 0, .int .i64 0, .int .i64 0, .int .i64 0, .int .i64 0] : Array Value).size by rw [ints_size, hkk.len]; rfl)
    have HSD := hid (side_size HS.out.ok.sl)
    clear hkk hkl
    go_upto_region 14 with (fail)
    go_cut [9] from 47 to 56 (fun s9 W => ∃ gk, s9 = .pointer (some ⟨gk, 0, none⟩) ∧ Aside (RR W gr B 48) ∧ Aside (Blk W gp 49 (pkV n (shUp s 8 0))) ∧ Aside (Blk W w.heap.size 49 (pkV 0 (shUp s 0 0))) ∧ Aside (Blk W gk 41 (ints kl)) ∧ Aside (Below w.heap.size w W) ∧ Aside (gp < gk))
    case first =>
     have q0 := blk_drew Q.out
     have r0 : RR wr.drew gr B 48 := blk_drew R.out
     have p0 := blk_drew P.out
     have b0 : Below w.heap.size w wr.drew := below_draws BB.out 1
     clear Q R P BB
     refine plain_region (S := (fun L W => (L.getD 6 true = true ∨ W.rangeAt gp 1 (s.sd.map (Value.int .i64))))) (by kernel_rfl) (Or.inr (sid q0)) (fun hHeld => ?_)
     clear hHeld
     refine aW 0 (Or.inr (sid q0)) ?_
     refine aW 1 (Or.inr (sid q0)) ?_
     refine aB 2 6 rfl (fun _ _ h k => rL k h) (yieldsIf_load_mid (by rfl) 42 _ rfl gp 1 rfl _ _ (fun _ h => h) Tryz.underlying42 rfl HSD.out) (Or.inr (sid q0)) ?_
     refine aW 3 (Or.inr (sid q0)) ?_
     refine aW 4 (Or.inr (sid q0)) ?_
     refine anyU_ready (rs := [5, 10]) (by kernel_rfl) (by simp) ?_
     refine readyU_cons (o := ⟨_,_,_,_,_,_⟩) rfl (fun K hK => ?_) (readyU_cons (o := ⟨_,_,_,_,_,_⟩) rfl (fun K hK => ?_) readyU_nil)
     focus
      go_simp
      refine (cb _).mono ?_
      rintro e W' ⟨rfl, rfl⟩
      refine hK.out _ _ (Or.inr (sid q0)) (fun hHeld => ?_)
      clear hK K hHeld
      try simp only [Act.put, tA, tB, tC]
      refine anyU_ready (rs := [6, 10]) (by kernel_rfl) (by simp) ?_
      refine readyU_cons (o := ⟨_,_,_,_,_,_⟩) rfl (fun K hK => ?_) (readyU_cons (o := ⟨_,_,_,_,_,_⟩) rfl (fun K hK => ?_) readyU_nil)
      focus
       go_simp
       refine (cp _).mono ?_
       rintro e W6 ⟨rfl, BC⟩
       have q6 := blk_below q0 BC (blk_lt q0)
       have r6 := blk_below r0 BC (blk_lt r0)
       have p6 := blk_below p0 BC (blk_lt p0)
       have b6 := bnext b0 BC
       refine hK.out _ _ (Or.inl (by rfl)) (fun hHeld => ?_)
       clear hK K hHeld
       try simp only [Act.put, tA, tB, tC]
       refine aW 7 (Or.inl (by rfl)) ?_
       refine aW 8 (Or.inl (by rfl)) ?_
       refine aW 9 (Or.inl (by rfl)) ?_
       refine aR 10 (fun K hK => ?_)
       go_simp
       have q8 := blk_alloc q6 (.cells #[Value.int .i64 0, .int .i64 0, .int .i64 0, .int .i64 0, .int .i64 0, .int .i64 0, .int .i64 0, .int .i64 0] 41)
       have r8 := blk_alloc r6 (.cells #[Value.int .i64 0, .int .i64 0, .int .i64 0, .int .i64 0, .int .i64 0, .int .i64 0, .int .i64 0, .int .i64 0] 41)
       have p8 := blk_alloc p6 (.cells #[Value.int .i64 0, .int .i64 0, .int .i64 0, .int .i64 0, .int .i64 0, .int .i64 0, .int .i64 0, .int .i64 0] 41)
       have b8 := b6.alloc b6.size (.cells #[Value.int .i64 0, .int .i64 0, .int .i64 0, .int .i64 0, .int .i64 0, .int .i64 0, .int .i64 0, .int .i64 0] 41)
       have k8 := blk_new W6 41 #[Value.int .i64 0, .int .i64 0, .int .i64 0, .int .i64 0, .int .i64 0, .int .i64 0, .int .i64 0, .int .i64 0]
       have hl := BC.size
       refine hK.out _ _ (Or.inl (by rfl)) (fun hHeld => ?_)
       clear hK K hHeld
       try simp only [Act.put, tA, tB, tC]
       refine aR 11 (fun K hK => ?_)
       refine stepU_store_blk (by rfl) 41 _ _ rfl W6.heap.size 41 #[Value.int .i64 0, .int .i64 0, .int .i64 0, .int .i64 0, .int .i64 0, .int .i64 0, .int .i64 0, .int .i64 0] (ints kl) rfl rfl k8 HKS.out HKZ.out (ints_one kl) ?_
       intro W7 n0 n1
       have q7 := blk_grown q8 n1 (fun e => by injection e with e; have := blk_lt q0; have := hl; omega)
       have r7 := blk_grown r8 n1 (fun e => by injection e with e; have := blk_lt r0; have := hl; omega)
       have p7 := blk_grown p8 n1 (fun e => by injection e with e; have := blk_lt p0; have := hl; omega)
       have b7 := below_grown b8 n1 b8.size (by have := b0.size; have := hl; omega)
       refine hK.out _ _ (Or.inl (by rfl)) (fun hHeld => ?_)
       clear hK K hHeld
       try simp only [Act.put]
       refine aW 12 (Or.inl (by rfl)) ?_
       refine anyU_done (by kernel_rfl) ?_ _
       go_wp2_with fail
       go_meet
       exact ⟨W6.heap.size, rfl, r7, q7, p7, n0, b7, (show gp < W6.heap.size by have := blk_lt q0; have := hl; omega)⟩
      focus
       go_simp
       have q1 := blk_alloc q0 (.cells #[Value.int .i64 0, .int .i64 0, .int .i64 0, .int .i64 0, .int .i64 0, .int .i64 0, .int .i64 0, .int .i64 0] 41)
       have r1 := blk_alloc r0 (.cells #[Value.int .i64 0, .int .i64 0, .int .i64 0, .int .i64 0, .int .i64 0, .int .i64 0, .int .i64 0, .int .i64 0] 41)
       have p1 := blk_alloc p0 (.cells #[Value.int .i64 0, .int .i64 0, .int .i64 0, .int .i64 0, .int .i64 0, .int .i64 0, .int .i64 0, .int .i64 0] 41)
       have b1 := b0.alloc b0.size (.cells #[Value.int .i64 0, .int .i64 0, .int .i64 0, .int .i64 0, .int .i64 0, .int .i64 0, .int .i64 0, .int .i64 0] 41)
       have k1 := blk_new wr.drew 41 #[Value.int .i64 0, .int .i64 0, .int .i64 0, .int .i64 0, .int .i64 0, .int .i64 0, .int .i64 0, .int .i64 0]
       refine hK.out _ _ (Or.inr (sid q1)) (fun hHeld => ?_)
       clear hK K hHeld
       try simp only [Act.put, tA, tB, tC]
       refine aR 6 (fun K hK => ?_)
       go_simp
       refine (cp _).mono ?_
       rintro e W6 ⟨rfl, BC⟩
       have q6 := blk_below q1 BC (blk_lt q1)
       have r6 := blk_below r1 BC (blk_lt r1)
       have p6 := blk_below p1 BC (blk_lt p1)
       have b6 := bnext b1 BC
       refine hK.out _ _ (Or.inl (by rfl)) (fun hHeld => ?_)
       clear hK K hHeld
       try simp only [Act.put, tA, tB, tC]
       have k6 := blk_below k1 BC (blk_lt k1)
       have hl := Nat.le_refl wr.drew.heap.size
       refine aW 7 (Or.inl (by rfl)) ?_
       refine aW 8 (Or.inl (by rfl)) ?_
       refine aW 9 (Or.inl (by rfl)) ?_
       refine aR 11 (fun K hK => ?_)
       refine stepU_store_blk (by rfl) 41 _ _ rfl wr.drew.heap.size 41 #[Value.int .i64 0, .int .i64 0, .int .i64 0, .int .i64 0, .int .i64 0, .int .i64 0, .int .i64 0, .int .i64 0] (ints kl) rfl rfl k6 HKS.out HKZ.out (ints_one kl) ?_
       intro W7 n0 n1
       have q7 := blk_grown q6 n1 (fun e => by injection e with e; have := blk_lt q0; have := hl; omega)
       have r7 := blk_grown r6 n1 (fun e => by injection e with e; have := blk_lt r0; have := hl; omega)
       have p7 := blk_grown p6 n1 (fun e => by injection e with e; have := blk_lt p0; have := hl; omega)
       have b7 := below_grown b6 n1 b6.size (by have := b0.size; have := hl; omega)
       refine hK.out _ _ (Or.inl (by rfl)) (fun hHeld => ?_)
       clear hK K hHeld
       try simp only [Act.put]
       refine aW 12 (Or.inl (by rfl)) ?_
       refine anyU_done (by kernel_rfl) ?_ _
       go_wp2_with fail
       go_meet
       exact ⟨wr.drew.heap.size, rfl, r7, q7, p7, n0, b7, (show gp < wr.drew.heap.size by have := blk_lt q0; have := hl; omega)⟩
     focus
      go_simp
      have q1 := blk_alloc q0 (.cells #[Value.int .i64 0, .int .i64 0, .int .i64 0, .int .i64 0, .int .i64 0, .int .i64 0, .int .i64 0, .int .i64 0] 41)
      have r1 := blk_alloc r0 (.cells #[Value.int .i64 0, .int .i64 0, .int .i64 0, .int .i64 0, .int .i64 0, .int .i64 0, .int .i64 0, .int .i64 0] 41)
      have p1 := blk_alloc p0 (.cells #[Value.int .i64 0, .int .i64 0, .int .i64 0, .int .i64 0, .int .i64 0, .int .i64 0, .int .i64 0, .int .i64 0] 41)
      have b1 := b0.alloc b0.size (.cells #[Value.int .i64 0, .int .i64 0, .int .i64 0, .int .i64 0, .int .i64 0, .int .i64 0, .int .i64 0, .int .i64 0] 41)
      have k1 := blk_new wr.drew 41 #[Value.int .i64 0, .int .i64 0, .int .i64 0, .int .i64 0, .int .i64 0, .int .i64 0, .int .i64 0, .int .i64 0]
      refine hK.out _ _ (Or.inr (sid q1)) (fun hHeld => ?_)
      clear hK K hHeld
      try simp only [Act.put, tA, tB, tC]
      refine aR 5 (fun K hK => ?_)
      go_simp
      refine (cb _).mono ?_
      rintro e W' ⟨rfl, rfl⟩
      refine hK.out _ _ (Or.inr (sid q1)) (fun hHeld => ?_)
      clear hK K hHeld
      try simp only [Act.put, tA, tB, tC]
      refine aR 6 (fun K hK => ?_)
      go_simp
      refine (cp _).mono ?_
      rintro e W6 ⟨rfl, BC⟩
      have q6 := blk_below q1 BC (blk_lt q1)
      have r6 := blk_below r1 BC (blk_lt r1)
      have p6 := blk_below p1 BC (blk_lt p1)
      have b6 := bnext b1 BC
      refine hK.out _ _ (Or.inl (by rfl)) (fun hHeld => ?_)
      clear hK K hHeld
      try simp only [Act.put, tA, tB, tC]
      have k6 := blk_below k1 BC (blk_lt k1)
      have hl := Nat.le_refl wr.drew.heap.size
      refine aW 7 (Or.inl (by rfl)) ?_
      refine aW 8 (Or.inl (by rfl)) ?_
      refine aW 9 (Or.inl (by rfl)) ?_
      refine aR 11 (fun K hK => ?_)
      refine stepU_store_blk (by rfl) 41 _ _ rfl wr.drew.heap.size 41 #[Value.int .i64 0, .int .i64 0, .int .i64 0, .int .i64 0, .int .i64 0, .int .i64 0, .int .i64 0, .int .i64 0] (ints kl) rfl rfl k6 HKS.out HKZ.out (ints_one kl) ?_
      intro W7 n0 n1
      have q7 := blk_grown q6 n1 (fun e => by injection e with e; have := blk_lt q0; have := hl; omega)
      have r7 := blk_grown r6 n1 (fun e => by injection e with e; have := blk_lt r0; have := hl; omega)
      have p7 := blk_grown p6 n1 (fun e => by injection e with e; have := blk_lt p0; have := hl; omega)
      have b7 := below_grown b6 n1 b6.size (by have := b0.size; have := hl; omega)
      refine hK.out _ _ (Or.inl (by rfl)) (fun hHeld => ?_)
      clear hK K hHeld
      try simp only [Act.put]
      refine aW 12 (Or.inl (by rfl)) ?_
      refine anyU_done (by kernel_rfl) ?_ _
      go_wp2_with fail
      go_meet
      exact ⟨wr.drew.heap.size, rfl, r7, q7, p7, n0, b7, (show gp < wr.drew.heap.size by have := blk_lt q0; have := hl; omega)⟩
    case rest =>
     obtain ⟨gk, rfl, R, Q, P, KB, BB, hgk⟩ := hcut
     have HGK := hgk.out
     go_wp2_with fail
     go_loopg [57] 8 (fun gg s57 wr => ∃ b : Nat, b ≤ 8 ∧ 8 - b ≤ gg ∧ s57 = .int .i64 b ∧ Aside (RR wr gr B (48 + bitsTo s.ys b)) ∧ Aside (Blk wr w.heap.size 49 (pkV 0 (shUp s 0 0))) ∧ Aside (Blk wr gp 49 (pkV n (shUp s 8 b))) ∧ Aside (Blk wr gk 41 (ints kl)) ∧ Aside (Below w.heap.size w wr))
     case atStart => exact ⟨0, Nat.zero_le _, by omega, rfl, R.out, P.out, Q.out, KB.out, BB.out⟩
     case round =>
      clear R P Q KB BB hgk
      obtain ⟨b, hb, hgb, rfl, R, P, Q, KB, BB⟩ := hrel
      by_cases hb8 : b < 8
      · have hbz : (b : Int) < 8 := by omega
        have hb0 : (0 : Int) ≤ b := by omega
        have hyl := shp_ylen HS.out.ok hb8
        have hsum := getD_all HS.out.sum (i := b) (by rw [HS.out.ok.yl]; exact hb8) []
        have hgv := HG.out b hb8
        rw [← HKL.out] at hgv
        have ck := blk_int KB.out (i := b) (by rw [HKK.out.len]; exact hb8)
        rw [← hgv] at ck
        have hrp := HR.out.puls b hb8
        have hbt := bitsTo_succ s.ys b
        have hup := bitsTo_up s.ys (b + 1) (7 - b)
        rw [show b + 1 + (7 - b) = 8 by omega] at hup
        have hput := shUp_put s 8 b
        obtain ⟨y, hy⟩ : ∃ y, y = s.ys.getD b [] := ⟨_, rfl⟩
        rw [← hy] at hyl hsum hgv ck hrp hbt hput
        rw [sumA_plN] at ck hrp hbt hsum
        rw [Int.toNat_natCast] at hrp hbt
        obtain ⟨k, hk⟩ : ∃ k, k = plN y := ⟨_, rfl⟩
        rw [← hk] at ck hrp hbt hsum
        have hlong := HR.out.long
        have cr := rpulses_calls gr B (48 + bitsTo s.ys b) k y wr R.out (by omega) HB.out hyl hk.symm (by omega) hrp
        have HYL := hid hyl
        have HPUT := hid hput
        have HBT := hid (show 48 + bitsTo s.ys b + bitsK k = 48 + bitsTo s.ys (b + 1) by rw [hbt]; omega)
        have HYP := hid (pul_size hyl)
        clear hyl hsum hgv hrp hbt hup hput hy hk hlong
        go_wp2_with fail
        refine cr.mono ?_
        rintro e w7 ⟨rfl, R7, G⟩
        rw [HBT.out] at R7
        have R7' := hid R7
        have P7 := hid (blk_grown P.out G (fun e => by injection e with e; omega))
        have Q7 := hid (blk_grown Q.out G (fun e => by injection e with e; omega))
        have K7 := hid (blk_grown KB.out G (fun e => by injection e with e; omega))
        have B7 := hid (below_grown BB.out G BB.out.size (by omega))
        obtain ⟨s1, s2⟩ := pk_store Q7.out (shUp_ok HS.out.ok 8 b) hb8 HYL.out
        rw [HPUT.out] at s1
        have R8 := hid (blk_grown R7'.out s2 (fun e => by injection e with e; omega))
        have P8 := hid (blk_grown P7.out s2 (fun e => by injection e with e; omega))
        have K8 := hid (blk_grown K7.out s2 (fun e => by injection e with e; omega))
        have B8 := hid (below_grown B7.out s2 B7.out.size (by omega))
        have Q8 := hid s1
        have TH := hid (pk_there Q7.out (shUp_ok HS.out.ok 8 b) hb8)
        clear cr R7 G R P Q KB BB s1 s2 R7' P7 K7 B7 ck
        go_wp2_with (first | (refine wpList_store_list rfl 44 _ _ rfl gp (9 + b * 4) (y.map (Value.int .i64)) rfl rfl (by rw [List.length_map, HYL.out]; exact TH.out) HYP.out (ints_one1 _) ?_))
        go_roundg (8 - (b + 1))
        case measure => omega
        case rel => exact ⟨b + 1, by omega, by omega, by go_num, R8.out, P8.out, Q8.out, K8.out, B8.out⟩
      · obtain rfl : b = 8 := by omega
        have hQ := Q.out
        rw [shUp_full HS.out.ok] at hQ
        have QF := hid hQ
        have cz := zeros_calls gr B (48 + bitsTo s.ys 8) wr R.out HR.out.long HB.out HR.out.zero
        have HPS := hid (pk_size HS.out.ok n)
        have HPW := hid (show (pkV n s).size = (pkV 0 (shUp s 0 0)).size by rw [ints_size, ints_size, List.length_cons, List.length_cons, shp_len HS.out.ok, shp_len (shUp_ok HS.out.ok 0 0)])
        clear hQ Q KB
        go_wp2_with fail
        refine cz.mono ?_
        rintro e w7 ⟨rfl, BZ⟩
        have Q7 := hid (blk_below QF.out BZ (blk_lt QF.out))
        have P7 := hid (blk_below P.out BZ (blk_lt P.out))
        have B7 := hid (bnext BB.out BZ)
        clear cz BZ QF P BB R
        go_wp2_with (first | (refine wpList_load_blk (by rfl) 49 _ rfl gp rfl 49 (pkV n s) _ Q7.out Tryz.underlying49 rfl HPS.out ?_) | (refine wpList_store_blk rfl 49 _ _ rfl w.heap.size 49 (pkV 0 (shUp s 0 0)) (pkV n s) rfl rfl P7.out HPW.out HPS.out (ints_one _) ?_; intro w8 n0 n1; have P8 := hid n0; have B8 := hid (below_grown B7.out n1 B7.out.size (Nat.le_refl _)); clear n0 n1))
        exact bodyPost_ret (results_row_slot rfl _ _ w.heap.size 49 (pkV n s) (0, 0) _ _ rfl rfl P8.out Tryz.underlying49 rfl HPS.out) rfl ⟨rfl, B8.out⟩
end Go.Proofs.YtiigipnfnfpepaaGreatDoor
