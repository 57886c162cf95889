/- A frame's bit (layer 18): all vectors of so many pulses. A frame's bit (layer 18): each; the plain law of the vectors. A frame's bit (layer 18): Put. -/
import Derived.Test.YtiigipnfnfpepaaGreatDoorUC11
import Derived.Test.YtiigipnfnfpepaaGreatDoorUA
namespace Go.Proofs.YtiigipnfnfpepaaGreatDoor
open Go.RowKit

def atL : Nat → Nat → List Int → List (List Int)
 | 0, left, p => if 0 < left then [p ++ [(left : Int)], p ++ [-(left : Int)]] else [p ++ [(left : Int)]]
 | r + 1, left, p => (List.range (left + 1)).flatMap fun x => atL r (left - x) (p ++ [(x : Int)]) ++ if 0 < x then atL r (left - x) (p ++ [-(x : Int)]) else []
def eachL (k : Nat) : List (List Int) := atL 3 k []
abbrev lookV (gs : Nat) : Value := .func (.func 42) #[.pointer (some ⟨gs, 0, none⟩)] #[]
abbrev atV (gy gd gt : Nat) : Value := .func (.func 71) #[] #[.pointer (some ⟨gy, 0, none⟩), .pointer (some ⟨gd, 0, none⟩), .pointer (some ⟨gt, 0, none⟩)]
def lookS (y c : List Int) (m : Int) (s : List Int × Int) (zs : List (List Int)) : List Int × Int := zs.foldl (lookF y c m) s
structure EI (y c : List Int) (m : Int) (gs gy gd gt : Nat) (w : World) (s : List Int × Int) (ys : List Int) : Prop where
 bs : Blk w gs ST84 (ints (srL y c m s.1 s.2))
 by' : Blk w gy 44 (ints ys)
 bd : Blk w gd 88 #[lookV gs]
 bt : Blk w gt 132 #[atV gy gd gt]
 sl : s.1.length = 4
 yl : ys.length = 4
structure EN (gs gy gd gt : Nat) : Prop where
 sy : gs ≠ gy
 sd : gs ≠ gd
 st : gs ≠ gt
 yd : gy ≠ gd
 yt : gy ≠ gt
structure Keep2 (w w' : World) (a b : Nat) : Prop where
 os : w'.os = w.os
 tape : w'.tape = w.tape
 output : w'.output = w.output
 size : w.heap.size ≤ w'.heap.size
 block : ∀ k, k < w.heap.size → k ≠ a → k ≠ b → w'.heap[k]? = w.heap[k]?
theorem Keep2.refl (w : World) (a b : Nat) : Keep2 w w a b := ⟨rfl, rfl, rfl, Nat.le_refl _, fun _ _ _ _ => rfl⟩
theorem Keep2.trans {u v w : World} {a b : Nat} (h : Keep2 u v a b) (k : Keep2 v w a b) : Keep2 u w a b :=
 ⟨k.os.trans h.os, k.tape.trans h.tape, k.output.trans h.output, Nat.le_trans h.size k.size, fun i hi ha hb => (k.block i (Nat.lt_of_lt_of_le hi h.size) ha hb).trans (h.block i hi ha hb)⟩
theorem Keep2.of_left {w w' : World} {a b : Nat} (h : w.grownBy w' (some a)) : Keep2 w w' a b := ⟨h.os, h.tape, h.output, h.size, fun k hk ha _ => h.block k hk (fun e => ha (by injection e))⟩
theorem Keep2.of_right {w w' : World} {a b : Nat} (h : w.grownBy w' (some b)) : Keep2 w w' a b := ⟨h.os, h.tape, h.output, h.size, fun k hk _ hb => h.block k hk (fun e => hb (by injection e))⟩
theorem lookF_len {y c : List Int} {m : Int} {s : List Int × Int} {z : List Int} (hs : s.1.length = 4) (hz : z.length = 4) : (lookF y c m s z).1.length = 4 := by
 unfold lookF; split
 · exact hz
 · exact hs
section
variable {y c : List Int} {m : Int} {gs gy gd gt : Nat} {w w' : World} {s : List Int × Int} {ys : List Int}
theorem ei_look (hn : EN gs gy gd gt) (h : EI y c m gs gy gd gt w s ys) {z : List Int} (hz : z.length = 4) (hb : Blk w' gs ST84 (ints (srL y c m (lookF y c m s z).1 (lookF y c m s z).2))) (hg : w.grownBy w' (some gs)) : EI y c m gs gy gd gt w' (lookF y c m s z) ys :=
 ⟨hb, blk_grown h.by' hg (fun e => hn.sy (by injection e with e; exact e.symm)), blk_grown h.bd hg (fun e => hn.sd (by injection e with e; exact e.symm)), blk_grown h.bt hg (fun e => hn.st (by injection e with e; exact e.symm)), lookF_len h.sl hz, h.yl⟩
theorem ei_set (hn : EN gs gy gd gt) (h : EI y c m gs gy gd gt w s ys) (i : Nat) (v : Int) : EI y c m gs gy gd gt (w.setCell ⟨gy, i, none⟩ (.int .i64 v)) s (ys.set i v) :=
 ⟨blk_far h.bs hn.sy _, blk_set_int h.by' i v, blk_far h.bd hn.yd.symm _, blk_far h.bt hn.yt.symm _, h.sl, by rw [List.length_set]; exact h.yl⟩
end
theorem take_set {ys : List Int} {i : Nat} (v : Int) : (ys.set i v).take i = ys.take i := by
 rw [List.take_set_of_le (Nat.le_refl _)]
theorem take_succ_set {ys : List Int} {i : Nat} (v : Int) (hi : i < ys.length) : (ys.set i v).take (i + 1) = ys.take i ++ [v] := by
 rw [List.take_add_one, take_set, List.getElem?_set_self hi]; rfl
theorem take_all {ys : List Int} (h : ys.length = 4) : ys.take 4 = ys := List.take_of_length_le (by omega)

set_option maxRecDepth 20000 in
set_option maxHeartbeats 4000000 in
theorem at0_calls (y c : List Int) (m : Int) (gs gy gd gt : Nat) (hy : PIn y) (hc : ChIn c) (hn : EN gs gy gd gt) (left : Nat) (hl : left ≤ 12) (ys : List Int) (s : List Int × Int) (w : World)
 (hp : ∀ z ∈ ys.take 3, -12 ≤ z ∧ z ≤ 12) (h : EI y c m gs gy gd gt w s ys) :
 Calls Tryz.prog 71 #[.int .i64 3, .int .i64 left, .pointer (some ⟨gy, 0, none⟩), .pointer (some ⟨gd, 0, none⟩), .pointer (some ⟨gt, 0, none⟩)] w
  fun e w' => e = .returned (.tuple #[]) ∧ (∃ ys', EI y c m gs gy gd gt w' (lookS y c m s (atL 0 left (ys.take 3))) ys' ∧ ys'.take 3 = ys.take 3) ∧ Keep2 w w' gs gy := by
 have hpin : ∀ v : Int, -12 ≤ v → v ≤ 12 → PIn (ys.set 3 v) := fun v h0 h1 => ⟨by rw [List.length_set]; exact h.yl, fun z hz => by
  have e := take_all (ys := ys.set 3 v) (by rw [List.length_set]; exact h.yl)
  rw [take_succ_set v (by rw [h.yl]; decide)] at e
  rw [← e] at hz
  rcases List.mem_append.1 hz with h2 | h2
  · exact hp z h2
  · rw [List.mem_singleton.1 h2]; exact ⟨h0, h1⟩⟩
 have e1 : ∀ v : Int, ys.take 3 ++ [v] = ys.set 3 v := fun v => by
  rw [← take_succ_set v (by rw [h.yl]; decide), take_all (by rw [List.length_set]; exact h.yl)]
 have h1 := ei_set hn h 3 left
 have cl1 := look_calls y c m s (ys.set 3 left) gs _ hy hc (hpin left (by omega) (by omega)) h1.sl h1.bs
 have cy := blk_int h.by' (i := 3) (by rw [h.yl]; decide)
 have fy := blk_free h.by' 3
 have cd1 : (w.setCell ⟨gy, 3, none⟩ (.int .i64 left)).cell? ⟨gd, 0, none⟩ = some (lookV gs) := blk_cell h1.bd 0
 have HPZ := hid (fun v => show (Tryz.prog.info? 44).map (·.size) = some (ints (ys.set 3 v)).size by rw [ints_size, List.length_set, h.yl]; kernel_rfl)
 have H1 := hid h1
 have HC := hid hc
 have HY := hid hy
 have HN := hid hn
 have HPI := hid hpin
 have HE := hid e1
 have HL := hid h.yl
 have K0 : Hid (Keep2 w (w.setCell ⟨gy, 3, none⟩ (.int .i64 left)) gs gy) := hid (Keep2.of_right (grown_setCell w gy 3 _))
 have hl0 : (0 : Int) ≤ left := by omega
 have hl1 : (left : Int) ≤ 12 := by omega
 clear hpin e1 h1 h hp hc hy hn
 go_enter Tryz.func71, Tryz.ntmps71
 go_wp2_with (first | (refine wpList_load_blk (by rfl) 44 _ rfl gy rfl 44 (ints (ys.set 3 left)) _ H1.out.by' Tryz.underlying44 rfl (HPZ.out left) ?_))
 refine cl1.mono ?_
 rintro e w2 ⟨rfl, b2, g2⟩
 have E2 := ei_look HN.out H1.out (z := ys.set 3 left) (by rw [List.length_set]; exact HL.out) b2 g2
 have K2 := hid (K0.out.trans (Keep2.of_left g2))
 clear cl1 b2 g2 K0 cd1 cy fy H1
 by_cases hlz : 0 < left
 · have hlz1 : (0 : Int) < left := by omega
   have h3 := ei_set HN.out E2 3 (-(left : Int))
   rw [List.set_set] at h3
   have cl2 := look_calls y c m _ (ys.set 3 (-(left : Int))) gs _ HY.out HC.out (HPI.out (-(left : Int)) (by omega) (by omega)) h3.sl h3.bs
   have cy := blk_int E2.by' (i := 3) (by rw [List.length_set, HL.out]; decide)
   have fy := blk_free E2.by' 3
   have cd3 : (w2.setCell ⟨gy, 3, none⟩ (.int .i64 (-(left : Int)))).cell? ⟨gd, 0, none⟩ = some (lookV gs) := blk_cell h3.bd 0
   have H3 := hid h3
   have K3 : Hid (Keep2 w (w2.setCell ⟨gy, 3, none⟩ (.int .i64 (-(left : Int)))) gs gy) := hid (K2.out.trans (Keep2.of_right (grown_setCell w2 gy 3 _)))
   have HST : Hid (lookS y c m s (atL 0 left (ys.take 3)) = lookF y c m (lookF y c m s (ys.set 3 left)) (ys.set 3 (-(left : Int)))) := hid (by rw [atL, if_pos hlz, HE.out, HE.out]; rfl)
   clear h3 E2 K2
   generalize lookF y c m s (ys.set 3 left) = s2 at *
   go_wp2_with (first | (refine wpList_load_blk (by rfl) 44 _ rfl gy rfl 44 (ints (ys.set 3 (-(left : Int)))) _ H3.out.by' Tryz.underlying44 rfl (HPZ.out (-(left : Int))) ?_))
   refine cl2.mono ?_
   rintro e w4 ⟨rfl, b4, g4⟩
   have E4 := hid (ei_look HN.out H3.out (z := ys.set 3 (-(left : Int))) (by rw [List.length_set]; exact HL.out) b4 g4)
   have K4 := hid (K3.out.trans (Keep2.of_left g4))
   clear cl2 b4 g4 H3 K3 cd3 cy fy
   go_wp2_with fail
   exact bodyPost_ret (results_none rfl _ _ _) rfl ⟨rfl, ⟨_, by rw [HST.out]; exact E4.out, take_set _⟩, K4.out⟩
 · have hlz0 : left = 0 := by omega
   have hlz1 : ¬ (0 : Int) < left := by omega
   have HST : Hid (lookS y c m s (atL 0 left (ys.take 3)) = lookF y c m s (ys.set 3 left)) := hid (by rw [atL, if_neg hlz, HE.out]; rfl)
   have E2' := hid E2
   clear E2 hlz0
   go_wp2_with fail
   exact bodyPost_ret (results_none rfl _ _ _) rfl ⟨rfl, ⟨_, by rw [HST.out]; exact E2'.out, take_set _⟩, K2.out⟩
theorem lookS_app (y c : List Int) (m : Int) (s : List Int × Int) (a b : List (List Int)) : lookS y c m s (a ++ b) = lookS y c m (lookS y c m s a) b := by
 unfold lookS; rw [List.foldl_append]
def upTo (r left : Nat) (p : List Int) (x : Nat) : List (List Int) := (List.range x).flatMap fun x => atL r (left - x) (p ++ [(x : Int)]) ++ if 0 < x then atL r (left - x) (p ++ [-(x : Int)]) else []
theorem upTo_succ (r left : Nat) (p : List Int) (x : Nat) : upTo r left p (x + 1) = upTo r left p x ++ (atL r (left - x) (p ++ [(x : Int)]) ++ if 0 < x then atL r (left - x) (p ++ [-(x : Int)]) else []) := by
 unfold upTo; rw [List.range_succ, List.flatMap_append]; simp

set_option maxRecDepth 20000 in
set_option maxHeartbeats 4000000 in
theorem at_calls (y c : List Int) (m : Int) (gs gy gd gt : Nat) (hy : PIn y) (hc : ChIn c) (hn : EN gs gy gd gt) : ∀ (r i left : Nat), i + r = 3 → left ≤ 12 → ∀ (ys : List Int) (s : List Int × Int) (w : World),
 (∀ z ∈ ys.take i, -12 ≤ z ∧ z ≤ 12) → EI y c m gs gy gd gt w s ys →
 Calls Tryz.prog 71 #[.int .i64 i, .int .i64 left, .pointer (some ⟨gy, 0, none⟩), .pointer (some ⟨gd, 0, none⟩), .pointer (some ⟨gt, 0, none⟩)] w
  fun e w' => e = .returned (.tuple #[]) ∧ (∃ ys', EI y c m gs gy gd gt w' (lookS y c m s (atL r left (ys.take i))) ys' ∧ ys'.take i = ys.take i) ∧ Keep2 w w' gs gy := by
 intro r
 induction r with
 | zero =>
  intro i left hi hl ys s w hp h
  obtain rfl : i = 3 := by omega
  exact at0_calls y c m gs gy gd gt hy hc hn left hl ys s w hp h
 | succ r ih =>
  intro i left hi hl ys s w hp h
  have IH := hid ih
  have HP := hid hp
  have HH := hid h
  have HN := hid hn
  have hi3 : i < 3 := by omega
  have hi3z : (i : Int) < 3 := by omega
  have hi0 : (0 : Int) ≤ i := by omega
  have hne : ((i : Int) == 3) = false := by simp; omega
  have hl0 : (0 : Int) ≤ left := by omega
  have hl1 : (left : Int) ≤ 12 := by omega
  have HI := hid hi
  have HFIN := hid (show atL (r + 1) left (ys.take i) = upTo r left (ys.take i) (left + 1) from rfl)
  have HYL := hid h.yl
  clear ih hp h hy hc hn hi
  go_enter Tryz.func71, Tryz.ntmps71
  go_wp2_with fail
  go_loopg [27] (left + 1) (fun gg s27 wr => ∃ (x : Nat) (yx : List Int), x ≤ left + 1 ∧ left + 1 - x ≤ gg ∧ s27 = .int .i64 x ∧ Aside (EI y c m gs gy gd gt wr (lookS y c m s (upTo r left (ys.take i) x)) yx ∧ yx.take i = ys.take i) ∧ Aside (Keep2 w wr gs gy))
  case atStart => exact ⟨0, ys, Nat.zero_le _, by omega, rfl, ⟨HH.out, rfl⟩, Keep2.refl _ _ _⟩
  case round =>
   clear HH
   obtain ⟨x, yx, hx, hgx, rfl, hE, KP⟩ := hrel
   obtain ⟨hE1, hT⟩ := hE.out
   clear hE
   by_cases hlt : x < left + 1
   · have hxz : (x : Int) < left + 1 := by omega
     have hx0 : (0 : Int) ≤ x := by omega
     have hxl : (x : Int) ≤ left := by omega
     have hlx : ((left - x : Nat) : Int) = left - x := by omega
     have hlx0 : (0 : Int) ≤ (left : Int) - x := by omega
     have hi1 : ((i + 1 : Nat) : Int) = i + 1 := by omega
     have hil : i < yx.length := by rw [hE1.yl]; omega
     have h2 := ei_set HN.out hE1 i (x : Int)
     have t2 : (yx.set i (x : Int)).take (i + 1) = ys.take i ++ [(x : Int)] := by rw [take_succ_set _ hil, hT]
     have ih1 := IH.out (i + 1) (left - x) (by have := HI.out; omega) (by omega) (yx.set i (x : Int)) _ _ (by rw [t2]; intro z hz; rcases List.mem_append.1 hz with h | h; exact HP.out z h; rw [List.mem_singleton.1 h]; omega) h2
     rw [hlx, hi1, t2] at ih1
     have cy := blk_int hE1.by' (i := i) hil
     have fy := blk_free hE1.by' i
     have ct2 : (wr.setCell ⟨gy, i, none⟩ (.int .i64 x)).cell? ⟨gt, 0, none⟩ = some (atV gy gd gt) := blk_cell h2.bt 0
     have K2 : Hid (Keep2 w (wr.setCell ⟨gy, i, none⟩ (.int .i64 x)) gs gy) := hid (KP.out.trans (Keep2.of_right (grown_setCell wr gy i _)))
     have HT2 := hid t2
     have HT := hid hT
     have HU := hid (upTo_succ r left (ys.take i) x)
     have HLX := hid hlx
     have HI1 := hid hi1
     clear h2 t2 hE1 hT KP hlx hi1 hil
     go_wp2_with fail
     refine ih1.mono ?_
     rintro e w3 ⟨rfl, ⟨y3, E3, T3⟩, k3⟩
     have K3 := hid (K2.out.trans k3)
     have T3' : y3.take i = ys.take i := by
      have := congrArg (List.take i) T3
      rw [List.take_take, Nat.min_eq_left (Nat.le_succ i)] at this
      rw [this, List.take_append_of_le_length (by rw [List.length_take, HYL.out]; omega), List.take_take, Nat.min_self]
     clear ih1 k3 K2 cy fy ct2
     by_cases hz : 0 < x
     · have hzz : (0 : Int) < x := by omega
       have hil : i < y3.length := by rw [E3.yl]; omega
       have h4 := ei_set HN.out E3 i (-(x : Int))
       have t4 : (y3.set i (-(x : Int))).take (i + 1) = ys.take i ++ [-(x : Int)] := by rw [take_succ_set _ hil, T3']
       have ih2 := IH.out (i + 1) (left - x) (by have := HI.out; omega) (by omega) (y3.set i (-(x : Int))) _ _ (by rw [t4]; intro z hz; rcases List.mem_append.1 hz with h | h; exact HP.out z h; rw [List.mem_singleton.1 h]; omega) h4
       rw [HLX.out, HI1.out, t4, ← lookS_app] at ih2
       have cy := blk_int E3.by' (i := i) hil
       have fy := blk_free E3.by' i
       have ct4 : (w3.setCell ⟨gy, i, none⟩ (.int .i64 (-(x : Int)))).cell? ⟨gt, 0, none⟩ = some (atV gy gd gt) := blk_cell h4.bt 0
       have K4 : Hid (Keep2 w (w3.setCell ⟨gy, i, none⟩ (.int .i64 (-(x : Int)))) gs gy) := hid (K3.out.trans (Keep2.of_right (grown_setCell w3 gy i _)))
       have HT4 := hid t4
       have HY3 := hid T3'
       have HU2 : Hid (upTo r left (ys.take i) (x + 1) = upTo r left (ys.take i) x ++ (atL r (left - x) (ys.take i ++ [(x : Int)]) ++ atL r (left - x) (ys.take i ++ [-(x : Int)]))) := hid (by rw [HU.out, if_pos hz])
       clear h4 t4 E3 T3 T3' K3 hil
       go_wp2_with fail
       refine ih2.mono ?_
       rintro e w5 ⟨rfl, ⟨y5, E5, T5⟩, k5⟩
       have K5 := hid (K4.out.trans k5)
       have T5' : y5.take i = ys.take i := by
        have := congrArg (List.take i) T5
        rw [List.take_take, Nat.min_eq_left (Nat.le_succ i)] at this
        rw [this, List.take_append_of_le_length (by rw [List.length_take, HYL.out]; omega), List.take_take, Nat.min_self]
       have E5' : Hid (EI y c m gs gy gd gt w5 (lookS y c m s (upTo r left (ys.take i) (x + 1))) y5) := hid (by rw [HU2.out, lookS_app, lookS_app]; rw [lookS_app] at E5; exact E5)
       have T5'' := hid T5'
       clear ih2 k5 K4 cy fy ct4 E5 T5 T5'
       go_wp2_with fail
       go_roundg (left + 1 - (x + 1))
       case measure => omega
       case rel => exact ⟨x + 1, y5, by omega, by omega, by go_num, ⟨E5'.out, T5''.out⟩, K5.out⟩
     · have hzz : ¬ (0 : Int) < x := by omega
       have E3' : Hid (EI y c m gs gy gd gt w3 (lookS y c m s (upTo r left (ys.take i) (x + 1))) y3) := hid (by rw [HU.out, if_neg hz, lookS_app, List.append_nil]; exact E3)
       have T3'' := hid T3'
       clear E3 T3 T3'
       go_wp2_with fail
       go_roundg (left + 1 - (x + 1))
       case measure => omega
       case rel => exact ⟨x + 1, y3, by omega, by omega, by go_num, ⟨E3'.out, T3''.out⟩, K3.out⟩
   · obtain rfl : x = left + 1 := by omega
     have E3' : Hid (EI y c m gs gy gd gt wr (lookS y c m s (atL (r + 1) left (ys.take i))) yx) := hid (by rw [HFIN.out]; exact hE1)
     have T3'' := hid hT
     clear hE1 hT
     go_wp2_with fail
     go_end0
     exact ⟨rfl, ⟨_, E3'.out, T3''.out⟩, KP.out⟩
end Go.Proofs.YtiigipnfnfpepaaGreatDoor
namespace Go.Proofs.YtiigipnfnfpepaaGreatDoor
open Go.RowKit

theorem sumA_app (a b : List Int) : sumA (a ++ b) = sumA a + sumA b := by simp [sumA]
theorem sumA_one (x : Int) : sumA [x] = (x.natAbs : Int) := by simp [sumA]
theorem atL_in : ∀ (r left : Nat) (p : List Int) (z : List Int), z ∈ atL r left p → z.length = p.length + r + 1 ∧ sumA z = sumA p + left
 | 0, left, p, z, h => by
  have hs : ∀ v : Int, (v.natAbs : Int) = left → (p ++ [v]).length = p.length + 0 + 1 ∧ sumA (p ++ [v]) = sumA p + left := fun v hv => ⟨by simp, by rw [sumA_app, sumA_one, hv]⟩
  rw [atL] at h
  split at h
  · rcases List.mem_cons.1 h with rfl | h
    · exact hs _ (by omega)
    · rw [List.mem_singleton.1 h]; exact hs _ (by omega)
  · rw [List.mem_singleton.1 h]; exact hs _ (by omega)
 | r + 1, left, p, z, h => by
  rw [atL] at h
  obtain ⟨x, hx, hz⟩ := List.mem_flatMap.1 h
  have hxl := List.mem_range.1 hx
  have hs : ∀ v : Int, (v.natAbs : Int) = x → z ∈ atL r (left - x) (p ++ [v]) → z.length = p.length + (r + 1) + 1 ∧ sumA z = sumA p + left := fun v hv hm => by
   have h1 := atL_in r (left - x) (p ++ [v]) z hm
   rw [List.length_append, sumA_app, sumA_one, hv] at h1
   simp only [List.length_singleton] at h1
   omega
  rcases List.mem_append.1 hz with h1 | h1
  · exact hs _ (by omega) h1
  · split at h1
    · exact hs _ (by omega) h1
    · cases h1
theorem sumA_pin {z : List Int} (hl : z.length = 4) {k : Int} (hs : sumA z = k) (hk : k ≤ 12) : PIn z := ⟨hl, fun x hx => by
 obtain ⟨i, hi, rfl⟩ := List.getElem_of_mem hx
 have := (sumA_ge z i).1
 rw [List.getD_eq_getElem?_getD, List.getElem?_eq_getElem hi] at this
 simp only [Option.getD_some] at this
 omega⟩
theorem eachL_in {k : Nat} (hk : k ≤ 12) {z : List Int} (h : z ∈ eachL k) : PIn z ∧ sumA z = k := by
 have h1 := atL_in 3 k [] z h
 have h2 : sumA z = k := by rw [h1.2]; simp [sumA]
 exact ⟨sumA_pin h1.1 h2 (by omega), h2⟩

set_option maxRecDepth 20000 in
set_option maxHeartbeats 2000000 in
theorem each_calls (y c : List Int) (m : Int) (k gs : Nat) (s : List Int × Int) (w : World) (hy : PIn y) (hc : ChIn c) (hk : k ≤ 12) (hs : s.1.length = 4) (hb : Blk w gs ST84 (ints (srL y c m s.1 s.2))) :
 Calls Tryz.prog 41 #[.int .i64 k, lookV gs] w fun e w' => e = .returned (.tuple #[]) ∧ Blk w' gs ST84 (ints (srL y c m (lookS y c m s (eachL k)).1 (lookS y c m s (eachL k)).2)) ∧ (lookS y c m s (eachL k)).1.length = 4 ∧ w.grownBy w' (some gs) := by
 have hgs := blk_lt hb
 let w1 := ((w.alloc (.cells #[lookV gs] 88)).alloc (.cells #[Value.int .i64 0, .int .i64 0, .int .i64 0, .int .i64 0] 44)).alloc (.cells #[atV (w.heap.size + 1) w.heap.size (w.heap.size + 1 + 1)] 132)
 have e1 : EI y c m gs (w.heap.size + 1) w.heap.size (w.heap.size + 1 + 1) w1 s [0, 0, 0, 0] := by
  refine ⟨blk_alloc (blk_alloc (blk_alloc hb _) _) _, ?_, blk_alloc (blk_alloc (blk_new w _ _) _) _, ?_, hs, rfl⟩
  · have := blk_alloc (blk_new (w.alloc (.cells #[lookV gs] 88)) 44 #[Value.int .i64 0, .int .i64 0, .int .i64 0, .int .i64 0]) (.cells #[atV (w.heap.size + 1) w.heap.size (w.heap.size + 1 + 1)] 132)
    rw [World.size_alloc] at this
    exact this
  · have := blk_new ((w.alloc (.cells #[lookV gs] 88)).alloc (.cells #[Value.int .i64 0, .int .i64 0, .int .i64 0, .int .i64 0] 44)) 132 #[atV (w.heap.size + 1) w.heap.size (w.heap.size + 1 + 1)]
    rw [World.size_alloc, World.size_alloc] at this
    exact this
 have hn : EN gs (w.heap.size + 1) w.heap.size (w.heap.size + 1 + 1) := ⟨by omega, by omega, by omega, by omega, by omega⟩
 have ca := at_calls y c m gs (w.heap.size + 1) w.heap.size (w.heap.size + 1 + 1) hy hc hn 3 0 k rfl hk [0, 0, 0, 0] s w1 (by simp) e1
 rw [show ((0 : Nat) : Int) = 0 from rfl, show atL 3 k (List.take 0 [(0 : Int), 0, 0, 0]) = eachL k from rfl] at ca
 have G1 : Hid (w.grownBy w1 (some gs)) := hid (((World.grownBy_alloc w (.cells #[lookV gs] 88) (some gs)).trans (World.grownBy_alloc _ (.cells #[Value.int .i64 0, .int .i64 0, .int .i64 0, .int .i64 0] 44) (some gs))).trans (World.grownBy_alloc _ (.cells #[atV (w.heap.size + 1) w.heap.size (w.heap.size + 1 + 1)] 132) (some gs)))
 have HW1 := hid (show w.heap.size ≤ w1.heap.size from G1.out.size)
 have ct : (((w.alloc (.cells #[lookV gs] 88)).alloc (.cells #[Value.int .i64 0, .int .i64 0, .int .i64 0, .int .i64 0] 44)).alloc (.cells #[atV (w.heap.size + 1) w.heap.size (w.heap.size + 1 + 1)] 132)).cell? ⟨w.heap.size + 1 + 1, 0, none⟩ = some (atV (w.heap.size + 1) w.heap.size (w.heap.size + 1 + 1)) := blk_cell e1.bt 0
 have rs := fun (a : Addr) (md : Mode) (W : World) => run_store Tryz.prog W a (atV (w.heap.size + 1) w.heap.size (w.heap.size + 1 + 1)) md rfl
 clear e1 hn hb hs hy hc hgs
 go_enter Tryz.func41, Tryz.ntmps41
 go_wp2_with fail
 refine ca.mono ?_
 rintro e w2 ⟨rfl, ⟨ys, E2, _⟩, k2⟩
 have E2' := hid E2
 have G2 : Hid (w.grownBy w2 (some gs)) := hid ⟨k2.os.trans G1.out.os, k2.tape.trans G1.out.tape, k2.output.trans G1.out.output, Nat.le_trans G1.out.size k2.size, fun i hi hne => (k2.block i (Nat.lt_of_lt_of_le hi HW1.out) (fun e => hne (by rw [e])) (by omega)).trans (G1.out.block i hi hne)⟩
 clear ca E2 k2
 go_wp2_with fail
 go_end0
 exact ⟨rfl, E2'.out.bs, E2'.out.sl, G2.out⟩
end Go.Proofs.YtiigipnfnfpepaaGreatDoor
namespace Go.Proofs.YtiigipnfnfpepaaGreatDoor
open Go.RowKit

structure SK (s : Shp) : Prop where
 ok : SOk s
 sum : ∀ y ∈ s.ys, sumA y ≤ 12
theorem sk_in {s : Shp} (h : SK s) : SIn s := ⟨h.ok, fun y hy => sumA_pin (h.ok.y4 y hy) rfl (h.sum y hy)⟩
theorem pulsesI_sum {y : List Int} (hl : y.length = 4) (hs : sumA y ≤ 12) : pulsesI y = sumA y := by
 have hp := sumA_pin hl rfl hs
 obtain ⟨a, b, c, d, rfl⟩ := list4 hl
 have h0 := pin_get hp (i := 0) (by decide)
 have h1 := pin_get hp (i := 1) (by decide)
 have h2 := pin_get hp (i := 2) (by decide)
 have h3 := pin_get hp (i := 3) (by decide)
 have hz : ∀ x : Int, -12 ≤ x ∧ x ≤ 12 → sizeI x = (x.natAbs : Int) := fun x hx => by
  unfold sizeI
  rw [if_neg (by omega)]
  split <;> omega
 have e : sumTo' [a, b, c, d] 4 = sumA [a, b, c, d] := by
  show 0 + sizeI a + sizeI b + sizeI c + sizeI d = _
  rw [hz a h0, hz b h1, hz c h2, hz d h3]
  simp [sumA]
  omega
 unfold pulsesI
 show min (sumTo' [a, b, c, d] 4) 13 = _
 rw [e]
 omega
def negC (c : List Int) : List Int := c.map fun x => -x
def chipsB (kb : List UInt8) (n : Nat) (bit : Bool) : List Int := if bit then negC (chipsL kb n) else chipsL kb n
theorem chipsL_in (kb : List UInt8) (n : Nat) : ChIn (chipsL kb n) := ⟨chipsL_len kb n, fun z hz => by
 obtain ⟨i, _, rfl⟩ := List.mem_map.1 hz
 split <;> omega⟩
theorem negC_in {c : List Int} (h : ChIn c) : ChIn (negC c) := ⟨by rw [negC, List.length_map]; exact h.len, fun z hz => by
 obtain ⟨x, hx, rfl⟩ := List.mem_map.1 hz
 have := h.all x hx
 omega⟩
theorem chipsB_in (kb : List UInt8) (n : Nat) (bit : Bool) : ChIn (chipsB kb n bit) := by
 unfold chipsB; split
 · exact negC_in (chipsL_in kb n)
 · exact chipsL_in kb n
def mputL (kb : List UInt8) (n : Nat) (bit : Bool) (s : Shp) : Shp × Bool :=
 let b := (bandI kb n).toNat
 let y := s.ys.getD b []
 let c := chipsB kb n bit
 let m := movesL s.sd b
 if 2 ≤ sumC y c 4 ∨ m = 0 then (s, decide (2 ≤ sumC y c 4))
 else
  let st := lookS y c m ([0, 0, 0, 0], -1) (eachL (sumA y).toNat)
  if st.2 < 0 then (s, false) else (s.put b st.1, true)
theorem lookS_in {y c : List Int} {m : Int} {P : List Int → Prop} : ∀ (zs : List (List Int)) (s : List Int × Int), (∀ z ∈ zs, P z) → (0 ≤ s.2 → P s.1) → 0 ≤ (lookS y c m s zs).2 → P (lookS y c m s zs).1
 | [], s, _, h, h0 => h h0
 | z :: zs, s, hz, h, h0 => by
  refine lookS_in (y := y) (c := c) (m := m) zs (lookF y c m s z) (fun q hq => hz q (List.mem_cons_of_mem _ hq)) (fun h1 => ?_) h0
  unfold lookF at h1 ⊢
  split
  · exact hz z List.mem_cons_self
  · rename_i hc
    rw [if_neg hc] at h1
    exact h h1
structure Same (s t : Shp) : Prop where
 sd : t.sd = s.sd
 sum : ∀ b, b < 8 → sumA (t.ys.getD b []) = sumA (s.ys.getD b [])
theorem same_refl (s : Shp) : Same s s := ⟨rfl, fun _ _ => rfl⟩
theorem same_trans {s t u : Shp} (h : Same s t) (k : Same t u) : Same s u := ⟨k.sd.trans h.sd, fun b hb => (k.sum b hb).trans (h.sum b hb)⟩
theorem same_put {s : Shp} (h : SOk s) {b : Nat} (hb : b < 8) {y : List Int} (hy : sumA y = sumA (s.ys.getD b [])) : Same s (s.put b y) := ⟨rfl, fun p _ => by
 by_cases e : b = p
 · subst e
   rw [Shp.put, List.getD_eq_getElem?_getD, List.getElem?_set_self (by rw [h.yl]; exact hb)]
   exact hy
 · rw [Shp.put, List.getD_eq_getElem?_getD, List.getElem?_set_ne e, List.getD_eq_getElem?_getD]⟩
theorem sk_put {s : Shp} (h : SK s) (b : Nat) {y : List Int} (hl : y.length = 4) (hy : sumA y ≤ 12) : SK (s.put b y) := ⟨sok_put h.ok b hl, set_all h.sum b hy⟩
theorem mputL_ok {kb : List UInt8} {n : Nat} {bit : Bool} {s : Shp} (h : SK s) (hb : (bandI kb n).toNat < 8) : SK (mputL kb n bit s).1 ∧ Same s (mputL kb n bit s).1 := by
 unfold mputL
 dsimp only
 split
 · exact ⟨h, same_refl s⟩
 · split
   · exact ⟨h, same_refl s⟩
   · rename_i h2
     have hy := getD_all h.sum (i := (bandI kb n).toNat) (by rw [h.ok.yl]; exact hb) []
     have h0 := (sumA_ge (s.ys.getD (bandI kb n).toNat []) 0).2
     have := lookS_in (y := s.ys.getD (bandI kb n).toNat []) (c := chipsB kb n bit) (m := movesL s.sd (bandI kb n).toNat) (P := fun z => PIn z ∧ sumA z = sumA (s.ys.getD (bandI kb n).toNat [])) (eachL (sumA (s.ys.getD (bandI kb n).toNat [])).toNat) ([0, 0, 0, 0], -1)
      (fun z hz => by
       have := eachL_in (by omega) hz
       rw [Int.toNat_of_nonneg h0] at this
       exact this) (fun h => absurd h (by decide)) (by omega)
     exact ⟨sk_put h _ this.1.len (by rw [this.2]; exact hy), same_put h.ok hb this.2⟩
end Go.Proofs.YtiigipnfnfpepaaGreatDoor
