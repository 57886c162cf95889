/- Towers (layer 26): settings; what may be sent. Towers: how many numbers samples have; whether they can be sent. Towers: samples that can be sent. Towers: sound's frames, of one channel; rows of frames -/
import Derived.Test.YtiigipnfnfpepaaGreatDoorUC17
import Derived.Test.YtiigipnfnfpepaaGreatDoorUB3
import Derived.BigQuiet
import Derived.Test.YtiigipnfnfpepaaGreatDoorUC15
import Derived.Great.BuildSlice
import Derived.Test.YtiigipnfnfpepaaGreatDoorUC6
import Derived.Test.YtiigipnfnfpepaaGreatDoorUA
namespace Go.Proofs.YtiigipnfnfpepaaGreatDoor
open Go.RowKit

def setV (kb : List UInt8) (sz ch : Nat) : Array Value := bytesV kb ++ #[.int .i64 sz, .int .i64 ch]
section
variable {w : World} {g : Nat} {t : TypeId} {kb : List UInt8} {sz ch : Nat}
theorem set_size (kb : List UInt8) (sz ch : Nat) (hk : kb.length = 16) : (Tryz.prog.info? 28).map (·.size) = some (setV kb sz ch).size := by
 rw [setV, Array.size_append, bytesV_size, hk]; kernel_rfl
theorem set_sz (hb : Blk w g t (setV kb sz ch)) (hk : kb.length = 16) : w.cell? ⟨g, 16, none⟩ = some (.int .i64 sz) := by
 rw [blk_cell hb, setV, Array.getElem?_append, if_neg (by rw [bytesV_size, hk]; decide), bytesV_size, hk]; rfl
theorem set_ch (hb : Blk w g t (setV kb sz ch)) (hk : kb.length = 16) : w.cell? ⟨g, 17, none⟩ = some (.int .i64 ch) := by
 rw [blk_cell hb, setV, Array.getElem?_append, if_neg (by rw [bytesV_size, hk]; decide), bytesV_size, hk]; rfl
theorem set_key (hb : Blk w g t (setV kb sz ch)) (_hk : kb.length = 16) : w.rangeAt g 0 (bytesV kb).toList := fun j v hj => by
 have hl : j < kb.length := by
  have := (List.getElem?_eq_some_iff.1 hj).1
  simpa [bytesV] using this
 rw [Array.getElem?_toList] at hj
 rw [blk_cell hb, setV, Nat.zero_add, Array.getElem?_append, if_pos (by rw [bytesV_size]; exact hl), hj]
end
structure SetOk (kb : List UInt8) (sz ch : Nat) : Prop where
 k : kb.length = 16
 lo : 12 ≤ sz
 hi : sz ≤ 24
 c : ch = 1 ∨ ch = 2

set_option maxRecDepth 20000 in
set_option maxHeartbeats 2000000 in
theorem tMay_calls (kb : List UInt8) (sz ch : Nat) (w : World) (h : SetOk kb sz ch) :
 Calls Tryz.prog 18 #[.agg (setV kb sz ch)] w fun e w' => e = .returned (.bool true) ∧ Below w.heap.size w w' := by
 have s1 := blk_new w 28 (setV kb sz ch)
 have b1 := hid ((Below.refl w.heap.size w).alloc (Nat.le_refl _) (.cells (setV kb sz ch) 28))
 have c1 := set_sz s1 h.k
 have c2 := set_ch s1 h.k
 have cg := gBits_calls sz (w.alloc (.cells (setV kb sz ch) 28)) h.lo h.hi
 have hz : (0 : Int) < 8 * (sz : Int) - 64 := by have := h.lo; omega
 generalize 8 * (sz : Int) - 64 = z at *
 clear s1
 rcases h.c with rfl | rfl
 · clear h
   go_enter Tryz.func18, Tryz.ntmps18
   go_wp2_with fail
   refine cg.mono ?_
   rintro e w1 ⟨rfl, rfl⟩
   go_wp2_with fail
   go_ret
   exact ⟨rfl, b1.out⟩
 · clear h
   go_enter Tryz.func18, Tryz.ntmps18
   go_wp2_with fail
   refine cg.mono ?_
   rintro e w1 ⟨rfl, rfl⟩
   go_wp2_with fail
   go_ret
   exact ⟨rfl, b1.out⟩
end Go.Proofs.YtiigipnfnfpepaaGreatDoor
namespace Go.Proofs.YtiigipnfnfpepaaGreatDoor
open Go.RowKit

def cntN (ch n : Nat) : Nat := ch * countN (n / ch)

set_option maxRecDepth 20000 in
set_option maxHeartbeats 2000000 in
theorem tCount_calls (kb : List UInt8) (sz ch n : Nat) (w : World) (h : SetOk kb sz ch) (hn : n ≤ 10000) (hd : n % ch = 0) :
 Calls Tryz.prog 75 #[.agg (setV kb sz ch), .int .i64 n] w fun e w' => e = .returned (.int .i64 (cntN ch n)) ∧ Below w.heap.size w w' := by
 have s1 := blk_new w 28 (setV kb sz ch)
 have b1 := hid ((Below.refl w.heap.size w).alloc (Nat.le_refl _) (.cells (setV kb sz ch) 28))
 have S1 := hid s1
 have HZ := hid (set_size kb sz ch h.k)
 have HK := hid h.k
 have cm := fun W => tMay_calls kb sz ch W h
 have hn0 : (0 : Int) ≤ n := by omega
 have hn1 : (n : Int) ≤ 10000 := by omega
 clear s1
 rcases h.c with rfl | rfl
 · have cc := fun W => count_calls (n : Int) W (by omega) (by omega)
   have hcn := countN_cast n
   have HR := hid (show (countN n : Int) = (cntN 1 n : Int) by rw [cntN, Nat.one_mul, Nat.div_one])
   rw [hcn] at cc
   have hc0 : (0 : Int) ≤ countN n := by omega
   have hc1 : (countN n : Int) ≤ 10000 := by unfold countN; omega
   generalize (cntN 1 n : Int) = r at *
   generalize (countN n : Int) = c at *
   clear h hd hcn hn
   go_enter Tryz.func75, Tryz.ntmps75
   go_wp2_with (first | (refine wpList_load_blk (by rfl) 28 _ rfl w.heap.size rfl 28 (setV kb sz _) _ S1.out Tryz.underlying28 rfl HZ.out ?_))
   refine (cm _).mono ?_
   rintro e w1 ⟨rfl, B⟩
   have S2 := hid (blk_below S1.out B (blk_lt S1.out))
   have B2 := hid (bnext b1.out B)
   have c2 := set_ch S2.out HK.out
   clear B cm S1 b1
   go_wp2_with fail
   go_quiet ((go_at_call 114; exact Calls.quiet_of_same ((cc _).mono fun _ _ h => ⟨h.1, h.2.symm⟩)))
   go_wp2_with fail
   go_ret
   exact ⟨HR.out ▸ rfl, below_draws B2.out nq⟩
 · obtain ⟨m, rfl⟩ : ∃ m, n = 2 * m := ⟨n / 2, by omega⟩
   have cc := fun W => count_calls (m : Int) W (by omega) (by omega)
   have hcn := countN_cast m
   have HR := hid (show 2 * (countN m : Int) = (cntN 2 (2 * m) : Int) by rw [cntN, Nat.mul_div_cancel_left _ (by decide)]; omega)
   rw [hcn] at cc
   have hc0 : (0 : Int) ≤ countN m := by omega
   have hc1 : (countN m : Int) ≤ 10000 := by unfold countN; omega
   rw [show ((2 * m : Nat) : Int) = 2 * (m : Int) by omega]
   have hm0 : (0 : Int) ≤ m := by omega
   have hm1 : (m : Int) ≤ 5000 := by omega
   have hq : 2 * (m : Int) / 2 = m := by omega
   have hr : 2 * (m : Int) % 2 = 0 := by omega
   generalize (cntN 2 (2 * m) : Int) = r at *
   generalize (countN m : Int) = c at *
   clear h hd hcn hn hn0 hn1
   go_enter Tryz.func75, Tryz.ntmps75
   go_wp2_with (first | (refine wpList_load_blk (by rfl) 28 _ rfl w.heap.size rfl 28 (setV kb sz _) _ S1.out Tryz.underlying28 rfl HZ.out ?_))
   refine (cm _).mono ?_
   rintro e w1 ⟨rfl, B⟩
   have S2 := hid (blk_below S1.out B (blk_lt S1.out))
   have B2 := hid (bnext b1.out B)
   have c2 := set_ch S2.out HK.out
   clear B cm S1 b1
   go_wp2_with fail
   go_quiet ((go_at_call 114; exact Calls.quiet_of_same ((cc _).mono fun _ _ h => ⟨h.1, h.2.symm⟩)))
   go_wp2_with fail
   go_ret
   exact ⟨HR.out ▸ rfl, below_draws B2.out nq⟩
end Go.Proofs.YtiigipnfnfpepaaGreatDoor
namespace Go.Proofs.YtiigipnfnfpepaaGreatDoor
open Go.RowKit

theorem tcheckf_calls (x : Int) (W : World) : Calls Tryz.prog 74 #[.int .i64 x] W fun e w' => e = .returned (.bool (decide (x < -32768) || decide (32767 < x))) ∧ Below W.heap.size W w' := by
 by_cases h : x < -32768
 · go_enter Tryz.func74, Tryz.ntmps74
   go_wp2
   go_ret
   exact ⟨by simp [h], by first | exact Below.refl _ _ | exact (Below.refl _ _).drew | exact below_draws (Below.refl _ _) _⟩
 · by_cases h2 : 32767 < x
   · go_enter Tryz.func74, Tryz.ntmps74
     go_wp2
     go_ret
     exact ⟨by simp, by first | exact Below.refl _ _ | exact (Below.refl _ _).drew | exact below_draws (Below.refl _ _) _⟩
   · go_enter Tryz.func74, Tryz.ntmps74
     go_wp2
     go_ret
     exact ⟨by simp [h, h2], by first | exact Below.refl _ _ | exact (Below.refl _ _).drew | exact below_draws (Below.refl _ _) _⟩

structure Snd (ch : Nat) (zs : List Int) : Prop where
 len : zs.length ≤ 1000
 mod : zs.length % ch = 0
 le : ∀ z ∈ zs, -32768 ≤ z ∧ z ≤ 32767

theorem cntN_le {ch n : Nat} (h : ch = 1 ∨ ch = 2) (hn : n ≤ 1000) : cntN ch n ≤ 4096 := by
 rcases h with rfl | rfl <;> (unfold cntN countN; omega)

set_option maxRecDepth 20000 in
set_option maxHeartbeats 2000000 in
theorem checked_calls (kb : List UInt8) (sz ch : Nat) (a : Option Addr) (n c : Nat) (zs : List Int) (w : World) (h : SetOk kb sz ch) (hz : zs.length = n) (hs : SlA w a zs) (hS : Snd ch zs) :
 Calls Tryz.prog 43 #[.agg (setV kb sz ch), .slice a n c] w fun e w' => e = .returned (.int .i64 0) ∧ Below w.heap.size w w' := by
 have s1 := blk_new w 28 (setV kb sz ch)
 have b1 := hid ((Below.refl w.heap.size w).alloc (Nat.le_refl _) (.cells (setV kb sz ch) 28))
 have S1 := hid s1
 have HZ := hid (set_size kb sz ch h.k)
 have HK := hid h.k
 have hn : n ≤ 1000 := by have := hS.len; omega
 have hmod : n % ch = 0 := by have := hS.mod; rw [hz] at this; exact this
 have cm := fun W => tMay_calls kb sz ch W h
 have ct := fun W => tCount_calls kb sz ch n W h (by omega) hmod
 have hcn : (cntN ch n : Int) ≤ 4096 := by have := cntN_le h.c hn; omega
 have hcn0 : (0 : Int) ≤ cntN ch n := by omega
 have hz0 : (zs.any fun x => decide (x < -32768) || decide (32767 < x)) = false := by
  simp only [List.any_eq_false, Bool.not_eq_true, Bool.or_eq_false_iff, decide_eq_false_iff_not]
  intro z hz; have := hS.le z hz; omega
 have cf := hid (fun W (hW : SlA W a zs) => containsf_any 74 #[] _ a n c zs W hz (by omega) hW (fun z hz => by have := hS.le z hz; omega) (enters_at Tryz.func74 (by kernel_rfl) rfl) (fun W x hb _ _ => (tcheckf_calls x W).mono fun _ _ h => ⟨h.1, bnext hb h.2⟩))
 have HA := hid hs
 have hm : (n : Int) % (ch : Int) = 0 := by rcases h.c with rfl | rfl <;> omega
 have hc0 : (0 : Int) < ch := by rcases h.c with rfl | rfl <;> decide
 have hc2 : (ch : Int) ≤ 2 := by rcases h.c with rfl | rfl <;> decide
 have hn0 : (0 : Int) ≤ n := by omega
 have hn1 : (n : Int) ≤ 1000 := by omega
 generalize (cntN ch n : Int) = r at *
 clear s1 h hS hs hz hn hmod
 go_enter Tryz.func43, Tryz.ntmps43
 go_wp2_with (first | (refine wpList_load_blk (by rfl) 28 _ rfl w.heap.size rfl 28 (setV kb sz _) _ S1.out Tryz.underlying28 rfl HZ.out ?_))
 refine (cm _).mono ?_
 rintro e w1 ⟨rfl, B⟩
 have S2 := hid (blk_below S1.out B (blk_lt S1.out))
 have B2 := hid (bnext b1.out B)
 have A2 := hid (slA_below HA.out B2.out)
 have cf2 := cf.out w1 A2.out
 rw [hz0] at cf2
 clear B cm S1 b1 cf HA
 go_wp2_with fail
 refine cf2.mono ?_
 rintro e w2 ⟨rfl, B⟩
 have S3 := hid (blk_below S2.out B (blk_lt S2.out))
 have B3 := hid (bnext B2.out B)
 have c3 := set_ch S3.out HK.out
 clear B cf2 S2 B2 A2
 go_wp2_with (first | (refine wpList_load_blk (by rfl) 28 _ rfl w.heap.size rfl 28 (setV kb sz _) _ S3.out Tryz.underlying28 rfl HZ.out ?_))
 refine (ct _).mono ?_
 rintro e w4 ⟨rfl, B⟩
 have B4 := hid (bnext B3.out B)
 clear ct c3 S3 B B3
 go_wp2_with fail
 go_ret
 exact ⟨rfl, B4.out⟩
end Go.Proofs.YtiigipnfnfpepaaGreatDoor
namespace Go.Proofs.YtiigipnfnfpepaaGreatDoor
open Go.RowKit

theorem srow_frames {w : World} {g base n : Nat} {fs : List (List Int)} (hb : Blk w g 94 (ints (flat fs))) (hn : fs.length = n) (h32 : All32 fs) (hg : base ≤ g) (hm : n ≤ 100000) : SRow w base 94 32 (.slice (some ⟨g, 0, none⟩) n n) fs := by
 refine ⟨fun x hx => ?_, .inr ⟨g, n, _, by rw [hn], hg, hb, by omega, by unfold maxLen; omega, by rw [ints_size, flat_len, hn, Nat.mul_comm], fun i j hi hj => ?_⟩⟩
 · obtain ⟨i, hi, rfl⟩ := List.mem_iff_getElem.1 hx
   have := h32 i hi
   rwa [List.getD_eq_getElem?_getD, List.getElem?_eq_getElem hi] at this
 · have hl : i * 32 + j < (flat fs).length := by rw [flat_len]; omega
   rw [ints_at _ hl, show i * 32 + j = 32 * i + j by omega, flat_at hi hj]
theorem srow_base {w : World} {base base' sz : Nat} {e : TypeId} {v : Value} {L : List (List Int)} (h : SRow w base e sz v L) (hb : base' ≤ base) : SRow w base' e sz v L := ⟨h.wid, by
 rcases h.row with h | ⟨g, cap, cur, h1, h2, h3⟩
 · exact .inl h
 · exact .inr ⟨g, cap, cur, h1, by omega, h3⟩⟩

theorem stepU_build2 {P : Program} {ops : Array Oper} {Q : Exit → Act → World → Prop} {o : Oper} {a : Act} {w : World} {K : Act → World → Prop} (hw : Region.wanted o (yielded ops a.tmps) = true) (t e : TypeId) (x y : Operand) (ho : o.op = .buildSlice t 2 #[(0, x), (1, y)])
 (u v : List Int) (s : Nat) (hx : a.eval x = .agg (ints u)) (hy : a.eval y = .agg (ints v)) (hu : u.length = s) (hv : v.length = s) (hs : 0 < s) (hsm : s ≤ 1000)
 (ht : P.underlying t = some (.slice e)) {z : Value} {bytes : Nat} (hi : ∃ i : TypeInfo, P.info? e = some i ∧ i.zero = some z ∧ i.size = s ∧ i.bytes = bytes)
 (h : K (a.put o.dst (.slice (some ⟨w.heap.size, 0, none⟩) 2 2)) (w.alloc (.cells (ints (u ++ v)) e))) : if Region.wanted o (yielded ops a.tmps) = true then o.wp P a w K Q else K (a.put o.dst undef) w := by
 rw [if_pos hw]
 obtain ⟨ie, h1, h2, h3, _⟩ := hi
 refine Go.wp_buildSlice t e 2 _ ho (ints (u ++ v)) ie z ht h1 h2 (by rw [h3]; omega) (by rw [h3]; omega) ?_ h
 rw [h3, show ints (u ++ v) = ([Value.agg (ints u), .agg (ints v)].flatMap fun v => v.cells.toList).toArray by
  apply Array.ext_getElem?
  intro k
  simp [ints, Value.cells]]
 have := Go.Great.fill_whole hs [Value.agg (ints u), .agg (ints v)] ((Array.range (2 * s)).map (z.cells[· % z.cells.size]!)) (fun q hq => by
  rcases List.mem_cons.1 hq with rfl | hq
  · simpa [Value.cells, ints_size] using hu
  · rw [List.mem_singleton.1 hq]; simpa [Value.cells, ints_size] using hv) (by simp)
 simpa [hx, hy] using this

set_option maxRecDepth 20000 in
set_option maxHeartbeats 2000000 in
theorem tframes1_calls (kb : List UInt8) (sz : Nat) (a : Option Addr) (n c : Nat) (zs : List Int) (w : World) (hk : kb.length = 16) (hz : zs.length = n) (hs : SlA w a zs) (hS : Snd 1 zs) :
 Calls Tryz.prog 44 #[.agg (setV kb sz 1), .slice a n c] w fun e w' => ∃ v, e = .returned (.tuple #[v, .int .i64 0]) ∧ SRow w' w.heap.size 94 32 v (framesL zs) ∧ Below w.heap.size w w' := by
 have b1 := hid ((Below.refl w.heap.size w).alloc (Nat.le_refl _) (.cells (setV kb sz 1) 28))
 have c1 := set_ch (blk_new w 28 (setV kb sz 1)) hk
 have cf := frames_calls a n c zs (w.alloc (.cells (setV kb sz 1) 28)) hz (by have := hS.len; omega) (slA_below hs b1.out) (fun z hz => by have := hS.le z hz; omega)
 have HL := hid (show (framesL zs).length = countN n by rw [framesL, List.length_map, seamTo_len, framesOf_len, hz])
 have H32 := hid (show All32 (framesL zs) from framesL_all zs)
 have HM := hid (show countN n ≤ 100000 by have := hS.len; have := countN_room n; omega)
 clear hS hs hz hk
 go_enter Tryz.func44, Tryz.ntmps44
 go_wp2_with fail
 refine cf.mono ?_
 rintro e w2 ⟨g, rfl, hg, hb, B⟩
 have HR := hid (srow_base (srow_frames hb HL.out H32.out hg HM.out) b1.out.size)
 have B2 := hid (bnext b1.out B)
 clear cf c1 hg hb B b1 HL
 go_wp2_with fail
 go_ret2
 exact ⟨_, rfl, HR.out, B2.out⟩
end Go.Proofs.YtiigipnfnfpepaaGreatDoor
namespace Go.Proofs.YtiigipnfnfpepaaGreatDoor
open Go.RowKit

def midsL (zs : List Int) : List Int := (List.range (zs.length / 2)).map (midAt zs)
def sidesL (zs : List Int) : List Int := (List.range (zs.length / 2)).map (sideAt zs)
def bothTo (A B : List (List Int)) (i : Nat) : List (List Int) := (List.range i).flatMap fun i => [A.getD i [], B.getD i []]
theorem bothTo_succ (A B : List (List Int)) (i : Nat) : bothTo A B (i + 1) = bothTo A B i ++ [A.getD i [], B.getD i []] := by
 unfold bothTo; rw [List.range_succ, List.flatMap_append]; simp
theorem bothTo_len (A B : List (List Int)) : ∀ i, (bothTo A B i).length = 2 * i
 | 0 => rfl
 | i + 1 => by rw [bothTo_succ, List.length_append, bothTo_len A B i]; simp; omega
theorem srow_two {w : World} {g : Nat} {u v : List Int} (hu : u.length = 32) (hv : v.length = 32) (hb : Blk w g 94 (ints (u ++ v))) : SRow w g 94 32 (.slice (some ⟨g, 0, none⟩) 2 2) [u, v] := by
 refine ⟨fun x hx => ?_, .inr ⟨g, 2, _, rfl, Nat.le_refl _, hb, Nat.le_refl _, by decide, by rw [ints_size, List.length_append, hu, hv], fun i j hi hj => ?_⟩⟩
 · rcases List.mem_cons.1 hx with rfl | hx
   · exact hu
   · rw [List.mem_singleton.1 hx]; exact hv
 · rw [ints_get]
   have hi2 : i = 0 ∨ i = 1 := by simp at hi; omega
   rcases hi2 with rfl | rfl
   · rw [Nat.zero_mul, Nat.zero_add, List.getElem?_append_left (by omega), List.getElem?_eq_getElem (by omega), List.getD_cons_zero, List.getD_eq_getElem?_getD, List.getElem?_eq_getElem (by omega)]; rfl
   · rw [Nat.one_mul, List.getElem?_append_right (by omega), hu, Nat.add_sub_cancel_left, List.getElem?_eq_getElem (by omega), List.getD_cons_succ, List.getD_cons_zero, List.getD_eq_getElem?_getD, List.getElem?_eq_getElem (by omega)]; rfl

set_option maxRecDepth 20000 in
set_option maxHeartbeats 4000000 in
theorem tframes2_calls (kb : List UInt8) (sz : Nat) (a : Option Addr) (n c : Nat) (zs : List Int) (w : World) (hk : kb.length = 16) (hz : zs.length = n) (hs : SlA w a zs) (h0 : a = none → c = 0) (hc : n ≤ c) (hc2 : c ≤ 9223372036854775807) (hS : Snd 2 zs) :
 Calls Tryz.prog 44 #[.agg (setV kb sz 2), .slice a n c] w fun e w' => ∃ v, e = .returned (.tuple #[v, .int .i64 0]) ∧ SRow w' w.heap.size 94 32 v (bothTo (framesL (midsL zs)) (framesL (sidesL zs)) (countN (zs.length / 2))) ∧ Below w.heap.size w w' := by
 have hl := hS.len
 obtain ⟨m, rfl⟩ : ∃ m, n = 2 * m := ⟨n / 2, by have := hS.mod; omega⟩
 have hm2 : zs.length / 2 = m := by omega
 have b1 := hid ((Below.refl w.heap.size w).alloc (Nat.le_refl _) (.cells (setV kb sz 2) 28))
 have c1 := set_ch (blk_new w 28 (setV kb sz 2)) hk
 have cs := split_ok a m c zs (w.alloc (.cells (setV kb sz 2) 28)) (by omega) hc hc2 hz (slA_below hs b1.out) h0 (fun z hz => by have := hS.le z hz; omega)
 have hzs : ∀ i, -32768 ≤ zs.getD i 0 ∧ zs.getD i 0 ≤ 32767 := fun i => by
  by_cases hi : i < zs.length
  · rw [List.getD_eq_getElem?_getD, List.getElem?_eq_getElem hi]; exact hS.le _ (List.getElem_mem hi)
  · rw [List.getD_eq_getElem?_getD, List.getElem?_eq_none (by omega)]; exact ⟨by decide, by decide⟩
 have HAM := hid (show AllIn 1048576 (midsL zs) by
  intro x hx
  obtain ⟨i, _, rfl⟩ := List.mem_map.1 hx
  have := hzs (2 * i); have := hzs (2 * i + 1)
  unfold midAt; omega)
 have HAS := hid (show AllIn 1048576 (sidesL zs) by
  intro x hx
  obtain ⟨i, _, rfl⟩ := List.mem_map.1 hx
  have := hzs (2 * i); have := hzs (2 * i + 1)
  unfold sideAt; omega)
 have hLM : (midsL zs).length = m := by simp [midsL, hm2]
 have hLS : (sidesL zs).length = m := by simp [sidesL, hm2]
 rw [show (List.range m).map (midAt zs) = midsL zs by rw [midsL, hm2], show (List.range m).map (sideAt zs) = sidesL zs by rw [sidesL, hm2]] at cs
 have HLA := hid (show (framesL (midsL zs)).length = countN m by rw [framesL, List.length_map, seamTo_len, framesOf_len, hLM])
 have HLB := hid (show (framesL (sidesL zs)).length = countN m by rw [framesL, List.length_map, seamTo_len, framesOf_len, hLS])
 have HA := hid (framesL_all (midsL zs))
 have HB := hid (framesL_all (sidesL zs))
 have hmm : m ≤ 500 := by omega
 rw [hm2]
 clear hm2 hzs hS hs hz hk hl h0 hc hc2
 generalize midsL zs = M at *
 generalize sidesL zs = S at *
 have HLM := hid hLM
 have HLS := hid hLS
 have HMM := hid hmm
 clear hLM hLS
 go_enter Tryz.func44, Tryz.ntmps44
 go_wp2_with fail
 refine cs.mono ?_
 rintro e w2 ⟨vm, vs, rfl, r1, r2, B⟩
 obtain ⟨am, cm, rfl, hm1, sm, _⟩ := slA_row r1
 obtain ⟨ar, cr, rfl, hs1, ss, _⟩ := slA_row r2
 have B2 := hid (bnext b1.out B)
 have SM := hid sm
 have SS := hid ss
 rw [hm1, hs1]
 clear r1 r2 B b1 sm ss hm1 hs1 c1
 go_wp2_with fail
 refine (frames_calls am m cm M w2 HLM.out (by have := HMM.out; omega) SM.out HAM.out).mono ?_
 rintro e w3 ⟨ga, rfl, hga, hA3, B⟩
 have S3 := hid (slA_below SS.out B)
 have B3 := hid (bnext B2.out B)
 have A3 := hid hA3
 clear B B2 SM SS hga hA3
 go_wp2_with fail
 refine (frames_calls ar m cr S w3 HLS.out (by have := HMM.out; omega) S3.out HAS.out).mono ?_
 rintro e w4 ⟨gb, rfl, hgb, hD4, B⟩
 have A4 := hid (blk_below A3.out B (blk_lt A3.out))
 have B4 := hid (bnext B3.out B)
 have D4 := hid hD4
 have HGB := hid (show w.heap.size ≤ gb ∧ ga < gb from ⟨Nat.le_trans B3.out.size hgb, Nat.lt_of_lt_of_le (blk_lt A3.out) hgb⟩)
 clear B B3 S3 A3 hgb hD4
 go_wp2_with fail
 have HPI := hid (info_parts (P := Tryz.prog) (e := 94) (z := .agg #[Value.int .i64 0, .int .i64 0, .int .i64 0, .int .i64 0, .int .i64 0, .int .i64 0, .int .i64 0, .int .i64 0, .int .i64 0, .int .i64 0, .int .i64 0, .int .i64 0, .int .i64 0, .int .i64 0, .int .i64 0, .int .i64 0, .int .i64 0, .int .i64 0, .int .i64 0, .int .i64 0, .int .i64 0, .int .i64 0, .int .i64 0, .int .i64 0, .int .i64 0, .int .i64 0, .int .i64 0, .int .i64 0, .int .i64 0, .int .i64 0, .int .i64 0, .int .i64 0]) (size := 32) (bytes := 256) (by kernel_rfl))
 have HSZ := hid (show ∀ u : List Int, u.length = 32 → (Tryz.prog.info? 94).map (·.size) = some (u.map (Value.int .i64)).length from fun u hu => by rw [List.length_map, hu]; kernel_rfl)
 have hcp := countN_room m
 have HCN := hid (show countN m ≤ 100 by omega)
 clear hcp cs
 obtain ⟨A, hA⟩ : ∃ A, framesL M = A := ⟨_, rfl⟩
 obtain ⟨D, hD⟩ : ∃ D, framesL S = D := ⟨_, rfl⟩
 obtain ⟨k, hK⟩ : ∃ k, countN m = k := ⟨_, rfl⟩
 rw [hA] at HLA HA A4
 rw [hD] at HLB HB D4
 rw [hK] at HLA HLB HCN
 have EA := hid hA
 have ED := hid hD
 have EK := hid hK
 rw [hK]
 clear hA hD hK
 go_loopg [13, 43] k (fun gg s13 s43 wr => ∃ i : Nat, i ≤ k ∧ k - i ≤ gg ∧ s43 = .int .i64 i ∧ Aside (Below w.heap.size w wr) ∧ Aside (Blk wr ga 94 (ints (flat A))) ∧ Aside (Blk wr gb 94 (ints (flat D))) ∧ Aside (SRow wr (gb + 1) 94 32 s13 (bothTo A D i)))
 case atStart => exact ⟨0, Nat.zero_le _, by omega, rfl, B4.out, A4.out, D4.out, srow_nil _ _ _ _⟩
 case round =>
  clear B4 A4 D4
  obtain ⟨i, hi, hgi, rfl, B, AA, DD, R⟩ := hrel
  by_cases hlt : i < k
  · have hiz : (i : Int) < k := by omega
    have hi0 : (0 : Int) ≤ i := by omega
    have hi1 : (i : Int) ≤ 100 := by have := HCN.out; omega
    have hla := HA.out i (by rw [HLA.out]; exact hlt)
    have hlb := HB.out i (by rw [HLB.out]; exact hlt)
    have y4 := frame_range (blk_drew AA.out) (i := i) (by rw [HLA.out]; exact hlt) hla rfl
    have y8 := frame_range (blk_drew DD.out) (i := i) (by rw [HLB.out]; exact hlt) hlb rfl
    have hbs := bothTo_succ A D i
    obtain ⟨u, hu⟩ : ∃ u, u = A.getD i [] := ⟨_, rfl⟩
    obtain ⟨v, hv⟩ : ∃ v, v = D.getD i [] := ⟨_, rfl⟩
    rw [← hu] at y4 hla hbs
    rw [← hv] at y8 hlb hbs
    clear hu hv
    have HU := hid hla
    have HV := hid hlb
    have R1 := srow_alloc (srow_draws R.out 1) (.cells (ints (u ++ v)) 94)
    have T1 := srow_two hla hlb (blk_new wr.drew 94 (ints (u ++ v)))
    have hgb := blk_lt DD.out
    obtain ⟨v5, w5, hr5, S5, G5, O5⟩ := srow_concat (P := Tryz.prog) (t := 90) (bytes := 256) R1 T1 (by decide) HPI.out (by kernel_rfl) Tryz.underlying90 (by have := HCN.out; rw [bothTo_len]; simp; omega) (by decide) (by simp; omega) 90
    rw [← hbs] at S5
    have hol := srow_lt R1
    have HR5 := hid hr5
    have S5' := hid S5
    have hgs := B.out.size
    have B5 := hid (((below_draws B.out 1).alloc B.out.size (.cells (ints (u ++ v)) 94)).grown G5 (by simp; omega) (fun q e => by have := (hol q e).1; have := HGB.out; omega))
    have A5 := hid (blk_grown (blk_alloc (blk_drew AA.out) (.cells (ints (u ++ v)) 94)) G5 (fun e => by have := (hol _ e.symm).1; have := HGB.out; omega))
    have D5 := hid (blk_grown (blk_alloc (blk_drew DD.out) (.cells (ints (u ++ v)) 94)) G5 (fun e => by have := (hol _ e.symm).1; omega))
    clear hla hlb hbs R1 T1 hr5 S5 G5 O5 hol B AA DD R hgb hgs
    go_wp2_with fail
    refine plain_region (S := (fun L W => (L.getD 9 true = true ∨ W.rangeAt ga (i * 32) (u.map (Value.int .i64))) ∧ (L.getD 9 true = true ∨ W.rangeAt gb (i * 32) (v.map (Value.int .i64))))) (by kernel_rfl) (⟨Or.inr y4, Or.inr y8⟩) (fun hHeld => ?_)
    clear hHeld
    refine aW 0 ⟨Or.inr y4, Or.inr y8⟩ ?_
    refine aW 1 ⟨Or.inr y4, Or.inr y8⟩ ?_
    refine aW 2 ⟨Or.inr y4, Or.inr y8⟩ ?_
    refine aW 3 ⟨Or.inr y4, Or.inr y8⟩ ?_
    refine aB 4 9 rfl (fun _ _ h k => rL k.1 h) (yieldsIf_load_mid (by rfl) 94 _ rfl ga (i * 32) rfl _ _ (fun _ h => h) Tryz.underlying94 rfl (HSZ.out u HU.out)) ⟨Or.inr y4, Or.inr y8⟩ ?_
    refine aW 5 ⟨Or.inr y4, Or.inr y8⟩ ?_
    refine aW 6 ⟨Or.inr y4, Or.inr y8⟩ ?_
    refine aW 7 ⟨Or.inr y4, Or.inr y8⟩ ?_
    refine aB 8 9 rfl (fun _ _ h k => rL k.2 h) (yieldsIf_load_mid (by rfl) 94 _ rfl gb (i * 32) rfl _ _ (fun _ h => h) Tryz.underlying94 rfl (HSZ.out v HV.out)) ⟨Or.inr y4, Or.inr y8⟩ ?_
    refine aR 9 (fun K hK => ?_)
    refine stepU_build2 (by rfl) 90 94 _ _ rfl u v 32 rfl rfl HU.out HV.out (by decide) (by decide) Tryz.underlying90 HPI.out ?_
    refine hK.out _ _ (⟨Or.inl (by rfl), Or.inl (by rfl)⟩) (fun hHeld => ?_)
    clear hK K
    try simp only [Act.put, tA, tB, tC]
    clear hHeld
    refine aR 10 (fun K hK => ?_)
    refine stepU_append (by rfl) _ _ _ _ rfl _ _ rfl rfl _ w5 HR5.out ?_
    refine hK.out _ _ (⟨Or.inl (by rfl), Or.inl (by rfl)⟩) (fun hHeld => ?_)
    clear hK K
    try simp only [Act.put, tA, tB, tC]
    clear hHeld
    refine aW 11 ⟨Or.inl (by rfl), Or.inl (by rfl)⟩ ?_
    refine anyU_done (by kernel_rfl) ?_ _
    clear y4 y8 HR5 HU HV
    go_wp2_with fail
    go_roundg (k - (i + 1))
    case measure => omega
    case rel => exact ⟨i + 1, by omega, by omega, by go_num, B5.out, A5.out, D5.out, S5'.out⟩
  · obtain rfl : k = i := by omega
    have R5 := hid (srow_base R.out (show w.heap.size ≤ gb + 1 by have := HGB.out; omega))
    clear AA DD R
    go_wp2_with fail
    go_ret2
    exact ⟨_, rfl, by rw [EA.out, ED.out, EK.out]; exact R5.out, B.out⟩
end Go.Proofs.YtiigipnfnfpepaaGreatDoor
