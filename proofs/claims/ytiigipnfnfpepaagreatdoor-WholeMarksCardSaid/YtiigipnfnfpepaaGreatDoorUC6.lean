/- Contracts of slices.Grow and slices.Concat at lists of few numbers; mid.great. Contract of mid.great. Contracts of the package mid (Of, Back) and of the laws' small words. The contract of mid.Split: s -/
import Derived.Test.YtiigipnfnfpepaaGreatDoorUA
import Derived.Deep.LoopGhost
import Derived.Lib.AppendZerosOnto
import Derived.Test.YtiigipnfnfpepaaGreatDoorChecked
import Derived.Shelf.Abstract
import Derived.Shelf.RegionOpen
import Derived.WalkKit
import Derived.OwnWalkIn
import Derived.TacticsInMore
import Derived.LoopNIn
import Derived.LoopIn
import Derived.Maps.AppendAt
import Derived.Deep.QuietTactic
import Derived.BigQuiet
import Derived.Lib.MinMax
import Derived.RangeFuncBox
import Derived.RangeFuncCalls
namespace Go.Proofs.YtiigipnfnfpepaaGreatDoor
open Go.RowKit

theorem owns_zeros (w : World) (n : Nat) (hn : n ≤ 1000000) :
 (w.drew.alloc (.cells (Builtin.zeroCells (Value.int .i64 0).cells n ++ Builtin.zeroCells (Value.int .i64 0).cells (grownCap w n 0 3 - n)) 3)).ownsRow w.heap.size 3 1 (.slice (some ⟨w.heap.size, 0, none⟩) 0 (grownCap w n 0 3)) 0 [] := by
 have hge := grownCap_ge w n 0 3
 have hcm : grownCap w n 0 3 ≤ maxLen := grownCap_le_maxLen w n 0 3 (by unfold maxLen; omega)
 refine ⟨rfl, .inr ⟨w.heap.size, _, _, rfl, Nat.le_refl _, heap_alloc_new w.drew _, Nat.zero_le _, hcm, ?_, by simp⟩⟩
 have hz : (Value.int .i64 0).cells.size = 1 := rfl
 simp only [Array.size_append, size_zeroCells, hz]
 omega

set_option maxRecDepth 100000 in
set_option maxHeartbeats 2000000 in
theorem grow_calls (n : Nat) (w : World) (hn : n ≤ 1000000) :
 Calls Tryz.prog 165 #[.slice none 0 0, .int .i64 n] w fun e w' => ∃ v, e = .returned v ∧ w'.ownsRow w.heap.size 3 1 v 0 [] ∧ Below w.heap.size w w' := by
 obtain ⟨inf, hinf, hzr, hsz, hby⟩ := info_parts (P := Tryz.prog) (e := 3) (z := .int .i64 0) (size := 1) (bytes := 8) (by kernel_rfl)
 by_cases h0 : n = 0
 · subst h0
   have HO := hid (World.ownsRow_nil w w.heap.size 3 1)
   clear hinf hzr hsz hby
   go_enter Tryz.func165, Tryz.ntmps165
   go_wp2_with fail
   go_ret
   exact ⟨_, rfl, HO.out, Below.refl _ _⟩
 · have hrz : ∀ ty, (Builtin.append_ #[24, 3] ty #[.slice none 0 0, .int .i64 n]).run Tryz.prog w = .ok (.slice (some ⟨w.heap.size, 0, none⟩) n (grownCap w n 0 3)) (w.drew.alloc (.cells (Builtin.zeroCells (Value.int .i64 0).cells n ++ Builtin.zeroCells (Value.int .i64 0).cells (grownCap w n 0 3 - n)) 3)) := fun ty =>
    Lib.run_append_nil_zeros w 24 3 ty 3 inf (.int .i64 0) .i64 .i64 Tryz.underlying24 Tryz.underlying3 hinf hzr n (by omega) (by omega) (by omega) (by rw [hby]; omega)
   have HO := hid (owns_zeros w n hn)
   have HB := hid (((below_draws (Below.refl w.heap.size w) 1)).alloc (Nat.le_refl _) (.cells (Builtin.zeroCells (Value.int .i64 0).cells n ++ Builtin.zeroCells (Value.int .i64 0).cells (grownCap w n 0 3 - n)) 3))
   have hge := grownCap_ge w n 0 3
   have hcm : grownCap w n 0 3 ≤ maxLen := grownCap_le_maxLen w n 0 3 (by unfold maxLen; omega)
   unfold maxLen at hcm
   have HR := hid hrz
   clear hrz hinf hzr hsz hby
   generalize hG : grownCap w n 0 3 = G at *
   generalize Builtin.zeroCells (Value.int .i64 0).cells n ++ Builtin.zeroCells (Value.int .i64 0).cells (G - n) = cs at *
   clear hG
   have h1 : 0 < (n : Int) := by omega
   go_enter Tryz.func165, Tryz.ntmps165
   go_wp2_with (at_builtin; refine Lib.wpList_append_run _ rfl _ _ _ _ rfl _ _ rfl rfl _ _ (HR.out _) ?_)
   go_ret
   exact ⟨_, rfl, HO.out, HB.out⟩

def catZ (Z : Nat → List Int) : Nat → List Int
 | 0 => []
 | k + 1 => catZ Z k ++ Z k
theorem catZ_le (Z : Nat → List Int) {k n : Nat} (h : k ≤ n) : (catZ Z k).length ≤ (catZ Z n).length := by
 induction n with
 | zero => obtain rfl : k = 0 := by omega
           exact Nat.le_refl _
 | succ n ih =>
  rcases Nat.lt_or_ge k (n + 1) with h1 | h1
  · have := ih (by omega)
    simp only [catZ, List.length_append]
    omega
  · obtain rfl : k = n + 1 := by omega
    exact Nat.le_refl _
theorem catZ_len (Z : Nat → List Int) (k : Nat) : (catZ Z (k + 1)).length = (catZ Z k).length + (Z k).length := by simp [catZ]

set_option maxRecDepth 100000 in
set_option maxHeartbeats 4000000 in
theorem concat_calls (A : Nat → Option Addr) (C : Nat → Nat) (Z : Nat → List Int) (g n c : Nat) (w : World) (hn : n ≤ 100) (hg : g < w.heap.size)
 (hc : ∀ j, j < n → w.cell? ⟨g, j, none⟩ = some (.slice (A j) (Z j).length (C j))) (hz : ∀ j, j < n → Src2 w (.slice (A j) (Z j).length (C j)) (Z j)) (hs : (catZ Z n).length ≤ 1000000) :
 Calls Tryz.prog 150 #[.slice (some ⟨g, 0, none⟩) n c] w fun e w' => ∃ v, e = .returned v ∧ w'.ownsRow w.heap.size 3 1 v (catZ Z n).length ((catZ Z n).map (Value.int .i64)) ∧ Below w.heap.size w w' := by
 have HC := hid hc
 have HZ := hid hz
 have HS := hid hs
 clear hc hz hs
 go_enter Tryz.func150, Tryz.ntmps150
 go_wp2_with fail
 go_loopg [3, 11] n (fun gg s3 s11 wr => ∃ kk : Nat, kk ≤ n ∧ n - kk ≤ gg ∧ s3 = .int .i64 (catZ Z kk).length ∧ s11 = .int .i64 kk ∧ Aside (wr = w))
 case atStart => exact ⟨0, Nat.zero_le _, by omega, rfl, rfl, rfl⟩
 case round =>
  obtain ⟨kk, hkk, hgk, rfl, rfl, E⟩ := hrel
  obtain rfl := E.out.symm
  clear E
  by_cases hlt : kk < n
  · have hltz : (kk : Int) < n := by omega
    have hk0 : 0 ≤ (kk : Int) := by omega
    have cx := HC.out kk hlt
    have hl := catZ_len Z kk
    have hle := catZ_le Z (k := kk + 1) (n := n) (by omega)
    have hs := HS.out
    have e2 : ((catZ Z (kk + 1)).length : Int) = (catZ Z kk).length + (Z kk).length := by omega
    have E2 := hid e2
    have hb : (catZ Z kk).length + (Z kk).length ≤ 1000000 := by omega
    clear hl hle hs e2
    generalize (catZ Z kk).length = x at *
    generalize (Z kk).length = y at *
    go_wp2_with fail
    go_roundg (n - (kk + 1))
    case measure => omega
    case rel => exact ⟨kk + 1, by omega, by omega, by rw [E2.out], by go_num, rfl⟩
  · obtain rfl : n = kk := by omega
    have hltz : ¬ (n : Int) < n := by omega
    have hs := HS.out
    have HO := hid (World.ownsRow_nil w w.heap.size 3 1)
    have cg := fun W => grow_calls (catZ Z n).length W hs
    clear hs
    go_wp2_with fail
    refine (cg _).mono ?_
    rintro e w1 ⟨v, rfl, O1, B1⟩
    clear cg HO
    have O1' := hid O1
    have B1' := hid B1
    clear O1 B1
    go_wp2_with fail
    go_loopg [6, 27] n (fun gg s6 s27 wr => ∃ kk : Nat, kk ≤ n ∧ n - kk ≤ gg ∧ s27 = .int .i64 kk ∧ Aside (Below w.heap.size w wr) ∧ Aside (wr.ownsRow w.heap.size 3 1 s6 (catZ Z kk).length ((catZ Z kk).map (Value.int .i64))))
    case atStart => exact ⟨0, Nat.zero_le _, by omega, rfl, B1'.out, O1'.out⟩
    case round =>
     clear O1' B1'
     obtain ⟨kk, hkk, hgk, rfl, B, O⟩ := hrel
     by_cases hlt : kk < n
     · have hltz : (kk : Int) < n := by omega
       have hk0 : 0 ≤ (kk : Int) := by omega
       have cx := (B.out.cell (p := ⟨g, kk, none⟩) hg).trans (HC.out kk hlt)
       have HX := hid (src2_below (HZ.out kk hlt) B.out)
       have hl := catZ_len Z kk
       have hle := catZ_le Z (k := kk + 1) (n := n) (by omega)
       have hs := HS.out
       have hb : (catZ Z kk).length + (Z kk).length ≤ 1000000 := by omega
       have HB := hid hb
       have hsz := B.out.size
       have HL := hid hl
       clear hle hs hb hl
       go_wp2_with (first | (at_builtin; refine wpList_append_src2 _ rfl _ _ rfl w.heap.size _ _ _ rfl O.out _ _ rfl HX.out HB.out hsz ?_; intro v' w5 hown' hgrow))
       have hol := O.out.lt
       have B5 := hid (B.out.grown hgrow hsz (fun k e => (hol k e).1))
       have e3 : catZ Z kk ++ Z kk = catZ Z (kk + 1) := rfl
       rw [e3, ← HL.out] at hown'
       have O5 := hid hown'
       clear hown' hgrow hol O B HL e3
       go_wp2_with fail
       go_roundg (n - (kk + 1))
       case measure => omega
       case rel => exact ⟨kk + 1, by omega, by omega, by go_num, B5.out, O5.out⟩
     · obtain rfl : n = kk := by omega
       have hltz : ¬ (n : Int) < n := by omega
       go_wp2_with fail
       go_ret
       exact ⟨_, rfl, O.out, B.out⟩
end Go.Proofs.YtiigipnfnfpepaaGreatDoor
namespace Go.Proofs.YtiigipnfnfpepaaGreatDoor
open Go.RowKit

def beyond (most x : Int) : Bool := decide (x < -most) || decide (most < x)
theorem beyond_lo {most x : Int} (h : x < -most) : beyond most x = true := by simp [beyond, h]
theorem beyond_hi {most x : Int} (h : most < x) : beyond most x = true := by simp [beyond, h]
theorem beyond_in {most x : Int} (h : -most ≤ x) (h2 : x ≤ most) : beyond most x = false := by simp [beyond]; omega

set_option maxRecDepth 100000 in
set_option maxHeartbeats 1000000 in
theorem great1_calls (most x : Int) (B : Nat) (w : World) (hb : w.cell? ⟨B, 0, none⟩ = some (.int .i64 most)) (h0 : 0 ≤ most) (h1 : most ≤ 1000000000) :
 Calls Tryz.prog 151 #[.int .i64 x, .pointer (some ⟨B, 0, none⟩)] w fun e w' => e = .returned (.bool (beyond most x)) ∧ Below w.heap.size w w' := by
 rcases Int.lt_or_le x (-most) with h | h
 · rw [beyond_lo h]
   have hd : decide (x < -most) = true := by simpa using h
   go_enter Tryz.func151, Tryz.ntmps151
   go_wp2_with fail
   go_ret
   exact ⟨rfl, Below.refl _ _⟩
 · have hd : decide (x < -most) = false := by simpa using h
   rcases Int.lt_or_le most x with h2 | h2
   · rw [beyond_hi h2]
     have hd2 : decide (most < x) = true := by simpa using h2
     go_enter Tryz.func151, Tryz.ntmps151
     go_wp2_with fail
     go_ret
     exact ⟨rfl, Below.refl _ _⟩
   · rw [beyond_in h h2]
     have hd2 : decide (most < x) = false := by simpa using h2
     go_enter Tryz.func151, Tryz.ntmps151
     go_wp2_with fail
     go_ret
     exact ⟨rfl, Below.refl _ _⟩

theorem great1_tells (most : Int) (B : Nat) (w : World) (hB : B < w.heap.size) (hb : w.cell? ⟨B, 0, none⟩ = some (.int .i64 most)) (h0 : 0 ≤ most) (h1 : most ≤ 1000000000) : Tells 151 #[.pointer (some ⟨B, 0, none⟩)] (beyond most) w :=
 fun W x hW _ _ => (great1_calls most x B W ((hW.cell (p := ⟨B, 0, none⟩) hB).trans hb) h0 h1).mono fun _ _ h => ⟨h.1, bnext hW h.2⟩

theorem catZ_mem {Z : Nat → List Int} {n : Nat} {z : Int} (h : z ∈ catZ Z n) : ∃ k, k < n ∧ z ∈ Z k := by
 induction n with
 | zero => simp [catZ] at h
 | succ n ih =>
  rcases List.mem_append.1 h with h | h
  · obtain ⟨k, hk, hz⟩ := ih h
    exact ⟨k, by omega, hz⟩
  · exact ⟨n, by omega, h⟩

set_option maxRecDepth 100000 in
set_option maxHeartbeats 1000000 in
theorem greatM_calls (most : Int) (A : Nat → Option Addr) (C : Nat → Nat) (Z : Nat → List Int) (g n c : Nat) (w : World) (hm : 0 ≤ most) (hm1 : most ≤ 1000000000) (hn : n ≤ 100) (hg : g < w.heap.size)
 (hc : ∀ j, j < n → w.cell? ⟨g, j, none⟩ = some (.slice (A j) (Z j).length (C j))) (hz : ∀ j, j < n → Src2 w (.slice (A j) (Z j).length (C j)) (Z j)) (hs : (catZ Z n).length ≤ 1000000)
 (hi : ∀ j, j < n → ∀ z ∈ Z j, -9223372036854775808 ≤ z ∧ z ≤ 9223372036854775807) :
 Calls Tryz.prog 118 #[.int .i64 most, .slice (some ⟨g, 0, none⟩) n c] w fun e w' => e = .returned (.bool ((catZ Z n).any (beyond most))) ∧ Below w.heap.size w w' := by
 have hb := (Below.refl w.heap.size w).alloc (Nat.le_refl _) (.cells #[.int .i64 most] 3)
 have cc := concat_calls A C Z g n c (w.alloc (.cells #[.int .i64 most] 3)) hn (by simp; omega) (fun j hj => (hb.cell (p := ⟨g, j, none⟩) hg).trans (hc j hj)) (fun j hj => src2_below (hz j hj) hb) hs
 have hi' : ∀ z ∈ catZ Z n, -9223372036854775808 ≤ z ∧ z ≤ 9223372036854775807 := fun z hz => by
  obtain ⟨k, hk, hz⟩ := catZ_mem hz
  exact hi k hk z hz
 have HI := hid hi'
 have HS := hid hs
 have HB := hid hb
 have eg : ∀ args w, (callFunc 151 args).run Tryz.prog w = .ok (.enter 151 args) w := fun args w => enters_at Tryz.func151 (by kernel_rfl) rfl args w
 have EG := hid eg
 clear hc hz hs hi hi' hb eg
 go_enter Tryz.func118, Tryz.ntmps118
 go_wp2_with fail
 refine cc.mono ?_
 rintro e w1 ⟨v, rfl, O, B1⟩
 obtain ⟨a1, c1, rfl, _, hS, _⟩ := slA_row O
 have hsz : w.heap.size + 1 ≤ w1.heap.size := by have := B1.size; simpa using this
 have hcell : w1.cell? ⟨w.heap.size, 0, none⟩ = some (.int .i64 most) := (B1.cell (p := ⟨w.heap.size, 0, none⟩) (by simp)).trans (by exact (blk_cell (blk_new w 3 #[.int .i64 most]) 0))
 have hT := great1_tells most w.heap.size w1 (by omega) hcell hm hm1
 have hcf := containsf_any 151 #[.pointer (some ⟨w.heap.size, 0, none⟩)] (beyond most) a1 (catZ Z n).length c1 (catZ Z n) w1 rfl (by have := HS.out; omega) hS HI.out EG.out hT
 have B2 := hid (HB.out.trans (B1.mono (by simp)))
 clear cc O hS hT hcell B1 HB
 go_wp2_with fail
 refine hcf.mono ?_
 rintro e w2 ⟨rfl, B3⟩
 clear hcf
 go_wp2_with fail
 go_ret
 exact ⟨rfl, bnext B2.out B3⟩
end Go.Proofs.YtiigipnfnfpepaaGreatDoor
namespace Go.Proofs.YtiigipnfnfpepaaGreatDoor
open Go.RowKit

set_option maxRecDepth 100000 in
theorem midOf_calls (l r : Int) (w : World) (hl0 : -4398046511104 ≤ l) (hl1 : l ≤ 4398046511104) (hr0 : -4398046511104 ≤ r) (hr1 : r ≤ 4398046511104) :
 Calls Tryz.prog 120 #[.int .i64 l, .int .i64 r] w fun e w' => e = .returned (.tuple #[.int .i64 (r + (l - r) / 2), .int .i64 (l - r)]) ∧ w = w' := by
 go_enter Tryz.func120, Tryz.ntmps120
 go_wp2
 go_ret2
 exact ⟨rfl, rfl⟩

end Go.Proofs.YtiigipnfnfpepaaGreatDoor
namespace Go.Proofs.YtiigipnfnfpepaaGreatDoor
open Go.RowKit Go.Shelf
attribute [local go_sem] Oper.semAt_some

set_option maxRecDepth 100000 in
set_option maxHeartbeats 1000000 in
theorem chunk_in (F : Fence) (n : Nat) (hf : F.fn 119) (hro : F.round = none) (a : Option Addr) (len cap : Nat) (w : World) :
 CallsIn F n Tryz.prog 119 #[.slice a len cap, .int .i64 2] w fun e w' => e = .returned (.func (.func 152) #[] #[.pointer (some ⟨w.heap.size, 0, none⟩), .pointer (some ⟨w.heap.size + 1, 0, none⟩)]) ∧ w' = (w.alloc (.cells #[.slice a len cap] 24)).alloc (.cells #[.int .i64 2] 3) := by
 refine callsIn_of_wp Tryz.func119 rfl hf ?_ hro
 simp only [Tryz.ntmps119, List.size_toArray, List.length_cons, List.length_nil, Nat.reduceAdd, Nat.reduceSub, Array.replicate_succ, Array.replicate_zero, List.push_toArray, List.append_toArray, List.nil_append, List.cons_append]
 gi_wp2
 go_ret
 exact ⟨rfl, rfl⟩

def uptoF (m k : Nat) : List (Fin m) := (List.finRange m).take k
theorem uptoF_all (m : Nat) : uptoF m m = List.finRange m := by unfold uptoF; rw [List.take_of_length_le (by simp)]
theorem uptoF_len {m k : Nat} (h : k ≤ m) : (uptoF m k).length = k := by unfold uptoF; rw [List.length_take, List.length_finRange]; omega
theorem uptoF_succ {m k : Nat} (h : k < m) : uptoF m (k + 1) = uptoF m k ++ [⟨k, h⟩] := by
 unfold uptoF
 rw [List.take_succ_eq_append_getElem (by simpa using h)]
 simp

def pairAt (g o : Nat) (m : Nat) (x : Fin m) : Array Value := #[.slice (some ⟨g, o + 2 * x.val, none⟩) 2 2]

def KT (Bs Bn : Nat) (A B : World) : Prop := B.heap[Bs]? = A.heap[Bs]? ∧ B.heap[Bn]? = A.heap[Bn]?
theorem kt_refl (Bs Bn : Nat) (A : World) : KT Bs Bn A A := ⟨rfl, rfl⟩
theorem kt_trans {Bs Bn : Nat} {A B C : World} (h : KT Bs Bn A B) (k : KT Bs Bn B C) : KT Bs Bn A C := ⟨k.1.trans h.1, k.2.trans h.2⟩
theorem kt_draws {Bs Bn : Nat} {A B : World} (h : KT Bs Bn A B) (n : Nat) : KT Bs Bn A (B.drewN n) := h
theorem kt_cell1 {Bs Bn : Nat} {A B : World} (h : KT Bs Bn A B) : B.cell? ⟨Bs, 0, none⟩ = A.cell? ⟨Bs, 0, none⟩ := by simp [World.cell?, h.1]
theorem kt_cell2 {Bs Bn : Nat} {A B : World} (h : KT Bs Bn A B) : B.cell? ⟨Bn, 0, none⟩ = A.cell? ⟨Bn, 0, none⟩ := by simp [World.cell?, h.2]
theorem kt_put {Bs Bn : Nat} {w : World} (h1 : Bs < w.heap.size) (h2 : Bn < w.heap.size) (W : World) (l : Nat) (o o' : Obj) (hl : w.heap.size ≤ l) (_ : W.heap[l]? = some o) (_ : o.isCells = false) (_ : o.isWalk = false) : KT Bs Bn W (W.putObj l o') :=
 ⟨World.putObj_heap_other (by omega), World.putObj_heap_other (by omega)⟩
set_option maxRecDepth 100000 in
set_option maxHeartbeats 4000000 in
theorem chunk1_in (n : Nat) (l Bs Bn g o m cap : Nat) (hm : 2 * m ≤ 1000000) (hcap : 2 * m ≤ cap) (hcap2 : cap ≤ 9223372036854775807) (J Jx : List (Fin m) → World → Prop)
 (hJ : ∀ s A j, J s A → J s (A.drewN j))
 (hY : ∀ pre x W, J pre W → pre.length < m → YieldAt Fence.wide (n - 1) Tryz.prog l (pairAt g o m x) W fun e W' =>
  (e = .returned (.bool true) ∧ J (pre ++ [x]) W' ∧ KT Bs Bn W W') ∨ (e = .returned (.bool false) ∧ Jx (pre ++ [x]) W'))
 (W : World) (hs : W.cell? ⟨Bs, 0, none⟩ = some (.slice (some ⟨g, o, none⟩) (2 * m) cap)) (h2 : W.cell? ⟨Bn, 0, none⟩ = some (.int .i64 2)) (h0 : J [] W) :
 CallsIn Fence.wide n Tryz.prog 152 #[.func (.yield l) #[] #[], .pointer (some ⟨Bs, 0, none⟩), .pointer (some ⟨Bn, 0, none⟩)] W fun e W' => (∃ v, e = .returned v) ∧
  ((∃ ys, ys = List.finRange m ∧ J ys W') ∨ (∃ pre, True ∧ Jx pre W')) := by
 refine callsIn_of_wp Tryz.func152 rfl trivial ?_ rfl
 simp only [Tryz.ntmps152, List.size_toArray, List.length_cons, List.length_nil, Nat.reduceAdd, Nat.reduceSub, Array.replicate_succ, Array.replicate_zero, List.push_toArray, List.append_toArray, List.nil_append, List.cons_append]
 gi_wp2
 gi_loopw [4] (fun i wr => ∃ k : Nat, k ≤ m ∧ i = .int .i64 (2 * (k : Int)) ∧ J (uptoF m k) wr ∧ KT Bs Bn W wr)
  (fun i _ => 2 * m - (intOf i).toNat)
 case atStart => exact ⟨0, Nat.zero_le _, rfl, h0, kt_refl _ _ _⟩
 case round =>
  obtain ⟨k, hk, rfl, hJs, hnx⟩ := hrel
  have cs := (kt_cell1 hnx).trans hs
  have c2 := (kt_cell2 hnx).trans h2
  by_cases hlt : k < m
  · have h1 : 2 * (k : Int) < 2 * (m : Int) := by omega
    have h3 : (0 : Int) ≤ 2 * (k : Int) := by omega
    gi_wp2
    refine wpIn_wide.2 ?_
    go_quiet (fail)
    have h5 : min (2 : Int) ((2 * m - 2 * k : Nat) : Int) = 2 := by omega
    rw [h5]
    have hJ2 := hJ _ _ nq hJs
    have hn2 := kt_draws hnx nq
    have cs2 : (wr.drewN nq).cell? ⟨Bs, 0, none⟩ = some (.slice (some ⟨g, o, none⟩) (2 * m) cap) := (kt_cell1 hn2).trans hs
    have c22 : (wr.drewN nq).cell? ⟨Bn, 0, none⟩ = some (.int .i64 2) := (kt_cell2 hn2).trans h2
    obtain ⟨fn, tmps, assign, body, hy, hR⟩ := hY _ ⟨k, hlt⟩ (wr.drewN nq) hJ2 (by rw [uptoF_len hk]; exact hlt)
    unfold pairAt at hy
    dsimp only at hy
    clear cs c2 hJs hJ2 h5 hnx
    generalize wr.drewN nq = W2 at *
    have h6 : 2 * (k : Int) ≤ 2 * (k : Int) + 2 := by omega
    have h7 : 2 * (k : Int) + 2 ≤ (cap : Int) := by omega
    gi_wp2
    refine ⟨fun h => by simp [Fence.wide] at h, ?_⟩
    refine hR.mono ?_
    rintro e W3 (⟨rfl, hJ3, hk3⟩ | ⟨rfl, hJx3⟩)
    · have hn3 := kt_trans hn2 hk3
      have c23 : W3.cell? ⟨Bn, 0, none⟩ = some (.int .i64 2) := (kt_cell2 hn3).trans h2
      clear hy hR
      gi_wp2
      go_roundw
      case rel => exact ⟨k + 1, by omega, by go_num, by rw [uptoF_succ hlt]; exact hJ3, hn3⟩
      case measure => simp [intOf]; omega
    · clear hy hR
      gi_wp2
      refine bodyPost_ret (results_none rfl _ _ _) rfl ?_
      exact ⟨⟨_, rfl⟩, .inr ⟨_, trivial, hJx3⟩⟩
  · obtain rfl : k = m := by omega
    gi_wp2
    go_end0
    exact ⟨⟨_, rfl⟩, .inl ⟨_, rfl, by rw [← uptoF_all]; exact hJs⟩⟩

set_option maxRecDepth 100000 in
set_option maxHeartbeats 1000000 in
theorem chunk1_nil (n : Nat) (l Bs Bn cap : Nat) (a : Option Addr) (J : List (Fin 0) → World → Prop) (W : World) (hs : W.cell? ⟨Bs, 0, none⟩ = some (.slice a 0 cap)) (h0 : J [] W) :
 CallsIn Fence.wide n Tryz.prog 152 #[.func (.yield l) #[] #[], .pointer (some ⟨Bs, 0, none⟩), .pointer (some ⟨Bn, 0, none⟩)] W fun e W' => (∃ v, e = .returned v) ∧ J [] W' := by
 refine callsIn_of_wp Tryz.func152 rfl trivial ?_ rfl
 simp only [Tryz.ntmps152, List.size_toArray, List.length_cons, List.length_nil, Nat.reduceAdd, Nat.reduceSub, Array.replicate_succ, Array.replicate_zero, List.push_toArray, List.append_toArray, List.nil_append, List.cons_append]
 gi_wp2
 gi_loopw [4] (fun i wr => i = .int .i64 0 ∧ wr = W) (fun _ _ => 0)
 case atStart => exact ⟨rfl, rfl⟩
 case round =>
  obtain ⟨rfl, rfl⟩ := hrel
  gi_wp2
  go_end0
  exact ⟨⟨_, rfl⟩, h0⟩

theorem chunk_stops (n : Nat) (Bs Bn g o m cap : Nat) (a : Option Addr) (ha : 0 < m → a = some ⟨g, o, none⟩) (hm : 2 * m ≤ 1000000) (hcap : 2 * m ≤ cap) (hcap2 : cap ≤ 9223372036854775807) (w : World) (hBs : Bs < w.heap.size) (hBn : Bn < w.heap.size)
 (hs : w.cell? ⟨Bs, 0, none⟩ = some (.slice a (2 * m) cap)) (h2 : w.cell? ⟨Bn, 0, none⟩ = some (.int .i64 2)) :
 SeqStopsK Fence.wide n Tryz.prog 152 #[.pointer (some ⟨Bs, 0, none⟩), .pointer (some ⟨Bn, 0, none⟩)] (pairAt g o m) (KT Bs Bn) (fun ys => ys = List.finRange m) (fun _ => True) m w := fun l J Jx W hW hJ _ hY h0 => by
 have hs' := (hW.cell (p := ⟨Bs, 0, none⟩) hBs).trans hs
 have h2' := (hW.cell (p := ⟨Bn, 0, none⟩) hBn).trans h2
 rcases Nat.eq_zero_or_pos m with rfl | hp
 · exact (chunk1_nil n l Bs Bn cap a J W hs' h0).mono fun e W' ⟨he, hj⟩ => ⟨he, .inl ⟨_, rfl, hj⟩⟩
 · rw [ha hp] at hs'
   exact chunk1_in n l Bs Bn g o m cap hm hcap hcap2 J Jx (fun s A j hs => hJ s A (A.drewN j) none hs ⟨rfl, rfl, rfl, Nat.le_refl _, fun _ _ _ => rfl⟩ (fun r e => by cases e)) hY W hs' h2' h0
end Go.Proofs.YtiigipnfnfpepaaGreatDoor
namespace Go.Proofs.YtiigipnfnfpepaaGreatDoor
open Go.RowKit

structure TwoRows (A : Nat → Prop) (n₀ pm ps : Nat) (W0 W : World) (um us vm vs : Value) (xm xs : List Int) : Prop where
 kf : KeepsOthers W0 W
 bl : Below n₀ W0 W
 sz : n₀ ≤ W0.heap.size
 lm : n₀ ≤ pm
 ls : n₀ ≤ ps
 ne : pm ≠ ps
 bm : Boxed W pm 24 um
 bs : Boxed W ps 24 us
 rm : W.ownsRow n₀ 3 1 vm xm.length (xm.map (Value.int .i64))
 rs : W.ownsRow n₀ 3 1 vs xs.length (xs.map (Value.int .i64))
 ap : ∀ g, vm.ownBlock = some g → vs.ownBlock ≠ some g
 av : ∀ B, A B → B < W0.heap.size ∧ B ≠ pm ∧ B ≠ ps ∧ vm.ownBlock ≠ some B ∧ vs.ownBlock ≠ some B ∧ W.heap[B]? = W0.heap[B]?

theorem owns_block {w : World} {base n : Nat} {v : Value} {t : TypeId} {xs : List Value} (h : w.ownsRow base t 1 v n xs) {g : Nat} (hg : v.ownBlock = some g) : base ≤ g ∧ ∃ cs, w.heap[g]? = some (.cells cs t (0, 0)) := by
 obtain ⟨_, ⟨rfl, _⟩ | ⟨g', cap, cur, rfl, h1, h2, _⟩⟩ := h
 · simp [Value.ownBlock] at hg
 · simp [Value.ownBlock] at hg
   subst hg
   exact ⟨h1, _, h2⟩
theorem owns_kept {w w' : World} {base n : Nat} {v : Value} {t : TypeId} {xs : List Value} {row : Option Nat} (h : w.ownsRow base t 1 v n xs) (hg : w.grownBy w' row) (hr : ∀ g, v.ownBlock = some g → row ≠ some g) : w'.ownsRow base t 1 v n xs := by
 obtain ⟨hl, h | ⟨g, cap, cur, rfl, h1, h2, h3⟩⟩ := h
 · exact ⟨hl, Or.inl h⟩
 · exact ⟨hl, Or.inr ⟨g, cap, cur, rfl, h1, (hg.block g (Array.getElem?_eq_some_iff.1 h2).1 (fun e => hr g rfl e.symm)).trans h2, h3⟩⟩

section
variable {A : Nat → Prop} {n₀ bm bs : Nat} {W0 W : World} {um us vm vs : Value} {xm xs : List Int}
theorem two_swap (h : TwoRows A n₀ bm bs W0 W um us vm vs xm xs) : TwoRows A n₀ bs bm W0 W us um vs vm xs xm :=
 ⟨h.kf, h.bl, h.sz, h.ls, h.lm, h.ne.symm, h.bs, h.bm, h.rs, h.rm, fun g e1 e2 => h.ap g e2 e1, fun B hB => let ⟨a, b, c, d, e, f⟩ := h.av B hB; ⟨a, c, b, e, d, f⟩⟩
theorem two_drew (h : TwoRows A n₀ bm bs W0 W um us vm vs xm xs) : TwoRows A n₀ bm bs W0 W.drew um us vm vs xm xs :=
 ⟨h.kf.trans (KeepsOthers.drew W), below_draws h.bl 1, h.sz, h.lm, h.ls, h.ne, h.bm, h.bs, h.rm, h.rs, h.ap, h.av⟩
theorem two_size (h : TwoRows A n₀ bm bs W0 W um us vm vs xm xs) : n₀ ≤ W.heap.size := Nat.le_trans h.sz h.bl.size
theorem two_grown {W' : World} (h : TwoRows A n₀ bm bs W0 W um us vm vs xm xs) (hg : W.grownBy W' none) : TwoRows A n₀ bm bs W0 W' um us vm vs xm xs :=
 ⟨h.kf.trans (KeepsOthers.of_grownBy hg (fun j o e => by cases e)), h.bl.grown hg (two_size h) (fun k e => by cases e), h.sz, h.lm, h.ls, h.ne, h.bm.kept hg (by simp), h.bs.kept hg (by simp), owns_kept h.rm hg (fun g _ e => by cases e), owns_kept h.rs hg (fun g _ e => by cases e), h.ap, fun B hB => let ⟨a, b, c, d, e, f⟩ := h.av B hB; ⟨a, b, c, d, e, (hg.block B (Nat.lt_of_lt_of_le a h.bl.size) (by simp)).trans f⟩⟩
theorem two_alloc (h : TwoRows A n₀ bm bs W0 W um us vm vs xm xs) (o : Obj) : TwoRows A n₀ bm bs W0 (W.alloc o) um us vm vs xm xs := two_grown h (World.grownBy_alloc W o none)

theorem two_append {W' : World} {v' : Value} {x : Int} (h : TwoRows A n₀ bm bs W0 W um us vm vs xm xs) (hown : W'.ownsRow n₀ 3 1 v' (xm.length + 1) (xm.map (Value.int .i64) ++ [.int .i64 x])) (hg : W.grownBy W' vm.ownBlock)
 (hat : v'.ownBlock = vm.ownBlock ∨ v'.ownBlock = some W.heap.size) : TwoRows A n₀ bm bs W0 W' um us v' vs (xm ++ [x]) xs := by
 have hb : ∀ g, vm.ownBlock = some g → n₀ ≤ g ∧ ∃ cs, W.heap[g]? = some (.cells cs 3 (0, 0)) := fun g e => owns_block h.rm e
 have hrow : ∀ B u, Boxed W B 24 u → some B ≠ vm.ownBlock := fun B u hB => hB.not_row (by decide) h.rm
 refine ⟨h.kf.trans (KeepsOthers.of_grownBy hg (fun j o e ho => ?_)), h.bl.grown hg (two_size h) (fun k e => (hb k e).1), h.sz, h.lm, h.ls, h.ne, h.bm.kept hg (hrow _ _ h.bm), h.bs.kept hg (hrow _ _ h.bs), ?_, owns_kept h.rs hg (fun g e1 e2 => h.ap g e2 e1), fun g e1 e2 => ?_, fun B hB => ?_⟩
 · obtain ⟨_, cs, h2⟩ := hb j e
   rw [h2] at ho
   cases ho
   rfl
 · simpa using hown
 · rcases hat with e | e
   · rw [e] at e1
     exact h.ap g e1 e2
   · rw [e] at e1
     cases e1
     obtain ⟨_, cs, h2⟩ := owns_block h.rs e2
     have := (Array.getElem?_eq_some_iff.1 h2).1
     omega
 · obtain ⟨a, b, c, d, e, f⟩ := h.av B hB
   have := h.bl.size
   refine ⟨a, b, c, ?_, e, (hg.block B (Nat.lt_of_lt_of_le a h.bl.size) (Ne.symm d)).trans f⟩
   rcases hat with e2 | e2
   · rw [e2]; exact d
   · rw [e2]
     intro e3
     cases e3
     omega
theorem two_store (h : TwoRows A n₀ bm bs W0 W um us vm vs xm xs) (u : Value) : TwoRows A n₀ bm bs W0 (W.setCell ⟨bm, 0, none⟩ u) u us vm vs xm xs := by
 have hg := grownBy_setCell' W bm u
 refine ⟨h.kf.trans (KeepsOthers.setCell W _ u), h.bl.setCell (p := ⟨bm, 0, none⟩) h.lm u, h.sz, h.lm, h.ls, h.ne, h.bm.set u, h.bs.kept hg (fun e => h.ne (by cases e; rfl)), owns_kept h.rm hg (fun g e e2 => ?_), owns_kept h.rs hg (fun g e e2 => ?_), h.ap, fun B hB => let ⟨a, b, c, d, e, f⟩ := h.av B hB; ⟨a, b, c, d, e, (hg.block B (Nat.lt_of_lt_of_le a h.bl.size) (fun e => b (by cases e; rfl))).trans f⟩⟩
 · cases e2
   exact h.bm.not_row (t := 24) (e := 3) (by decide) h.rm e.symm
 · cases e2
   exact h.bm.not_row (t := 24) (e := 3) (by decide) h.rs e.symm
theorem two_store2 (h : TwoRows A n₀ bm bs W0 W um us vm vs xm xs) (u : Value) : TwoRows A n₀ bm bs W0 (W.setCell ⟨bs, 0, none⟩ u) um u vm vs xm xs := two_swap (two_store (two_swap h) u)
theorem two_put (h : TwoRows A n₀ bm bs W0 W um us vm vs xm xs) : TwoRows A n₀ bm bs W0 (W.setCell ⟨bm, 0, none⟩ vm) vm us vm vs xm xs := two_store h vm
theorem two_put2 (h : TwoRows A n₀ bm bs W0 W um us vm vs xm xs) : TwoRows A n₀ bm bs W0 (W.setCell ⟨bs, 0, none⟩ vs) um vs vm vs xm xs := two_store2 h vs
theorem two_cast {xm' xs' : List Int} (h : TwoRows A n₀ bm bs W0 W um us vm vs xm xs) (e1 : xm = xm') (e2 : xs = xs') : TwoRows A n₀ bm bs W0 W um us vm vs xm' xs' := by
 subst e1
 subst e2
 exact h
theorem two_append2 {W' : World} {v' : Value} {x : Int} (h : TwoRows A n₀ bm bs W0 W um us vm vs xm xs) (hown : W'.ownsRow n₀ 3 1 v' (xs.length + 1) (xs.map (Value.int .i64) ++ [.int .i64 x])) (hg : W.grownBy W' vs.ownBlock)
 (hat : v'.ownBlock = vs.ownBlock ∨ v'.ownBlock = some W.heap.size) : TwoRows A n₀ bm bs W0 W' um us vm v' xm (xs ++ [x]) := two_swap (two_append (two_swap h) hown hg hat)

theorem two_base (h : TwoRows A n₀ bm bs W0 W um us vm vs xm xs) : TwoRows A n₀ bm bs W W um us vm vs xm xs :=
 ⟨KeepsOthers.refl W, Below.refl _ _, two_size h, h.lm, h.ls, h.ne, h.bm, h.bs, h.rm, h.rs, h.ap, fun B hB => let ⟨a, b, c, d, e, _⟩ := h.av B hB; ⟨Nat.lt_of_lt_of_le a h.bl.size, b, c, d, e, rfl⟩⟩
theorem two_join {W' : World} {um' us' vm' vs' : Value} {xm' xs' : List Int} (h : TwoRows A n₀ bm bs W0 W um us vm vs xm xs) (k : TwoRows A n₀ bm bs W W' um' us' vm' vs' xm' xs') : TwoRows A n₀ bm bs W0 W' um' us' vm' vs' xm' xs' :=
 ⟨h.kf.trans k.kf, h.bl.trans k.bl, h.sz, h.lm, h.ls, h.ne, k.bm, k.bs, k.rm, k.rs, k.ap, fun B hB => let ⟨a, b, c, _, _, f⟩ := h.av B hB; let ⟨_, _, _, d, e, f2⟩ := k.av B hB; ⟨a, b, c, d, e, f2.trans f⟩⟩
theorem two_turned {W' : World} {row : Option Nat} (h : TwoRows A n₀ bm bs W0 W um us vm vs xm xs) (hg : W.grownBy W' row) (hr : ∀ r, row = some r → W0.heap.size ≤ r ∧ ∃ o : Obj, W.heap[r]? = some o ∧ o.isCells = false) : TwoRows A n₀ bm bs W0 W' um us vm vs xm xs := by
 have hne : ∀ B u t, W.heap[B]? = some (.cells u t (0, 0)) → some B ≠ row := fun B u t hB e => by
  obtain ⟨_, o, ho, hc⟩ := hr B e.symm
  rw [hB] at ho
  cases ho
  cases hc
 refine ⟨⟨Nat.le_trans h.kf.size hg.size, fun k o hk ho => ?_⟩, h.bl.grown hg (two_size h) (fun k e => Nat.le_trans h.sz (hr k e).1), h.sz, h.lm, h.ls, h.ne, h.bm.kept hg (hne _ _ _ h.bm), h.bs.kept hg (hne _ _ _ h.bs), owns_kept h.rm hg (fun g e e2 => ?_), owns_kept h.rs hg (fun g e e2 => ?_), h.ap, fun B hB => let ⟨a, b, c, d, e, f⟩ := h.av B hB; ⟨a, b, c, d, e, (hg.block B (Nat.lt_of_lt_of_le a h.bl.size) (fun e => by have := (hr B e.symm).1; omega)).trans f⟩⟩
 · have hlt := (Array.getElem?_eq_some_iff.1 hk).1
   have h1 := h.kf.same k o hk ho
   exact (hg.block k (Array.getElem?_eq_some_iff.1 h1).1 (fun e => by have := (hr k e.symm).1; omega)).trans h1
 · obtain ⟨_, cs, h2⟩ := owns_block h.rm e
   exact hne _ _ _ h2 e2.symm
 · obtain ⟨_, cs, h2⟩ := owns_block h.rs e
   exact hne _ _ _ h2 e2.symm

theorem run_append_one {base : Nat} {v : Value} {xs : List Int} {x : Int} {g : Nat} (w : World) (hown : w.ownsRow base 3 1 v xs.length (xs.map (Value.int .i64))) (hx : Blk w g 3 #[.int .i64 x]) (hsm : xs.length ≤ 100000) (hb : base ≤ w.heap.size) (ty : TypeId) :
 ∃ v' w', (Builtin.append_ #[24, 24] ty #[v, .slice (some ⟨g, 0, none⟩) 1 1]).run Tryz.prog w = .ok v' w' ∧ w'.ownsRow base 3 1 v' (xs.length + 1) (xs.map (Value.int .i64) ++ [.int .i64 x]) ∧ w.grownBy w' v.ownBlock ∧ (v'.ownBlock = v.ownBlock ∨ v'.ownBlock = some w.heap.size) := by
 obtain ⟨inf, hinf, hzr, hsz, hby⟩ := info_parts (P := Tryz.prog) (e := 3) (z := .int .i64 0) (size := 1) (bytes := 8) (by kernel_rfl)
 obtain ⟨v', w', h1, h2, h3, _, h5⟩ := run_append_own_at (P := Tryz.prog) w base 24 ty 3 inf (.int .i64 0) 1 8 Tryz.underlying24 hinf hzr hsz hby rfl (by decide) v xs.length _ hown ⟨g, 0, none⟩ 1 1 [.int .i64 x] rfl
  (fun j u hj => by
   have hlt := (List.getElem?_eq_some_iff.1 hj).1
   obtain rfl : j = 0 := by simpa using hlt
   simp only [List.getElem?_cons_zero, Option.some.injEq] at hj
   rw [← hj]
   exact blk_cell hx 0) (by simp [Value.oneCell']) (by unfold maxLen; omega) (by omega) hb
 exact ⟨v', w', h1, h2, h3, h5⟩
end
end Go.Proofs.YtiigipnfnfpepaaGreatDoor
namespace Go.Proofs.YtiigipnfnfpepaaGreatDoor
open Go.RowKit Go.Shelf
attribute [local go_sem] Oper.semAt_some

def midAt (zs : List Int) (k : Nat) : Int := zs.getD (2 * k + 1) 0 + (zs.getD (2 * k) 0 - zs.getD (2 * k + 1) 0) / 2
def sideAt (zs : List Int) (k : Nat) : Int := zs.getD (2 * k) 0 - zs.getD (2 * k + 1) 0

theorem finRange_map (m : Nat) (f : Nat → Int) : ((List.finRange m).map fun x => f x.val) = (List.range m).map f := by
 apply List.ext_getElem
 · simp
 · intro i h1 h2
   simp

theorem great_one (most : Int) (a : Option Addr) (n c : Nat) (zs : List Int) (g : Nat) (w : World) (hm : 0 ≤ most) (hm1 : most ≤ 1000000000) (hz : zs.length = n) (hn : n ≤ 1000000) (hg : Blk w g 24 #[.slice a n c]) (h : Src2 w (.slice a n c) zs) (hi : ∀ z ∈ zs, -9223372036854775808 ≤ z ∧ z ≤ 9223372036854775807) :
 Calls Tryz.prog 118 #[.int .i64 most, .slice (some ⟨g, 0, none⟩) 1 1] w fun e w' => e = .returned (.bool (zs.any (beyond most))) ∧ Below w.heap.size w w' := by
 have := greatM_calls most (fun _ => a) (fun _ => c) (fun _ => zs) g 1 1 w hm hm1 (by omega) (blk_lt hg) (fun j hj => by
  obtain rfl : j = 0 := by omega
  rw [blk_cell hg, hz]
  rfl) (fun j _ => by rw [hz]; exact h) (by simpa [catZ, hz] using hn) (fun j _ => hi)
 simpa [catZ] using this

set_option maxRecDepth 100000 in
set_option maxHeartbeats 4000000 in
theorem split_ok (a : Option Addr) (m c : Nat) (zs : List Int) (w : World) (hn : 2 * m ≤ 1000) (hc : 2 * m ≤ c) (hc2 : c ≤ 9223372036854775807) (hz : zs.length = 2 * m) (h : SlA w a zs) (h0 : a = none → c = 0) (hi : ∀ z ∈ zs, -1048576 ≤ z ∧ z ≤ 1048576) :
 Calls Tryz.prog 77 #[.slice a (2 * m : Nat) c] w fun e w' => ∃ vm vs, e = .returned (.tuple #[vm, vs, .int .i64 0]) ∧
  w'.ownsRow w.heap.size 3 1 vm m (((List.range m).map (midAt zs)).map (Value.int .i64)) ∧ w'.ownsRow w.heap.size 3 1 vs m (((List.range m).map (sideAt zs)).map (Value.int .i64)) ∧ Below w.heap.size w w' := by
 have h1 : (((2 * m : Nat) : Int) % 2 != 0) = false := by simp
 have h2 : (0 : Int) ≤ ((2 * m : Nat) : Int) := by omega
 have hb := (Below.refl w.heap.size w).alloc (Nat.le_refl _) (.cells #[.slice a (2 * m) c] 24)
 have cg := great_one 1048576 a (2 * m) c zs w.heap.size (w.alloc (.cells #[.slice a (2 * m) c] 24)) (by omega) (by omega) hz (by omega) (blk_new w _ _) (src2_below (src2_of hz h h0) hb) (fun z hz => by have := hi z hz; omega)
 have hg : zs.any (beyond 1048576) = false := by
  rw [List.any_eq_false]
  intro z hz
  have := hi z hz
  rw [beyond_in (by omega) (by omega)]
  decide
 rw [hg] at cg
 have HB := hid hb
 have H := hid h
 have HI := hid hi
 have HZ := hid hz
 have H0 := hid h0
 clear hb h hi hg hz h0
 refine (callsIn_wide (n := 5)).1 ?_
 refine callsIn_of_wp_marks Tryz.func77 rfl trivial ?_ rfl
 simp only [Tryz.ntmps77, List.size_toArray, List.length_cons, List.length_nil, Nat.reduceAdd, Nat.reduceSub, Array.replicate_succ, Array.replicate_zero, List.push_toArray, List.append_toArray, List.nil_append, List.cons_append]
 gi_wp2_with fail
 refine ⟨trivial, ?_⟩
 refine (callsIn_wide.2 cg).mono ?_
 rintro e w1 ⟨rfl, B1⟩
 have B2 := hid (HB.out.trans (B1.mono (by simp)))
 clear cg B1 HB
 gi_wp2_with fail
 refine ⟨trivial, ?_⟩
 refine (chunk_in Fence.wide _ trivial rfl _ _ _ _).mono ?_
 rintro e w' ⟨rfl, rfl⟩
 gi_wp2_with fail
 obtain ⟨g, o, hgo⟩ : ∃ g o, 0 < m → a = some ⟨g, o, none⟩ ∧ g < w.heap.size ∧ ∀ j, j < zs.length → w.cell? ⟨g, o + j, none⟩ = some (.int .i64 (zs.getD j 0)) := by
  rcases H.out with e | ⟨g, o, h1, h2, h3⟩
  · exact ⟨0, 0, fun hm => by have := HZ.out; rw [e] at this; simp at this; omega⟩
  · exact ⟨g, o, fun _ => ⟨h1, h2, h3⟩⟩
 have hsz := B2.out.size
 have hb0 := ((((Below.refl w1.heap.size w1).alloc (Nat.le_refl _) (.cells #[.slice none 0 0] 24)).alloc (by simp) (.cells #[.slice none 0 0] 24)).alloc (by simp; omega) (.cells #[.slice a (2 * m) c] 24)).alloc (by simp; omega) (.cells #[.int .i64 2] 3)
 have hB0 := B2.out.trans (hb0.mono hsz)
 have x1 := Boxed.new w1 24 (.slice none 0 0)
 have x2 := Boxed.new (w1.alloc (.cells #[.slice none 0 0] 24)) 24 (.slice none 0 0)
 have x3 := Boxed.new ((w1.alloc (.cells #[.slice none 0 0] 24)).alloc (.cells #[.slice none 0 0] 24)) 24 (.slice a (2 * m) c)
 have x4 := Boxed.new (((w1.alloc (.cells #[.slice none 0 0] 24)).alloc (.cells #[.slice none 0 0] 24)).alloc (.cells #[.slice a (2 * m) c] 24)) 3 (.int .i64 2)
 simp only [World.size_alloc] at x2 x3 x4
 have y1 := ((x1.alloc (.cells #[.slice none 0 0] 24)).alloc (.cells #[.slice a (2 * m) c] 24)).alloc (.cells #[.int .i64 2] 3)
 have y2 := (x2.alloc (.cells #[.slice a (2 * m) c] 24)).alloc (.cells #[.int .i64 2] 3)
 have y3 := x3.alloc (.cells #[.int .i64 2] 3)
 have hT0 : TwoRows (fun B => B = w1.heap.size + 1 + 1 ∨ B = w1.heap.size + 1 + 1 + 1) w.heap.size w1.heap.size (w1.heap.size + 1) _ _ (.slice none 0 0) (.slice none 0 0) (.slice none 0 0) (.slice none 0 0) [] [] :=
  ⟨KeepsOthers.refl _, Below.refl _ _, by simp; omega, hsz, by omega, by omega, y1, y2, World.ownsRow_nil _ _ _ _, World.ownsRow_nil _ _ _ _, by simp [Value.ownBlock], fun B hB => ⟨by simp; omega, by omega, by omega, by simp [Value.ownBlock], by simp [Value.ownBlock], rfl⟩⟩
 have hs0 : w1.heap.size + 3 < ((((w1.alloc (.cells #[.slice none 0 0] 24)).alloc (.cells #[.slice none 0 0] 24)).alloc (.cells #[.slice a (2 * m) c] 24)).alloc (.cells #[.int .i64 2] 3)).heap.size := by simp
 clear x1 x2 x3 hb0 y1 y2 B2
 generalize ((((w1.alloc (.cells #[.slice none 0 0] 24)).alloc (.cells #[.slice none 0 0] 24)).alloc (.cells #[.slice a (2 * m) c] 24)).alloc (.cells #[.int .i64 2] 3)) = W0 at *
 have HT0 := hid hT0
 have HB0 := hid hB0
 have HGO := hid hgo
 have hst := chunk_stops 4 (w1.heap.size + 1 + 1) (w1.heap.size + 1 + 1 + 1) g o m c a (fun hm => (hgo hm).1) (by omega) hc hc2 W0 (by omega) (by omega) y3.cell x4.cell
 clear hT0 hB0 hgo y3 x4
 refine wpIn_rangeFunc_ownF rfl (by omega) (gf := 152) (lb := #[.pointer (some ⟨w1.heap.size + 1 + 1, 0, none⟩), .pointer (some ⟨w1.heap.size + 1 + 1 + 1, 0, none⟩)]) rfl trivial (enters_of Tryz.func152 (by kernel_rfl) rfl)
  hst kt_trans (kt_put (by omega) (by omega)) (Below.refl _ _) (fun _ => rfl)
  (fun pre W => ∃ vm vs, TwoRows (fun B => B = w1.heap.size + 1 + 1 ∨ B = w1.heap.size + 1 + 1 + 1) w.heap.size w1.heap.size (w1.heap.size + 1) W0 W vm vs vm vs (pre.map fun x => midAt zs x.val) (pre.map fun x => sideAt zs x.val))
  (fun _ _ _ => False)
  (fun s A B row ⟨vm, vs, h⟩ hg hr => ⟨vm, vs, two_turned h hg hr⟩)
  (fun _ _ _ _ _ hs _ _ => hs)
  ⟨_, _, HT0.out⟩
  (fun x => { tmps := #[.slice a (2 * m) c, undef, .slice none 0 0, .slice none 0 0, .int .i64 0, .pointer (some ⟨w1.heap.size, 0, none⟩), .pointer (some ⟨w1.heap.size + 1, 0, none⟩), .slice (some ⟨g, o + 2 * x.val, none⟩) 2 2, undef, undef, .bool false,
        .slice a (2 * m) c, .int .i64 (2 * (m : Int)), .int .i64 0, .bool false, .bool false, .slice a (2 * m) c, .slice (some ⟨w.heap.size, 0, none⟩) 1 1, .bool false, .slice a (2 * m) c,
        .func (.func 152) #[] #[.pointer (some ⟨w1.heap.size + 1 + 1, 0, none⟩), .pointer (some ⟨w1.heap.size + 1 + 1 + 1, 0, none⟩)],
        .slice (some ⟨g, o + 2 * x.val, none⟩) 2 2, undef, undef, undef, undef, undef, undef, undef, undef, undef, undef, undef, undef, undef, undef, undef, undef, undef, undef, undef, undef], defers := [] }) ?assign ?body ?done ?stop
 case assign =>
  intro l x W K hK
  unfold pairAt
  gi_wp2
  exact hK
 case body =>
  rintro l pre x W ⟨vm, vs, hT⟩ hlt
  have hW := HB0.out.trans hT.bl
  obtain ⟨_, hg, hcs⟩ := HGO.out (by have := x.isLt; omega)
  have hx := x.isLt
  have hzl := HZ.out
  have c0 := (hW.cell (p := ⟨g, o + 2 * x.val, none⟩) hg).trans (hcs (2 * x.val) (by omega))
  have c1 := (hW.cell (p := ⟨g, o + (2 * x.val + 1), none⟩) hg).trans (hcs (2 * x.val + 1) (by omega))
  have b0 := HI.out (zs.getD (2 * x.val) 0) (by rw [List.getD_eq_getElem?_getD, List.getElem?_eq_getElem (by omega)]; exact List.getElem_mem (by omega))
  have b1 := HI.out (zs.getD (2 * x.val + 1) 0) (by rw [List.getD_eq_getElem?_getD, List.getElem?_eq_getElem (by omega)]; exact List.getElem_mem (by omega))
  rw [← Nat.add_assoc] at c1
  have hmid : midAt zs x.val = zs.getD (2 * x.val + 1) 0 + (zs.getD (2 * x.val) 0 - zs.getD (2 * x.val + 1) 0) / 2 := rfl
  have hsid : sideAt zs x.val = zs.getD (2 * x.val) 0 - zs.getD (2 * x.val + 1) 0 := rfl
  have HM := hid hmid
  have HD := hid hsid
  have HT := hid hT
  have hlen : (pre.map fun x => midAt zs x.val).length ≤ 100000 := by rw [List.length_map]; omega
  have hlen2 : (pre.map fun x => sideAt zs x.val).length ≤ 100000 := by rw [List.length_map]; omega
  clear hcs hmid hsid hT hW hzl
  generalize zs.getD (2 * x.val) 0 = z0 at *
  generalize zs.getD (2 * x.val + 1) 0 = z1 at *
  refine wpIn_block (wpIn_seq ?_)
  refine round_region (S := (fun _ W => W.cell? ⟨g, o + 2 * x.val, none⟩ = some (.int .i64 z0) ∧ W.cell? ⟨g, o + 2 * x.val + 1, none⟩ = some (.int .i64 z1))) (by kernel_rfl) (fun h => by obtain ⟨_, _, h⟩ := h; exact h) (by kernel_rfl) ⟨c0, c1⟩ (fun hHeld => ?_)
  refine aW 0 (by assumption) ?_
  refine aW 1 (by assumption) ?_
  refine aL 2 6 (fun _ _ _ h => h.1) (by assumption) ?_
  refine aW 3 (by assumption) ?_
  refine aW 4 (by assumption) ?_
  refine aL 5 6 (fun _ _ _ h => h.2) (by assumption) ?_
  refine aR 6 (fun K hK => ?_)
  go_simp
  refine (midOf_calls _ _ _ (by omega) (by omega) (by omega) (by omega)).mono ?_
  rintro e w' ⟨rfl, rfl⟩
  refine hK.out _ _ hHeld (fun hHeld => ?_)
  clear hK K
  try simp only [Act.put, tA, tB, tC]
  refine aW 7 (by assumption) ?_
  refine aW 8 (by assumption) ?_
  refine aW 9 (by assumption) ?_
  refine aW 10 (by assumption) ?_
  refine aW 11 (by assumption) ?_
  refine anyU_done (by kernel_rfl) ?_ _
  change Code.wpIn _ _ _ _ _ _ _
  obtain ⟨mv, hmv⟩ : ∃ mv, mv = z1 + (z0 - z1) / 2 := ⟨_, rfl⟩
  obtain ⟨sv, hsv⟩ : ∃ sv, sv = z0 - z1 := ⟨_, rfl⟩
  rw [← hmv] at HM ⊢
  rw [← hsv] at HD ⊢
  obtain ⟨xm, hxm⟩ : ∃ xm, xm = pre.map fun x => midAt zs x.val := ⟨_, rfl⟩
  obtain ⟨xd, hxd⟩ : ∃ xd, xd = pre.map fun x => sideAt zs x.val := ⟨_, rfl⟩
  rw [← hxm] at HT hlen
  rw [← hxd] at HT hlen2
  have HXM := hid hxm
  have HXD := hid hxd
  clear hxm hxd
  have hvm : ∀ g, vm.ownBlock = some g → g < W.heap.size := fun g e => by
   obtain ⟨_, cs, h⟩ := owns_block HT.out.rm e
   exact (Array.getElem?_eq_some_iff.1 h).1
  have T0 := two_drew (two_drew (two_base HT.out))
  have z00 : W.heap.size ≤ W.drew.drew.heap.size := Nat.le_refl _
  clear c0 c1 b0 b1 hmv hsv HGO hst HI HZ H0 H HT0 hHeld


  refine round_region (S := (fun L V => (L.getD 3 true = true ∨ V.cell? ⟨w1.heap.size, 0, none⟩ = some vm) ∧ (L.getD 7 true = true ∨ V.cell? ⟨w1.heap.size + 1, 0, none⟩ = some vs))) (by kernel_rfl) (fun h => by obtain ⟨_, _, h⟩ := h; exact h) (by kernel_rfl) ⟨Or.inr T0.bm.cell, Or.inr T0.bs.cell⟩ (fun hHeld => ?_)
  refine aL 0 3 (fun _ _ h k => rL k.1 h) ⟨Or.inr T0.bm.cell, Or.inr T0.bs.cell⟩ ?_
  refine aW 1 ⟨Or.inr T0.bm.cell, Or.inr T0.bs.cell⟩ ?_
  refine aL 4 7 (fun _ _ h k => rL k.2 h) ⟨Or.inr T0.bm.cell, Or.inr T0.bs.cell⟩ ?_
  refine aW 5 ⟨Or.inr T0.bm.cell, Or.inr T0.bs.cell⟩ ?_
  clear hHeld
  generalize W.drew.drew = V0 at *
  refine anyU_ready (rs := [2, 6]) (by kernel_rfl) (by simp) ?_
  refine readyU_cons (o := ⟨_,_,_,_,_,_⟩) rfl (fun K hK => ?_) (readyU_cons (o := ⟨_,_,_,_,_,_⟩) rfl (fun K hK => ?_) readyU_nil)
  · skip
    go_simp
    have T1 := two_alloc T0 (.cells #[.int .i64 mv] 3)
    have K1 := blk_new V0 3 #[.int .i64 mv]
    refine hK.out _ _ ⟨Or.inr T1.bm.cell, Or.inr T1.bs.cell⟩ (fun hHeld => ?_)
    clear hK K hHeld
    try simp only [Act.put, tA, tB, tC]
    clear T0
    have q1 : W.heap.size ≤ (V0.alloc (.cells #[.int .i64 mv] 3)).heap.size := by rw [World.size_alloc]; omega
    generalize (V0.alloc (.cells #[.int .i64 mv] 3)) = V1 at *
    refine anyU_ready (rs := [3, 6]) (by kernel_rfl) (by simp) ?_
    refine readyU_cons (o := ⟨_,_,_,_,_,_⟩) rfl (fun K hK => ?_) (readyU_cons (o := ⟨_,_,_,_,_,_⟩) rfl (fun K hK => ?_) readyU_nil)
    · skip
      obtain ⟨v2, V2, hr2, ho2, hw2, ha2⟩ := run_append_one V1 T1.rm K1 (by exact hlen) (two_size T1) 24
      obtain ⟨g2, c2, rfl⟩ := ownsRow_succ ho2
      have T2 := two_append T1 ho2 hw2 ha2
      have q2 : W.heap.size ≤ V2.heap.size := by have := hw2.size; omega
      refine stepU_append (by rfl) _ _ _ _ rfl _ _ rfl rfl _ V2 hr2 ?_
      refine hK.out _ _ ⟨Or.inl (by rfl), Or.inr T2.bs.cell⟩ (fun hHeld => ?_)
      clear hK K hHeld hr2 ho2 hw2 ha2
      try simp only [Act.put, tA, tB, tC]
      refine aR 6 (fun K hK => ?_)
      go_simp
      have T3 := two_alloc T2 (.cells #[.int .i64 sv] 3)
      have K3 := blk_new V2 3 #[.int .i64 sv]
      have L3 := blk_alloc K1 (.cells #[.int .i64 sv] 3)
      refine hK.out _ _ ⟨Or.inl (by rfl), Or.inr T3.bs.cell⟩ (fun hHeld => ?_)
      clear hK K hHeld
      try simp only [Act.put, tA, tB, tC]
      clear T2 K1
      have q3 : W.heap.size ≤ (V2.alloc (.cells #[.int .i64 sv] 3)).heap.size := by rw [World.size_alloc]; omega
      generalize (V2.alloc (.cells #[.int .i64 sv] 3)) = V3 at *
      refine aR 7 (fun K hK => ?_)
      obtain ⟨v4, V4, hr4, ho4, hw4, ha4⟩ := run_append_one V3 T3.rs K3 (by exact hlen2) (two_size T3) 24
      obtain ⟨g4, c4, rfl⟩ := ownsRow_succ ho4
      have T4 := two_append2 T3 ho4 hw4 ha4
      have q4 : W.heap.size ≤ V4.heap.size := by have := hw4.size; omega
      refine stepU_append (by rfl) _ _ _ _ rfl _ _ rfl rfl _ V4 hr4 ?_
      refine hK.out _ _ ⟨Or.inl (by rfl), Or.inl (by rfl)⟩ (fun hHeld => ?_)
      clear hK K hHeld hr4 ho4 hw4 ha4
      try simp only [Act.put, tA, tB, tC]
      refine aR 8 (fun K hK => ?_)
      have T5 := two_put T4
      have h5c := T4.bm.cell
      have h5f := T4.bm.frozen
      go_simp
      refine hK.out _ _ ⟨Or.inl (by rfl), Or.inl (by rfl)⟩ (fun hHeld => ?_)
      clear hK K hHeld h5c h5f
      try simp only [Act.put, tA, tB, tC]
      obtain ⟨V5, hV5⟩ : ∃ V, V = V4.setCell ⟨w1.heap.size, 0, none⟩ (.slice (some ⟨g2, 0, none⟩) (xm.length + 1) c2) := ⟨_, rfl⟩
      rw [← hV5] at T5 ⊢
      clear hV5
      refine aR 9 (fun K hK => ?_)
      have T6 := two_put2 T5
      have h6c := T5.bs.cell
      have h6f := T5.bs.frozen
      go_simp
      refine hK.out _ _ ⟨Or.inl (by rfl), Or.inl (by rfl)⟩ (fun hHeld => ?_)
      clear hK K hHeld h6c h6f
      try simp only [Act.put, tA, tB, tC]
      refine anyU_done (by kernel_rfl) ?_ _
      have TJ := two_join HT.out T6
      rw [← HM.out, ← HD.out] at TJ
      exact ⟨T6.kf, ⟨(T6.av _ (Or.inl rfl)).2.2.2.2.2, (T6.av _ (Or.inr rfl)).2.2.2.2.2⟩, _, _, two_cast TJ (by rw [List.map_append, ← HXM.out]; rfl) (by rw [List.map_append, ← HXD.out]; rfl)⟩
    · skip
      go_simp
      have T7 := two_alloc T1 (.cells #[.int .i64 sv] 3)
      have K7 := blk_new V1 3 #[.int .i64 sv]
      have L7 := blk_alloc K1 (.cells #[.int .i64 sv] 3)
      refine hK.out _ _ ⟨Or.inr T7.bm.cell, Or.inr T7.bs.cell⟩ (fun hHeld => ?_)
      clear hK K hHeld
      try simp only [Act.put, tA, tB, tC]
      clear T1 K1
      have q7 : W.heap.size ≤ (V1.alloc (.cells #[.int .i64 sv] 3)).heap.size := by rw [World.size_alloc]; omega
      generalize (V1.alloc (.cells #[.int .i64 sv] 3)) = V7 at *
      refine aR 3 (fun K hK => ?_)
      obtain ⟨v8, V8, hr8, ho8, hw8, ha8⟩ := run_append_one V7 T7.rm L7 (by exact hlen) (two_size T7) 24
      obtain ⟨g8, c8, rfl⟩ := ownsRow_succ ho8
      have T8 := two_append T7 ho8 hw8 ha8
      have q8 : W.heap.size ≤ V8.heap.size := by have := hw8.size; omega
      have L8 := blk_grown K7 hw8 (fun e => by have := hvm _ e.symm; omega)
      refine stepU_append (by rfl) _ _ _ _ rfl _ _ rfl rfl _ V8 hr8 ?_
      refine hK.out _ _ ⟨Or.inl (by rfl), Or.inr T8.bs.cell⟩ (fun hHeld => ?_)
      clear hK K hHeld hr8 ho8 hw8 ha8
      try simp only [Act.put, tA, tB, tC]
      refine aR 7 (fun K hK => ?_)
      obtain ⟨v9, V9, hr9, ho9, hw9, ha9⟩ := run_append_one V8 T8.rs L8 (by exact hlen2) (two_size T8) 24
      obtain ⟨g9, c9, rfl⟩ := ownsRow_succ ho9
      have T9 := two_append2 T8 ho9 hw9 ha9
      have q9 : W.heap.size ≤ V9.heap.size := by have := hw9.size; omega
      refine stepU_append (by rfl) _ _ _ _ rfl _ _ rfl rfl _ V9 hr9 ?_
      refine hK.out _ _ ⟨Or.inl (by rfl), Or.inl (by rfl)⟩ (fun hHeld => ?_)
      clear hK K hHeld hr9 ho9 hw9 ha9
      try simp only [Act.put, tA, tB, tC]
      refine aR 8 (fun K hK => ?_)
      have T10 := two_put T9
      have h10c := T9.bm.cell
      have h10f := T9.bm.frozen
      go_simp
      refine hK.out _ _ ⟨Or.inl (by rfl), Or.inl (by rfl)⟩ (fun hHeld => ?_)
      clear hK K hHeld h10c h10f
      try simp only [Act.put, tA, tB, tC]
      obtain ⟨V10, hV10⟩ : ∃ V, V = V9.setCell ⟨w1.heap.size, 0, none⟩ (.slice (some ⟨g8, 0, none⟩) (xm.length + 1) c8) := ⟨_, rfl⟩
      rw [← hV10] at T10 ⊢
      clear hV10
      refine aR 9 (fun K hK => ?_)
      have T11 := two_put2 T10
      have h11c := T10.bs.cell
      have h11f := T10.bs.frozen
      go_simp
      refine hK.out _ _ ⟨Or.inl (by rfl), Or.inl (by rfl)⟩ (fun hHeld => ?_)
      clear hK K hHeld h11c h11f
      try simp only [Act.put, tA, tB, tC]
      refine anyU_done (by kernel_rfl) ?_ _
      have TJ := two_join HT.out T11
      rw [← HM.out, ← HD.out] at TJ
      exact ⟨T11.kf, ⟨(T11.av _ (Or.inl rfl)).2.2.2.2.2, (T11.av _ (Or.inr rfl)).2.2.2.2.2⟩, _, _, two_cast TJ (by rw [List.map_append, ← HXM.out]; rfl) (by rw [List.map_append, ← HXD.out]; rfl)⟩
  · skip
    go_simp
    have T12 := two_alloc T0 (.cells #[.int .i64 sv] 3)
    have K12 := blk_new V0 3 #[.int .i64 sv]
    refine hK.out _ _ ⟨Or.inr T12.bm.cell, Or.inr T12.bs.cell⟩ (fun hHeld => ?_)
    clear hK K hHeld
    try simp only [Act.put, tA, tB, tC]
    clear T0
    have q12 : W.heap.size ≤ (V0.alloc (.cells #[.int .i64 sv] 3)).heap.size := by rw [World.size_alloc]; omega
    generalize (V0.alloc (.cells #[.int .i64 sv] 3)) = V12 at *
    refine aR 2 (fun K hK => ?_)
    go_simp
    have T13 := two_alloc T12 (.cells #[.int .i64 mv] 3)
    have K13 := blk_new V12 3 #[.int .i64 mv]
    have L13 := blk_alloc K12 (.cells #[.int .i64 mv] 3)
    refine hK.out _ _ ⟨Or.inr T13.bm.cell, Or.inr T13.bs.cell⟩ (fun hHeld => ?_)
    clear hK K hHeld
    try simp only [Act.put, tA, tB, tC]
    clear T12 K12
    have q13 : W.heap.size ≤ (V12.alloc (.cells #[.int .i64 mv] 3)).heap.size := by rw [World.size_alloc]; omega
    generalize (V12.alloc (.cells #[.int .i64 mv] 3)) = V13 at *
    refine aR 3 (fun K hK => ?_)
    obtain ⟨v14, V14, hr14, ho14, hw14, ha14⟩ := run_append_one V13 T13.rm K13 (by exact hlen) (two_size T13) 24
    obtain ⟨g14, c14, rfl⟩ := ownsRow_succ ho14
    have T14 := two_append T13 ho14 hw14 ha14
    have q14 : W.heap.size ≤ V14.heap.size := by have := hw14.size; omega
    have L14 := blk_grown L13 hw14 (fun e => by have := hvm _ e.symm; omega)
    refine stepU_append (by rfl) _ _ _ _ rfl _ _ rfl rfl _ V14 hr14 ?_
    refine hK.out _ _ ⟨Or.inl (by rfl), Or.inr T14.bs.cell⟩ (fun hHeld => ?_)
    clear hK K hHeld hr14 ho14 hw14 ha14
    try simp only [Act.put, tA, tB, tC]
    refine aR 7 (fun K hK => ?_)
    obtain ⟨v15, V15, hr15, ho15, hw15, ha15⟩ := run_append_one V14 T14.rs L14 (by exact hlen2) (two_size T14) 24
    obtain ⟨g15, c15, rfl⟩ := ownsRow_succ ho15
    have T15 := two_append2 T14 ho15 hw15 ha15
    have q15 : W.heap.size ≤ V15.heap.size := by have := hw15.size; omega
    refine stepU_append (by rfl) _ _ _ _ rfl _ _ rfl rfl _ V15 hr15 ?_
    refine hK.out _ _ ⟨Or.inl (by rfl), Or.inl (by rfl)⟩ (fun hHeld => ?_)
    clear hK K hHeld hr15 ho15 hw15 ha15
    try simp only [Act.put, tA, tB, tC]
    refine aR 8 (fun K hK => ?_)
    have T16 := two_put T15
    have h16c := T15.bm.cell
    have h16f := T15.bm.frozen
    go_simp
    refine hK.out _ _ ⟨Or.inl (by rfl), Or.inl (by rfl)⟩ (fun hHeld => ?_)
    clear hK K hHeld h16c h16f
    try simp only [Act.put, tA, tB, tC]
    obtain ⟨V16, hV16⟩ : ∃ V, V = V15.setCell ⟨w1.heap.size, 0, none⟩ (.slice (some ⟨g14, 0, none⟩) (xm.length + 1) c14) := ⟨_, rfl⟩
    rw [← hV16] at T16 ⊢
    clear hV16
    refine aR 9 (fun K hK => ?_)
    have T17 := two_put2 T16
    have h17c := T16.bs.cell
    have h17f := T16.bs.frozen
    go_simp
    refine hK.out _ _ ⟨Or.inl (by rfl), Or.inl (by rfl)⟩ (fun hHeld => ?_)
    clear hK K hHeld h17c h17f
    try simp only [Act.put, tA, tB, tC]
    refine anyU_done (by kernel_rfl) ?_ _
    have TJ := two_join HT.out T17
    rw [← HM.out, ← HD.out] at TJ
    exact ⟨T17.kf, ⟨(T17.av _ (Or.inl rfl)).2.2.2.2.2, (T17.av _ (Or.inr rfl)).2.2.2.2.2⟩, _, _, two_cast TJ (by rw [List.map_append, ← HXM.out]; rfl) (by rw [List.map_append, ← HXD.out]; rfl)⟩
 case done =>
  rintro D ys W hD rfl ⟨vm, vs, hT⟩ hK
  have cm := hT.bm.cell
  have cs := hT.bs.cell
  have HT := hid hT
  clear hT HI HGO hst HT0 H0 H HZ
  gi_wp2
  refine wpIn_wide.2 ?_
  go_quiet (fail)
  have hK2 : (W.drewN nq).heap[D]? = some (.deferred (some [])) := hK
  have e1 := finRange_map m (midAt zs)
  have e2 := finRange_map m (sideAt zs)
  have hd1 := HT.out.rm
  have hd2 := HT.out.rs
  rw [e1, List.length_map, List.length_range] at hd1
  rw [e2, List.length_map, List.length_range] at hd2
  have RM := hid hd1
  have RS := hid hd2
  have hB := below_draws (HB0.out.trans HT.out.bl) nq
  have hD2 : w.heap.size ≤ D := by have := HB0.out.size; omega
  have HB := hid (hB.trans (belowK_b (w := w) (Nat.le_refl _) (W.drewN nq) D _ (.deferred none) hD2 hK2 rfl rfl))
  clear hd1 hd2 e1 e2 hB cm cs
  gi_wp2
  refine ⟨by simp, .inl ⟨_, _, rfl, run_takeDeferred hK2, ?_⟩⟩
  exact ⟨_, results_tmp3 rfl _ _ _, vm, vs, rfl, ownsRow_putObj RM.out _ hK2 rfl, ownsRow_putObj RS.out _ hK2 rfl, HB.out⟩
 case stop =>
  rintro D c pre W _ _ h _
  exact h.elim
end Go.Proofs.YtiigipnfnfpepaaGreatDoor
