/- strings.Repeat, by the shelf's contract (the laying is the shelf's, in plain words; its numbers are this seat's). bits.Writer (layer 6): one bit. Printed by genone.py. bits.Writer (layer 6): a number. -/
import Derived.Test.YtiigipnfnfpepaaGreatDoorUC16
import Derived.Shelf.Strings.Repeat
import Derived.Laws.OwnMore
import Derived.Test.YtiigipnfnfpepaaGreatDoorUA
namespace Go.Proofs.YtiigipnfnfpepaaGreatDoor
open Go.Shelf Go.RowKit
def lays105_ren : Go.Shelf.Ren := ⟨fun | 105 => 86 | 212 => 129 | 99 => 130 | 165 => 131 | 166 => 132 | 170 => 133 | 169 => 134 | 263 => 154 | 264 => 155 | 206 => 156 | 240 => 157 | 241 => 158 | 276 => 166 | 277 => 167 | n => n, fun | 9 => 9 | 3 => 3 | 4 => 4 | 20 => 20 | 0 => 0 | 46 => 66 | 109 => 201 | 5 => 5 | 72 => 206 | 76 => 209 | 51 => 233 | 146 => 234 | 53 => 58 | 148 => 236 | 70 => 204 | 37 => 109 | 75 => 208 | 127 => 238 | 164 => 244 | 80 => 149 | n => n, fun | n => n⟩
theorem lays105 : Go.Proofs.Lays.n105 Tryz.prog lays105_ren := {
 mixed := by kernel_rfl
 f99 := Tryz.func130.trans (congrArg some (by kernel_rfl))
 f105 := Tryz.func86.trans (congrArg some (by kernel_rfl))
 f165 := Tryz.func131.trans (congrArg some (by kernel_rfl))
 f166 := Tryz.func132.trans (congrArg some (by kernel_rfl))
 f169 := Tryz.func134.trans (congrArg some (by kernel_rfl))
 f170 := Tryz.func133.trans (congrArg some (by kernel_rfl))
 f206 := Tryz.func156.trans (congrArg some (by kernel_rfl))
 f212 := Tryz.func129.trans (congrArg some (by kernel_rfl))
 f240 := Tryz.func157.trans (congrArg some (by kernel_rfl))
 f241 := Tryz.func158.trans (congrArg some (by kernel_rfl))
 f263 := Tryz.func154.trans (congrArg some (by kernel_rfl))
 f264 := Tryz.func155.trans (congrArg some (by kernel_rfl))
 f276 := Tryz.func166.trans (congrArg some (by kernel_rfl))
 f277 := Tryz.func167.trans (congrArg some (by kernel_rfl))
 t0 := Tryz.underlying0
 a0 := Tryz.isAgg0
 z0 := Tryz.sizeOf0
 v0 := Tryz.zeroValue0
 t3 := Tryz.underlying3
 a3 := Tryz.isAgg3
 z3 := Tryz.sizeOf3
 v3 := Tryz.zeroValue3
 t4 := Tryz.underlying4
 a4 := Tryz.isAgg4
 z4 := Tryz.sizeOf4
 v4 := Tryz.zeroValue4
 t5 := Tryz.underlying5
 a5 := Tryz.isAgg5
 z5 := Tryz.sizeOf5
 v5 := Tryz.zeroValue5
 t9 := Tryz.underlying9
 a9 := Tryz.isAgg9
 z9 := Tryz.sizeOf9
 v9 := Tryz.zeroValue9
 t20 := Tryz.underlying20
 a20 := Tryz.isAgg20
 z20 := Tryz.sizeOf20
 v20 := Tryz.zeroValue20
 t37 := Tryz.underlying109
 a37 := Tryz.isAgg109
 z37 := Tryz.sizeOf109
 v37 := Tryz.zeroValue109
 t46 := Tryz.underlying66
 a46 := Tryz.isAgg66
 z46 := Tryz.sizeOf66
 v46 := Tryz.zeroValue66
 t51 := Tryz.underlying233
 a51 := Tryz.isAgg233
 z51 := Tryz.sizeOf233
 v51 := Tryz.zeroValue233
 t53 := Tryz.underlying58
 a53 := Tryz.isAgg58
 z53 := Tryz.sizeOf58
 v53 := Tryz.zeroValue58
 t70 := Tryz.underlying204
 a70 := Tryz.isAgg204
 z70 := Tryz.sizeOf204
 v70 := Tryz.zeroValue204
 t72 := Tryz.underlying206
 a72 := Tryz.isAgg206
 z72 := Tryz.sizeOf206
 v72 := Tryz.zeroValue206
 t75 := Tryz.underlying208
 a75 := Tryz.isAgg208
 z75 := Tryz.sizeOf208
 v75 := Tryz.zeroValue208
 t76 := Tryz.underlying209
 a76 := Tryz.isAgg209
 z76 := Tryz.sizeOf209
 v76 := Tryz.zeroValue209
 t109 := Tryz.underlying201
 a109 := Tryz.isAgg201
 z109 := Tryz.sizeOf201
 v109 := Tryz.zeroValue201
 t127 := Tryz.underlying238
 a127 := Tryz.isAgg238
 z127 := Tryz.sizeOf238
 v127 := Tryz.zeroValue238
 t146 := Tryz.underlying234
 a146 := Tryz.isAgg234
 z146 := Tryz.sizeOf234
 v146 := Tryz.zeroValue234
 t148 := Tryz.underlying236
 a148 := Tryz.isAgg236
 z148 := Tryz.sizeOf236
 v148 := Tryz.zeroValue236
 t164 := Tryz.underlying244
 a164 := Tryz.isAgg244
 z164 := Tryz.sizeOf244
 v164 := Tryz.zeroValue244 }
theorem builder_extra : Builder.Extra Tryz.prog lays105_ren := {
 sizeBuilder := by kernel_rfl
 liesBuilder := by kernel_rfl
 t5 := Tryz.underlying5
 a5 := Tryz.isAgg5
 z5 := Tryz.sizeOf5
 v5 := Tryz.zeroValue5
 infoByte := by kernel_rfl
 cellsByte := by kernel_rfl
 sizeByte := by kernel_rfl
 neB5 := by decide }
theorem strings_Repeat (s : ByteArray) (c : Nat) (w : World) (hc : c ≤ 9223372036854775807) (hlen : s.size * c ≤ 140737488355328) :
 Calls Tryz.prog 86 #[.string s, .int .i64 c] w fun e w' => e = .returned (.string ⟨(Lib.repeatL s.data.toList c).toArray⟩) ∧ Below w.heap.size w w' := Any.strings_Repeat lays105 builder_extra s c w hc hlen

theorem repeat_zero : ∀ c : Nat, Lib.repeatL [(0 : UInt8)] c = List.replicate c 0 := fun c => by simpa using Lib.repeatL_replicate 0 1 c
theorem rep_calls (c : Nat) (w : World) (hc : c ≤ 1000) : Calls Tryz.prog 86 #[.string (str [0]), .int .i64 c] w fun e w' => e = .returned (.string (str (List.replicate c 0))) ∧ Below w.heap.size w w' := by
 have h := strings_Repeat (str [0]) c w (by omega) (by show 1 * c ≤ _; omega)
 rw [show (str [0]).data.toList = [0] from rfl, repeat_zero] at h
 exact h
end Go.Proofs.YtiigipnfnfpepaaGreatDoor
namespace Go.Proofs.YtiigipnfnfpepaaGreatDoor
open Go.RowKit

def bytesU (o : List UInt8) : List Value := o.map fun b => Value.int .u8 (b.toNat : Int)
theorem bytesU_at (o : List UInt8) {i : Nat} (hi : i < o.length) : (bytesU o)[i]? = some (.int .u8 ((o.getD i 0).toNat : Int)) := by
 rw [bytesU, List.getElem?_map, List.getD_eq_getElem?_getD, List.getElem?_eq_getElem hi]; rfl
theorem bytesU_set (o : List UInt8) (i : Nat) {z : Int} (h0 : 0 ≤ z) (h1 : z < 256) : (bytesU o).set i (.int .u8 z) = bytesU (o.set i (valB z)) := by
 rw [bytesU, bytesU, List.map_set, valB_of h0 h1]
structure WR (w : World) (g : Nat) (o : List UInt8) (n : Nat) : Prop where
 blk : ∃ v, Blk w g 146 #[v, .int .i64 n] ∧ w.ownsRow (g + 1) 5 1 v o.length (bytesU o)
 len : o.length = (n + 7) / 8
theorem wr_lt {w : World} {g n : Nat} {o : List UInt8} (h : WR w g o n) : g < w.heap.size := by
 obtain ⟨v, hb, _⟩ := h.blk
 exact blk_lt hb
theorem wr_below {w w' : World} {g n : Nat} {o : List UInt8} (h : WR w g o n) (hb : Below w.heap.size w w') : WR w' g o n := by
 obtain ⟨v, h1, h2⟩ := h.blk
 exact ⟨⟨v, blk_below h1 hb (blk_lt h1), owns_below h2 hb (Nat.le_refl _)⟩, h.len⟩
def oneX (r : Nat) (bit x : Int) : Int := bits .or .u8 x (IntKind.u8.wrap (IntKind.i64.wrap (bit * 2 ^ (7 - r))))
theorem oneX_in (r : Nat) (bit x : Int) : 0 ≤ oneX r bit x ∧ oneX r bit x < 256 := by
 have h : ∀ z : Int, 0 ≤ IntKind.u8.wrap z ∧ IntKind.u8.wrap z < 256 := fun z => by
  simp only [IntKind.wrap, IntKind.signed, IntKind.bits, Bool.false_and, Bool.false_eq_true, if_false]
  omega
 exact h _
def roomO (o : List UInt8) (n : Nat) : List UInt8 := if n % 8 = 0 then o ++ [0] else o
def oneO (o : List UInt8) (n : Nat) (bit : Int) : List UInt8 := (roomO o n).set (n / 8) (valB (oneX (n % 8) bit ((roomO o n).getD (n / 8) 0).toNat))

set_option maxRecDepth 20000 in
set_option maxHeartbeats 4000000 in
theorem one_calls (g : Nat) (o : List UInt8) (n : Nat) (bit : Int) (w : World) (hn : n ≤ 10000) (h : WR w g o n) :
 Calls Tryz.prog 127 #[.pointer (some ⟨g, 0, none⟩), .int .i64 bit] w fun e w' => e = .returned (.tuple #[]) ∧ WR w' g (oneO o n bit) (n + 1) ∧ Below g w w' := by
 obtain ⟨⟨v, hB, hO⟩, hl⟩ := h
 obtain ⟨q, r, hn8, hr⟩ : ∃ q r, n = 8 * q + r ∧ r < 8 := ⟨n / 8, n % 8, by omega, by omega⟩
 have c0 : w.cell? ⟨g, 0, none⟩ = some v := by rw [blk_cell hB]; rfl
 have c1 : w.cell? ⟨g, 1, none⟩ = some (.int .i64 n) := by rw [blk_cell hB]; rfl
 have hnz : (0 : Int) ≤ n := by omega
 have hnb : (n : Int) ≤ 10000 := by omega
 have HB := hid hB
 have HO := hid hO
 have hg := blk_lt hB
 clear hB hO
 have hm : (n : Int) % 8 = r := by omega
 have HL := hid hl
 have HN := hid hn
 have HE := hid hn8
 clear hl hn hn8
 have hnq : (n : Int) / 8 = q := by have := HE.out; omega
 have hr8 : (r : Int) < 8 := by omega
 have hr0 : (0 : Int) ≤ r := by omega
 have hq0 : (0 : Int) ≤ q := by omega
 have hq1 : (q : Int) < q + 1 := by omega
 have hqw : IntKind.i64.wrap (q : Int) = q := IntWalk.i64_in _ (by have := HE.out; have := HN.out; omega)
 obtain ⟨s, hs⟩ : ∃ s : Nat, s = 7 - r := ⟨_, rfl⟩
 have hs7 : IntKind.i64.wrap (7 - (n : Int).tmod 8) = s := by rw [Int.tmod_eq_emod_of_nonneg hnz, hm, IntWalk.i64_in _ (by omega)]; omega
 have hs8 : (s : Int) < 8 := by omega
 have hs0 : (0 : Int) ≤ s := by omega
 have hs64 : (s : Int) < 64 := by omega
 have HX := hid (oneX_in r bit)
 have HO1 : Hid (oneO o n bit = (roomO o n).set q (valB (oneX r bit ((roomO o n).getD q 0).toNat))) := hid (by
  have e1 : n / 8 = q := by have := HE.out; omega
  have e2 : n % 8 = r := by have := HE.out; omega
  rw [oneO, e1, e2])
 by_cases h0 : r = 0
 · have hrz : ((r : Int) == 0) = true := by rw [h0]; rfl
   have hol : o.length = q := by rw [HL.out, HE.out]; omega
   have HRO : Hid (roomO o n = o ++ [0]) := hid (by rw [roomO, if_pos (by have := HE.out; omega)])
   obtain ⟨inf, hinf, hzr, hsz, hby⟩ := info_parts (P := Tryz.prog) (e := 5) (z := .int .u8 0) (size := 1) (bytes := 1) (by kernel_rfl)
   have HF := hid (And.intro hinf (And.intro hzr (And.intro hsz hby)))
   have HOL := hid hol
   have B1 := hid (blk_alloc HB.out (.cells #[.int .u8 0] 5))
   have L1 := hid ((Below.refl g w).alloc (Nat.le_of_lt hg) (.cells #[.int .u8 0] 5))
   clear hinf hzr hsz hby hol h0
   go_enter Tryz.func127, Tryz.ntmps127
   go_wp2_with (first | (at_builtin; refine wpList_append_own _ rfl _ _ 109 rfl (g + 1) 5 inf (.int .u8 0) 1 1 Tryz.underlying109 HF.out.1 HF.out.2.1 HF.out.2.2.1 HF.out.2.2.2 rfl (by decide) _ o.length _ rfl (HO.out.alloc _) ⟨w.heap.size, 0, none⟩ 1 1 [.int .u8 0] rfl rfl (cell_one_new _ _ _) (by simp [Value.oneCell']) (by have := HOL.out; have := HE.out; have := HN.out; unfold maxLen; omega) (by have := HOL.out; have := HE.out; have := HN.out; omega) (by simp; omega) ?_; intro v' w5 hown' hgrow _; have hfar : some g ≠ v.ownBlock := (fun e => by have := (HO.out.lt g e.symm).1; omega); have B5 := hid (blk_grown B1.out hgrow hfar); have L5 := hid (L1.out.grown hgrow (by simp; omega) (fun k e => by have := (HO.out.lt k e).1; omega)); have c5 : w5.cell? ⟨g, 0, none⟩ = some v := blk_cell B5.out 0; have f5 : w5.frozen? ⟨g, 0, none⟩ = false := blk_free B5.out 0; rw [HOL.out, show bytesU o ++ [Value.int .u8 0] = bytesU (o ++ [0]) by simp [bytesU]] at hown'; obtain ⟨gr, cap, rfl⟩ := ownsRow_succ hown'; have HO5 := hid hown'; clear hown' hgrow hfar B1 L1))
   have B6 := hid (blk_set B5.out 0 (.slice (some ⟨gr, 0, none⟩) (q + 1) cap))
   have O1 := hid (ownsRow_setCell_below HO5.out (a := ⟨g, 0, none⟩) (Nat.lt_succ_self g) (.slice (some ⟨gr, 0, none⟩) (q + 1) cap))
   have L1 := hid (L5.out.setCell (p := ⟨g, 0, none⟩) (Nat.le_refl g) (.slice (some ⟨gr, 0, none⟩) (q + 1) cap))
   have B1 : Hid (Blk (w5.setCell ⟨g, 0, none⟩ (.slice (some ⟨gr, 0, none⟩) (q + 1) cap)) g 146 #[.slice (some ⟨gr, 0, none⟩) (q + 1) cap, .int .i64 n]) := hid B6.out
   clear c0 c1 c5 f5 B5 B6 HO5 L5 HO HB hg hrz
   generalize w5.setCell ⟨g, 0, none⟩ (.slice (some ⟨gr, 0, none⟩) (q + 1) cap) = w1 at *
   have HOL1 := hid (show (o ++ [0]).length = q + 1 by rw [List.length_append, HOL.out]; rfl)
   rw [← HRO.out] at O1 HOL1
   generalize roomO o n = o1 at *
   have d0 : w1.drew.cell? ⟨g, 0, none⟩ = some (.slice (some ⟨gr, 0, none⟩) (q + 1) cap) := blk_cell B1.out 0
   have d1 : w1.drew.cell? ⟨g, 1, none⟩ = some (.int .i64 n) := blk_cell B1.out 1
   have d2 : w1.drew.cell? ⟨gr, q, none⟩ = some (.int .u8 ((o1.getD q 0).toNat : Int)) := (O1.out.cellAt q (by omega)).trans (bytesU_at o1 (by rw [HOL1.out]; exact Nat.lt_succ_self q))
   have f2 : w1.frozen? ⟨gr, q, none⟩ = false := O1.out.frozenAt q
   obtain ⟨q1, q2⟩ := O1.out.stored q (.int .u8 (oneX r bit ((o1.getD q 0).toNat : Int)))
   rw [bytesU_set o1 q (HX.out _).1 (HX.out _).2] at q1
   have hgr := (O1.out.lt gr rfl).1
   have B2 := hid (blk_grown B1.out q2 (fun e => by injection e with e; omega))
   have L2 := hid (L1.out.grown q2 (Nat.le_of_lt (blk_lt B1.out)) (fun k e => by injection e with e; omega))
   have O2 := hid q1
   have HO2 := hid (show oneO o n bit = o1.set q (valB (oneX r bit ((o1.getD q 0).toNat : Int))) from HO1.out)
   clear q1 q2 hgr HX HO1
   rw [← HO2.out] at O2
   have HOL2 := hid (show (oneO o n bit).length = q + 1 by rw [HO2.out, List.length_set]; exact HOL1.out)
   clear HO2 HOL1
   obtain ⟨o2, ho2⟩ : ∃ o2, o2 = oneO o n bit := ⟨_, rfl⟩
   rw [← ho2] at O2 HOL2
   have HO3 := hid ho2
   clear ho2
   generalize ((o1.getD q 0).toNat : Int) = x at *
   refine plain_region (S := (fun L W => (L.getD 22 true = true ∨ W.cell? ⟨g, 0, none⟩ = some (.slice (some ⟨gr, 0, none⟩) (q + 1) cap)) ∧ (L.getD 22 true = true ∨ W.cell? ⟨g, 1, none⟩ = some (.int .i64 n)) ∧ (L.getD 22 true = true ∨ W.cell? ⟨gr, q, none⟩ = some (.int .u8 x)) ∧ (L.getD 22 true = true ∨ W.cell? ⟨g, 1, none⟩ = some (.int .i64 n)))) (by kernel_rfl) (⟨Or.inr d0, Or.inr d1, Or.inr d2, Or.inr d1⟩) (fun hHeld => ?_)
   clear hHeld
   refine aW 0 ⟨Or.inr d0, Or.inr d1, Or.inr d2, Or.inr d1⟩ ?_
   refine aW 1 ⟨Or.inr d0, Or.inr d1, Or.inr d2, Or.inr d1⟩ ?_
   refine aW 2 ⟨Or.inr d0, Or.inr d1, Or.inr d2, Or.inr d1⟩ ?_
   refine aL 3 22 (fun _ _ h k => rL k.1 h) ⟨Or.inr d0, Or.inr d1, Or.inr d2, Or.inr d1⟩ ?_
   refine aW 4 ⟨Or.inr d0, Or.inr d1, Or.inr d2, Or.inr d1⟩ ?_
   refine aW 5 ⟨Or.inr d0, Or.inr d1, Or.inr d2, Or.inr d1⟩ ?_
   refine aW 6 ⟨Or.inr d0, Or.inr d1, Or.inr d2, Or.inr d1⟩ ?_
   refine aL 7 22 (fun _ _ h k => rL k.2.1 h) ⟨Or.inr d0, Or.inr d1, Or.inr d2, Or.inr d1⟩ ?_
   refine aW 8 ⟨Or.inr d0, Or.inr d1, Or.inr d2, Or.inr d1⟩ ?_
   refine aW 9 ⟨Or.inr d0, Or.inr d1, Or.inr d2, Or.inr d1⟩ ?_
   refine aL 10 22 (fun _ _ h k => rL k.2.2.1 h) ⟨Or.inr d0, Or.inr d1, Or.inr d2, Or.inr d1⟩ ?_
   refine aW 11 ⟨Or.inr d0, Or.inr d1, Or.inr d2, Or.inr d1⟩ ?_
   refine aW 12 ⟨Or.inr d0, Or.inr d1, Or.inr d2, Or.inr d1⟩ ?_
   refine aW 13 ⟨Or.inr d0, Or.inr d1, Or.inr d2, Or.inr d1⟩ ?_
   refine aW 14 ⟨Or.inr d0, Or.inr d1, Or.inr d2, Or.inr d1⟩ ?_
   refine aL 15 22 (fun _ _ h k => rL k.2.2.2 h) ⟨Or.inr d0, Or.inr d1, Or.inr d2, Or.inr d1⟩ ?_
   refine aW 16 ⟨Or.inr d0, Or.inr d1, Or.inr d2, Or.inr d1⟩ ?_
   refine aW 17 ⟨Or.inr d0, Or.inr d1, Or.inr d2, Or.inr d1⟩ ?_
   refine aW 18 ⟨Or.inr d0, Or.inr d1, Or.inr d2, Or.inr d1⟩ ?_
   refine aW 19 ⟨Or.inr d0, Or.inr d1, Or.inr d2, Or.inr d1⟩ ?_
   refine aW 20 ⟨Or.inr d0, Or.inr d1, Or.inr d2, Or.inr d1⟩ ?_
   refine aW 21 ⟨Or.inr d0, Or.inr d1, Or.inr d2, Or.inr d1⟩ ?_
   refine aR 22 (fun K hK => ?_)
   go_simp
   skip
   refine hK.out _ _ (⟨Or.inl (by rfl), Or.inl (by rfl), Or.inl (by rfl), Or.inl (by rfl)⟩) (fun hHeld => ?_)
   clear hK K
   try simp only [Act.put, tA, tB, tC]
   clear hHeld
   refine anyU_done (by kernel_rfl) ?_ _
   clear d0 d1 d2 f2 B1 O1 L1
   have HW : ∃ w7, w7 = (w1.setCell ⟨gr, q, none⟩ (.int .u8 (oneX r bit x))).drew := ⟨_, rfl⟩
   obtain ⟨w7, hw7⟩ := HW
   have B3 : Hid (Blk w7 g 146 #[.slice (some ⟨gr, 0, none⟩) (q + 1) cap, .int .i64 n]) := hid (by rw [hw7]; exact blk_drew B2.out)
   have L3 : Hid (Below g w w7) := hid (by rw [hw7]; exact below_draws L2.out 1)
   have O3 : Hid (w7.ownsRow (g + 1) 5 1 (.slice (some ⟨gr, 0, none⟩) (q + 1) cap) (q + 1) (bytesU o2)) := hid (by rw [hw7]; exact O2.out)
   have c7 : w7.cell? ⟨g, 1, none⟩ = some (.int .i64 n) := blk_cell B3.out 1
   have f7 : w7.frozen? ⟨g, 1, none⟩ = false := blk_free B3.out 1
   have B4 := hid (blk_set B3.out 1 (.int .i64 (n + 1)))
   have O4 := hid (ownsRow_setCell_below O3.out (a := ⟨g, 1, none⟩) (Nat.lt_succ_self g) (.int .i64 (n + 1)))
   have L4 := hid (L3.out.setCell (p := ⟨g, 1, none⟩) (Nat.le_refl g) (.int .i64 (n + 1)))
   rw [show oneX r bit x = bits .or .u8 x (IntKind.u8.wrap (IntKind.i64.wrap (bit * 2 ^ (7 - r)))) from rfl] at hw7
   rw [← hw7]
   clear hw7 B2 O2 L2 B3 O3 L3
   go_wp2_with fail
   go_end0
   exact ⟨rfl, HO3.out ▸ ⟨⟨_, B4.out, by rw [HOL2.out]; exact O4.out⟩, by rw [HOL2.out, HE.out]; omega⟩, L4.out⟩
 · have hol : o.length = q + 1 := by rw [HL.out, HE.out]; omega
   have hO := HO.out
   rw [hol] at hO
   obtain ⟨gr, cap, rfl⟩ := ownsRow_succ hO
   have HRO : Hid (roomO o n = o) := hid (by rw [roomO, if_neg (by have := HE.out; omega)])
   have O1 := hid hO
   have HOL1 := hid hol
   have L1 := hid (Below.refl g w)
   have B1 := HB
   rw [← HRO.out] at O1 HOL1
   have hrz : ((r : Int) == 0) = false := by
    rw [beq_eq_false_iff_ne]
    omega
   clear hO hol HO HB hg
   go_enter Tryz.func127, Tryz.ntmps127
   go_wp2_with fail
   clear c0 c1 hrz
   generalize roomO o n = o1 at *
   have d0 : w.drew.cell? ⟨g, 0, none⟩ = some (.slice (some ⟨gr, 0, none⟩) (q + 1) cap) := blk_cell B1.out 0
   have d1 : w.drew.cell? ⟨g, 1, none⟩ = some (.int .i64 n) := blk_cell B1.out 1
   have d2 : w.drew.cell? ⟨gr, q, none⟩ = some (.int .u8 ((o1.getD q 0).toNat : Int)) := (O1.out.cellAt q (by omega)).trans (bytesU_at o1 (by rw [HOL1.out]; exact Nat.lt_succ_self q))
   have f2 : w.frozen? ⟨gr, q, none⟩ = false := O1.out.frozenAt q
   obtain ⟨q1, q2⟩ := O1.out.stored q (.int .u8 (oneX r bit ((o1.getD q 0).toNat : Int)))
   rw [bytesU_set o1 q (HX.out _).1 (HX.out _).2] at q1
   have hgr := (O1.out.lt gr rfl).1
   have B2 := hid (blk_grown B1.out q2 (fun e => by injection e with e; omega))
   have L2 := hid (L1.out.grown q2 (Nat.le_of_lt (blk_lt B1.out)) (fun k e => by injection e with e; omega))
   have O2 := hid q1
   have HO2 := hid (show oneO o n bit = o1.set q (valB (oneX r bit ((o1.getD q 0).toNat : Int))) from HO1.out)
   clear q1 q2 hgr HX HO1
   rw [← HO2.out] at O2
   have HOL2 := hid (show (oneO o n bit).length = q + 1 by rw [HO2.out, List.length_set]; exact HOL1.out)
   clear HO2 HOL1
   obtain ⟨o2, ho2⟩ : ∃ o2, o2 = oneO o n bit := ⟨_, rfl⟩
   rw [← ho2] at O2 HOL2
   have HO3 := hid ho2
   clear ho2
   generalize ((o1.getD q 0).toNat : Int) = x at *
   refine plain_region (S := (fun L W => (L.getD 22 true = true ∨ W.cell? ⟨g, 0, none⟩ = some (.slice (some ⟨gr, 0, none⟩) (q + 1) cap)) ∧ (L.getD 22 true = true ∨ W.cell? ⟨g, 1, none⟩ = some (.int .i64 n)) ∧ (L.getD 22 true = true ∨ W.cell? ⟨gr, q, none⟩ = some (.int .u8 x)) ∧ (L.getD 22 true = true ∨ W.cell? ⟨g, 1, none⟩ = some (.int .i64 n)))) (by kernel_rfl) (⟨Or.inr d0, Or.inr d1, Or.inr d2, Or.inr d1⟩) (fun hHeld => ?_)
   clear hHeld
   refine aW 0 ⟨Or.inr d0, Or.inr d1, Or.inr d2, Or.inr d1⟩ ?_
   refine aW 1 ⟨Or.inr d0, Or.inr d1, Or.inr d2, Or.inr d1⟩ ?_
   refine aW 2 ⟨Or.inr d0, Or.inr d1, Or.inr d2, Or.inr d1⟩ ?_
   refine aL 3 22 (fun _ _ h k => rL k.1 h) ⟨Or.inr d0, Or.inr d1, Or.inr d2, Or.inr d1⟩ ?_
   refine aW 4 ⟨Or.inr d0, Or.inr d1, Or.inr d2, Or.inr d1⟩ ?_
   refine aW 5 ⟨Or.inr d0, Or.inr d1, Or.inr d2, Or.inr d1⟩ ?_
   refine aW 6 ⟨Or.inr d0, Or.inr d1, Or.inr d2, Or.inr d1⟩ ?_
   refine aL 7 22 (fun _ _ h k => rL k.2.1 h) ⟨Or.inr d0, Or.inr d1, Or.inr d2, Or.inr d1⟩ ?_
   refine aW 8 ⟨Or.inr d0, Or.inr d1, Or.inr d2, Or.inr d1⟩ ?_
   refine aW 9 ⟨Or.inr d0, Or.inr d1, Or.inr d2, Or.inr d1⟩ ?_
   refine aL 10 22 (fun _ _ h k => rL k.2.2.1 h) ⟨Or.inr d0, Or.inr d1, Or.inr d2, Or.inr d1⟩ ?_
   refine aW 11 ⟨Or.inr d0, Or.inr d1, Or.inr d2, Or.inr d1⟩ ?_
   refine aW 12 ⟨Or.inr d0, Or.inr d1, Or.inr d2, Or.inr d1⟩ ?_
   refine aW 13 ⟨Or.inr d0, Or.inr d1, Or.inr d2, Or.inr d1⟩ ?_
   refine aW 14 ⟨Or.inr d0, Or.inr d1, Or.inr d2, Or.inr d1⟩ ?_
   refine aL 15 22 (fun _ _ h k => rL k.2.2.2 h) ⟨Or.inr d0, Or.inr d1, Or.inr d2, Or.inr d1⟩ ?_
   refine aW 16 ⟨Or.inr d0, Or.inr d1, Or.inr d2, Or.inr d1⟩ ?_
   refine aW 17 ⟨Or.inr d0, Or.inr d1, Or.inr d2, Or.inr d1⟩ ?_
   refine aW 18 ⟨Or.inr d0, Or.inr d1, Or.inr d2, Or.inr d1⟩ ?_
   refine aW 19 ⟨Or.inr d0, Or.inr d1, Or.inr d2, Or.inr d1⟩ ?_
   refine aW 20 ⟨Or.inr d0, Or.inr d1, Or.inr d2, Or.inr d1⟩ ?_
   refine aW 21 ⟨Or.inr d0, Or.inr d1, Or.inr d2, Or.inr d1⟩ ?_
   refine aR 22 (fun K hK => ?_)
   go_simp
   skip
   refine hK.out _ _ (⟨Or.inl (by rfl), Or.inl (by rfl), Or.inl (by rfl), Or.inl (by rfl)⟩) (fun hHeld => ?_)
   clear hK K
   try simp only [Act.put, tA, tB, tC]
   clear hHeld
   refine anyU_done (by kernel_rfl) ?_ _
   clear d0 d1 d2 f2 B1 O1 L1
   have HW : ∃ w7, w7 = (w.setCell ⟨gr, q, none⟩ (.int .u8 (oneX r bit x))).drew := ⟨_, rfl⟩
   obtain ⟨w7, hw7⟩ := HW
   have B3 : Hid (Blk w7 g 146 #[.slice (some ⟨gr, 0, none⟩) (q + 1) cap, .int .i64 n]) := hid (by rw [hw7]; exact blk_drew B2.out)
   have L3 : Hid (Below g w w7) := hid (by rw [hw7]; exact below_draws L2.out 1)
   have O3 : Hid (w7.ownsRow (g + 1) 5 1 (.slice (some ⟨gr, 0, none⟩) (q + 1) cap) (q + 1) (bytesU o2)) := hid (by rw [hw7]; exact O2.out)
   have c7 : w7.cell? ⟨g, 1, none⟩ = some (.int .i64 n) := blk_cell B3.out 1
   have f7 : w7.frozen? ⟨g, 1, none⟩ = false := blk_free B3.out 1
   have B4 := hid (blk_set B3.out 1 (.int .i64 (n + 1)))
   have O4 := hid (ownsRow_setCell_below O3.out (a := ⟨g, 1, none⟩) (Nat.lt_succ_self g) (.int .i64 (n + 1)))
   have L4 := hid (L3.out.setCell (p := ⟨g, 1, none⟩) (Nat.le_refl g) (.int .i64 (n + 1)))
   rw [show oneX r bit x = bits .or .u8 x (IntKind.u8.wrap (IntKind.i64.wrap (bit * 2 ^ (7 - r)))) from rfl] at hw7
   rw [← hw7]
   clear hw7 B2 O2 L2 B3 O3 L3
   go_wp2_with fail
   go_end0
   exact ⟨rfl, HO3.out ▸ ⟨⟨_, B4.out, by rw [HOL2.out]; exact O4.out⟩, by rw [HOL2.out, HE.out]; omega⟩, L4.out⟩
end Go.Proofs.YtiigipnfnfpepaaGreatDoor
namespace Go.Proofs.YtiigipnfnfpepaaGreatDoor
open Go.RowKit

def putS (x : Int) : Nat → List UInt8 × Nat → List UInt8 × Nat
 | 0, s => s
 | i + 1, s => putS x i (oneO s.1 s.2 (bits .and .i64 (x / 2 ^ i) 1), s.2 + 1)
def putO (x : Int) (n : Nat) (s : List UInt8 × Nat) : List UInt8 × Nat := if x < 0 ∨ 0 < x / 2 ^ n then s else putS x n s
theorem putS_len (x : Int) : ∀ (n : Nat) (s : List UInt8 × Nat), (putS x n s).2 = s.2 + n
 | 0, s => rfl
 | i + 1, s => by rw [putS, putS_len x i]; show s.2 + 1 + i = _; omega
theorem putO_len (x : Int) (n : Nat) (s : List UInt8 × Nat) : (putO x n s).2 ≤ s.2 + n := by
 unfold putO
 split
 · omega
 · rw [putS_len]; exact Nat.le_refl _

set_option maxRecDepth 20000 in
set_option maxHeartbeats 4000000 in
theorem put_calls (g : Nat) (s0 : List UInt8 × Nat) (x : Int) (n : Nat) (w : World) (hn : n ≤ 56) (hN : s0.2 + n ≤ 10000) (h : WR w g s0.1 s0.2) :
 Calls Tryz.prog 83 #[.pointer (some ⟨g, 0, none⟩), .int .i64 x, .int .i64 n] w fun e w' => (∃ r, e = .returned (.int .i64 r)) ∧ WR w' g (putO x n s0).1 (putO x n s0).2 ∧ Below g w w' := by
 have hnz : (0 : Int) ≤ n := by omega
 have hn56 : (n : Int) ≤ 56 := by omega
 have hn0 : ¬ (n : Int) < 0 := by omega
 have HW := hid h
 have HN := hid hN
 have HN56 := hid hn
 clear h hN
 obtain ⟨fin, hfin⟩ : ∃ fin, putO x n s0 = fin := ⟨_, rfl⟩
 rw [hfin]
 have HP := hid hfin
 clear hfin
 go_enter Tryz.func83, Tryz.ntmps83
 by_cases hx : x < 0
 · have HQ := hid (show s0 = fin by rw [← HP.out, putO, if_pos (Or.inl hx)])
   go_wp2_with fail
   go_ret
   exact ⟨⟨_, rfl⟩, HQ.out ▸ HW.out, Below.refl _ _⟩
 · have hx0 : 0 ≤ x := by omega
   by_cases hf : 0 < x / 2 ^ n
   · have HQ := hid (show s0 = fin by rw [← HP.out, putO, if_pos (Or.inr hf)])
     go_wp2_with fail
     go_ret
     exact ⟨⟨_, rfl⟩, HQ.out ▸ HW.out, Below.refl _ _⟩
   · have HQ := hid (show putS x n s0 = fin by rw [← HP.out, putO, if_neg (fun e => e.elim hx hf)])
     clear HP
     go_wp2_with fail
     clear hf
     go_loopg [8] n (fun gg s8 wr => ∃ (k : Nat) (s : List UInt8 × Nat), k ≤ gg ∧ k ≤ n ∧ s8 = .int .i64 ((k : Int) - 1) ∧ Aside (putS x k s = fin) ∧ Aside (s.2 + k = s0.2 + n) ∧ Aside (WR wr g s.1 s.2) ∧ Aside (Below g w wr))
     case atStart => exact ⟨n, s0, by omega, by omega, rfl, HQ.out, rfl, HW.out, Below.refl _ _⟩
     case round =>
      clear HQ HW
      obtain ⟨k, s, hkg, hkn, rfl, E, L, W, B⟩ := hrel
      cases k with
      | zero =>
       have HE := hid (show s = fin from E.out)
       clear E
       go_wp2_with fail
       go_ret
       exact ⟨⟨_, rfl⟩, HE.out ▸ W.out, B.out⟩
      | succ j =>
       rw [show (((j + 1 : Nat) : Int) - 1) = j by omega]
       have hj0 : (0 : Int) ≤ j := by omega
       have hj56 : (j : Int) < 56 := by have := HN56.out; omega
       have hjw : (j : Int) - 1 ≤ 56 := by omega
       have co := one_calls g s.1 s.2 (bits .and .i64 (x / 2 ^ j) 1) wr (by have := L.out; have := HN.out; omega) W.out
       go_wp2_with fail
       refine co.mono ?_
       rintro e w2 ⟨rfl, W2, B2⟩
       have B3 := hid (B.out.trans B2)
       have W3 := hid W2
       have E3 := hid (show putS x j (oneO s.1 s.2 (bits .and .i64 (x / 2 ^ j) 1), s.2 + 1) = fin from E.out)
       have L3 := hid (show s.2 + 1 + j = s0.2 + n by have := L.out; omega)
       clear co B2 W2 E L W B
       generalize oneO s.1 s.2 (bits .and .i64 (x / 2 ^ j) 1) = o2 at *
       go_wp2_with fail
       go_roundg j
       case measure => omega
       case rel => exact ⟨j, (o2, s.2 + 1), by omega, by omega, by go_num, E3.out, L3.out, W3.out, B3.out⟩

set_option maxRecDepth 20000 in
theorem bytesW_calls (g : Nat) (o : List UInt8) (n : Nat) (w : World) (hn : 0 < o.length) (h : WR w g o n) :
 Calls Tryz.prog 85 #[.pointer (some ⟨g, 0, none⟩)] w fun e w' => e = .returned (.string (str o)) ∧ Below w.heap.size w w' := by
 obtain ⟨⟨v, hB, hO⟩, hl⟩ := h
 have c0 : w.cell? ⟨g, 0, none⟩ = some v := by rw [blk_cell hB]; rfl
 have hc := conv_owns hO hn
 clear hB hO hl
 go_enter Tryz.func85, Tryz.ntmps85
 go_wp2_with fail
 go_ret
 exact ⟨rfl, Below.refl _ _⟩
end Go.Proofs.YtiigipnfnfpepaaGreatDoor
namespace Go.Proofs.YtiigipnfnfpepaaGreatDoor
open Go.RowKit

def Given (n : Int) (s : Shp) : Prop := ∀ b, b < 8 → sumA (s.ys.getD b []) = (gpL s.sd n).getD b 0

theorem shp_yrange {w : World} {g : Nat} {t : TypeId} {s : Shp} (hb : Blk w g t (shV s)) (h : SOk s) : w.rangeAt g 8 (ints s.ys.flatten).toList := fun j v hj => by
 rw [show (ints s.ys.flatten).toList = s.ys.flatten.map (Value.int .i64) from rfl] at hj
 have hj2 := (List.getElem?_eq_some_iff.1 hj).1
 rw [blk_cell hb, ints_get, ← hj, List.getElem?_map, Shp.flat, List.getElem?_append_right (by rw [h.sl]; omega), h.sl, Nat.add_sub_cancel_left]

set_option maxRecDepth 20000 in
set_option maxHeartbeats 4000000 in
theorem pRight_calls (s : Shp) (size : Nat) (w : World) (h : SK s) (h0 : 12 ≤ size) (h1 : size ≤ 24) (hG : Given (8 * (size : Int) - 64) s) :
 Calls Tryz.prog 82 #[.agg (shV s), .int .i64 size] w fun e w' => e = .returned (.bool true) ∧ Below w.heap.size w w' := by
 obtain ⟨n, hn⟩ : ∃ n : Int, n = 8 * (size : Int) - 64 := ⟨_, rfl⟩
 have hnz : (n == 0) = false := by simp; omega
 have cg := fun W => gBits_calls size W h0 h1
 rw [← hn] at cg hG
 have s1 : Blk (w.alloc (.cells (shV s) 47)) w.heap.size 47 (shV s) := blk_new w 47 (shV s)
 have b1 : Below w.heap.size w (w.alloc (.cells (shV s) 47)) := (Below.refl w.heap.size w).alloc (Nat.le_refl _) _
 have cr := fun W => right_calls s.sd W h.ok.sl (fun z hz => by have := h.ok.s15 z hz; omega)
 rw [sk_right h] at cr
 have cp := fun W => gpulses_calls s.sd n W h.ok.sl h.ok.s15 (by omega) (by omega)
 have hkl : (gpL s.sd n).length = 8 := (gpL_keeps s.sd (b := n) (by omega)).1.len
 have HG := hid hG
 have HSS := hid (side_size h.ok.sl)
 have HYY := hid (fun b (hb : b < 8) => shp_ylen h.ok hb)
 have HYS := hid (fun b (hb : b < 8) => getD_all h.sum (i := b) (by rw [h.ok.yl]; exact hb) [])
 have hfl : s.ys.flatten.length = 32 := by rw [row_len h.ok.y4, h.ok.yl]
 have HOK := hid h
 have S1 := hid s1
 have B1 := hid b1
 have HYZ := hid (show (Tryz.prog.info? 45).map (·.size) = some (ints s.ys.flatten).toList.length by rw [Array.length_toList, ints_size, hfl]; kernel_rfl)
 have HKZ := hid (show (Tryz.prog.info? 41).map (·.size) = some (ints (gpL s.sd n)).size by rw [ints_size, hkl]; kernel_rfl)
 have HKW := hid (show (ints (gpL s.sd n)).size = (#[Value.int .i64 0, .int .i64 0, .int .i64 0, .int .i64 0, .int .i64 0, .int .i64 0, .int .i64 0, .int .i64 0] : Array Value).size by rw [ints_size, hkl]; rfl)
 have HXR := hid (fun (i : Nat) (hi : i < 8) (W : World) => run_index_row (P := Tryz.prog) (t := 45) (e := 44) (sz := 4) Tryz.underlying45 Tryz.underlying44 rfl (by kernel_rfl) (ints s.ys.flatten) i hi W)
 have HFE : Hid (∀ i, i < 8 → (ints s.ys.flatten).extract (i * 4) (i * 4 + 4) = ints (s.ys.getD i [])) := hid (fun i hi => by
  have hl := HYY.out i hi
  have hyl := HOK.out.ok.yl
  apply Array.ext_getElem?
  intro j
  by_cases hj : j < 4
  · rw [Array.getElem?_extract, if_pos (by rw [ints_size, hfl]; omega), ints_get, row_at HOK.out.ok.y4 i j (by omega) hj, ints_get, List.getD_eq_getElem?_getD (l := s.ys.getD i []), List.getElem?_eq_getElem (by omega)]
    rfl
  · rw [Array.getElem?_eq_none (by rw [Array.size_extract, ints_size, hfl]; omega), Array.getElem?_eq_none (by rw [ints_size, hl]; omega)])
 have HKL := hid hkl
 clear hn hG h s1 b1 hkl hfl h0 h1
 go_enter Tryz.func82, Tryz.ntmps82
 go_wp2_with fail
 refine (cg _).mono ?_
 rintro e w1 ⟨rfl, rfl⟩
 have D1 := hid (shp_sides S1.out HOK.out.ok)
 go_wp2_with (first | (refine wpList_load_midG (by rfl) 42 _ rfl w.heap.size 0 rfl _ _ D1.out Tryz.underlying42 rfl HSS.out ?_))
 refine (cr _).mono ?_
 rintro e w2 ⟨rfl, B2⟩
 have S2 := hid (blk_below S1.out B2 (blk_lt S1.out))
 have BB2 := hid (bnext B1.out B2)
 clear cg cr B2
 have D2 := hid (shp_sides S2.out HOK.out.ok)
 go_wp2_with (first | (refine wpList_load_midG (by rfl) 42 _ rfl w.heap.size 0 rfl _ _ D2.out Tryz.underlying42 rfl HSS.out ?_))
 refine (cp _).mono ?_
 rintro e w3 ⟨rfl, B3⟩
 have S3 := hid (blk_alloc (blk_below S2.out B3 (blk_lt S2.out)) (.cells #[Value.int .i64 0, .int .i64 0, .int .i64 0, .int .i64 0, .int .i64 0, .int .i64 0, .int .i64 0, .int .i64 0] 41))
 have bb3 := bnext BB2.out B3
 have BB3 := hid (bb3.alloc bb3.size (.cells #[Value.int .i64 0, .int .i64 0, .int .i64 0, .int .i64 0, .int .i64 0, .int .i64 0, .int .i64 0, .int .i64 0] 41))
 have HGL := hid (Nat.lt_of_lt_of_le (blk_lt S2.out) B3.size)
 clear cp B3 bb3 D1 D2 S1 S2 B1 BB2
 go_wp2_with (first | (refine wpList_store_blk rfl 41 _ _ rfl w3.heap.size 41 #[Value.int .i64 0, .int .i64 0, .int .i64 0, .int .i64 0, .int .i64 0, .int .i64 0, .int .i64 0, .int .i64 0] (ints (gpL s.sd n)) rfl rfl (blk_new w3 _ _) HKW.out HKZ.out (ints_one _) ?_; intro w4 n0 n1; have K4 := hid n0; have Y4 := hid (shp_yrange (blk_grown S3.out n1 (fun e => by injection e with e; have := HGL.out; omega)) HOK.out.ok); have BB4 := hid (below_grown BB3.out n1 BB3.out.size (Nat.le_of_lt HGL.out)); clear n0 n1) | (refine wpList_load_midG (by rfl) 45 _ rfl w.heap.size 8 rfl _ _ Y4.out Tryz.underlying45 rfl HYZ.out ?_))
 generalize w3.heap.size = gq at *
 go_loopg [29] 8 (fun gg s29 wr => ∃ k : Nat, k ≤ 8 ∧ 8 - k ≤ gg ∧ s29 = .int .i64 k ∧ Aside (Below w.heap.size w wr) ∧ Aside (Blk wr gq 41 (ints (gpL s.sd n))))
 case atStart => exact ⟨0, by omega, by omega, rfl, BB4.out, K4.out⟩
 case round =>
  clear S3 BB3 K4 Y4 BB4
  obtain ⟨k, hk, hkg, rfl, B, KK⟩ := hrel
  by_cases hlt : k < 8
  · have hkz : (k : Int) < 8 := by omega
    have hk0 : (0 : Int) ≤ k := by omega
    have hx := fun W => HXR.out k hlt W
    rw [HFE.out k hlt] at hx
    have hyl := HYY.out k hlt
    have hys := HYS.out k hlt
    have hgv := HG.out k hlt
    obtain ⟨y, hy⟩ : ∃ y, s.ys.getD k [] = y := ⟨_, rfl⟩
    rw [hy] at hx hyl hys hgv
    clear hy
    have HYZ1 := hid (show (Tryz.prog.info? 44).map (·.size) = some (ints y).size by rw [ints_size, hyl]; kernel_rfl)
    have HYW := hid (show (ints y).size = (#[Value.int .i64 0, .int .i64 0, .int .i64 0, .int .i64 0] : Array Value).size by rw [ints_size, hyl]; rfl)
    have HYL := hid hyl
    have HPS := hid (pulsesI_sum hyl hys)
    have HGV := hid hgv
    have KK1 := hid (blk_alloc KK.out (.cells #[Value.int .i64 0, .int .i64 0, .int .i64 0, .int .i64 0] 44))
    have B1 := hid (B.out.alloc B.out.size (.cells #[Value.int .i64 0, .int .i64 0, .int .i64 0, .int .i64 0] 44))
    have HGK := hid (blk_lt KK.out)
    clear hyl hys hgv KK
    go_wp2_with (first | (refine wpList_store_blk rfl 44 _ _ rfl wr.heap.size 44 #[Value.int .i64 0, .int .i64 0, .int .i64 0, .int .i64 0] (ints y) rfl rfl (blk_new wr _ _) HYW.out HYZ1.out (ints_one _) ?_; intro w5 n0 n1; have Z5 := hid n0; have K5 := hid (blk_grown KK1.out n1 (fun e => by injection e with e; have := HGK.out; omega)); have B5 := hid (below_grown B1.out n1 B1.out.size B.out.size); clear n0 n1))
    generalize wr.heap.size = gy at *
    have k5 : w5.drew.cell? ⟨gq, k, none⟩ = some (.int .i64 (sumA y)) := by
     have := blk_int (blk_drew K5.out) (i := k) (by rw [HKL.out]; exact hlt)
     rw [HGV.out]; exact this
    have cq := pulses_calls y gy 4 w5.drew (by rw [HYL.out]; decide) (row_blk (blk_drew Z5.out))
    rw [HYL.out, HPS.out] at cq
    generalize sumA y = sm at *
    clear hx
    refine plain_region (S := (fun L W => W.cell? ⟨gq, k, none⟩ = some (.int .i64 sm))) (by kernel_rfl) (k5) (fun hHeld => ?_)
    clear hHeld
    refine aW 0 k5 ?_
    refine aW 2 k5 ?_
    refine aW 3 k5 ?_
    refine aL 4 5 (fun _ _ _ k => k) k5 ?_
    refine aR 1 (fun K hK => ?_)
    go_simp
    refine cq.mono ?_
    rintro e w6 ⟨rfl, rfl⟩
    refine hK.out _ _ (k5) (fun hHeld => ?_)
    clear hK K
    try simp only [Act.put, tA, tB, tC]
    clear hHeld
    refine aW 5 k5 ?_
    refine anyU_done (by kernel_rfl) ?_ _
    clear k5 cq
    have hne : (sm != sm) = false := by simp
    go_wp2_with fail
    go_roundg (8 - (k + 1))
    case measure => omega
    case rel => exact ⟨k + 1, by omega, by omega, by go_num, below_draws B5.out 1, blk_drew K5.out⟩
  · obtain rfl : k = 8 := by omega
    go_wp2_with fail
    go_ret
    exact ⟨rfl, B.out⟩
end Go.Proofs.YtiigipnfnfpepaaGreatDoor
namespace Go.Proofs.YtiigipnfnfpepaaGreatDoor
open Go.RowKit

abbrev Bits := List UInt8 × Nat
def sidesW (sd : List Int) (k : Nat) (st : Bits) : Bits := (List.range k).foldl (fun st b => putO (sd.getD b 0) 4 st) st
theorem sidesW_succ (sd : List Int) (k : Nat) (st : Bits) : sidesW sd (k + 1) st = putO (sd.getD k 0) 4 (sidesW sd k st) := by
 simp [sidesW, List.range_succ]
def pulsW (ys : List (List Int)) (k : Nat) (st : Bits) : Bits := (List.range k).foldl (fun st b => putO (indexI (ys.getD b [])) (bitsK (sumA (ys.getD b [])).toNat) st) st
theorem pulsW_succ (ys : List (List Int)) (k : Nat) (st : Bits) : pulsW ys (k + 1) st = putO (indexI (ys.getD k [])) (bitsK (sumA (ys.getD k [])).toNat) (pulsW ys k st) := by
 simp [pulsW, List.range_succ]
def numW (n : Nat) : Bits := putO (n : Int) 16 ([], 0)
def layW (n : Nat) (s : Shp) : Bits := pulsW s.ys 8 (sidesW s.sd 8 (numW n))
def layL (n : Nat) (s : Shp) (size : Nat) : List UInt8 := sealL ((layW n s).1 ++ List.replicate (size - 2 - (layW n s).1.length) 0)
theorem putO_ge (x : Int) (n : Nat) (s : Bits) : s.2 ≤ (putO x n s).2 := by
 unfold putO
 split
 · exact Nat.le_refl _
 · rw [putS_len]; omega
theorem sidesW_len (sd : List Int) (k : Nat) (st : Bits) : st.2 ≤ (sidesW sd k st).2 ∧ (sidesW sd k st).2 ≤ st.2 + 4 * k := by
 induction k with
 | zero => exact ⟨Nat.le_refl _, by simp [sidesW]⟩
 | succ k ih =>
  rw [sidesW_succ]
  have := putO_ge (sd.getD k 0) 4 (sidesW sd k st)
  have := putO_len (sd.getD k 0) 4 (sidesW sd k st)
  omega
def bitsTo (ys : List (List Int)) (k : Nat) : Nat := ((List.range k).map fun b => bitsK (sumA (ys.getD b [])).toNat).sum
theorem pulsW_len (ys : List (List Int)) (k : Nat) (st : Bits) : st.2 ≤ (pulsW ys k st).2 ∧ (pulsW ys k st).2 ≤ st.2 + bitsTo ys k := by
 induction k with
 | zero => exact ⟨Nat.le_refl _, by simp [pulsW, bitsTo]⟩
 | succ k ih =>
  rw [pulsW_succ]
  have := putO_ge (indexI (ys.getD k [])) (bitsK (sumA (ys.getD k [])).toNat) (pulsW ys k st)
  have := putO_len (indexI (ys.getD k [])) (bitsK (sumA (ys.getD k [])).toNat) (pulsW ys k st)
  have e : bitsTo ys (k + 1) = bitsTo ys k + bitsK (sumA (ys.getD k [])).toNat := by simp [bitsTo, List.range_succ]
  omega
theorem numW_len {n : Nat} (hn : n ≤ 65535) : (numW n).2 = 16 := by
 rw [numW, putO, if_neg, putS_len]
 intro h
 rcases h with h | h
 · omega
 · omega
theorem costL_get {k : Nat} (hk : k ≤ 12) : costL.getD k 0 = (bitsK k : Int) := by
 rw [costL, List.getD_eq_getElem?_getD, List.getElem?_map, List.getElem?_range (by omega)]; rfl
theorem cost_given {n : Int} {s : Shp} (h : SK s) (hG : Given n s) (hn : 0 ≤ n) : (bitsTo s.ys 8 : Int) ≤ n := by
 have hk := gpL_keeps s.sd hn
 obtain ⟨a, b, c, d, e, f, g, i, hl⟩ := list8 hk.1.len
 have ha := hk.1.all
 have hc := hk.2
 have G : ∀ j, j < 8 → (bitsK (sumA (s.ys.getD j [])).toNat : Int) = costL.getD ((gpL s.sd n).getD j 0).toNat 0 := fun j hj => by
  rw [← hG j hj, costL_get]
  have := getD_all h.sum (i := j) (by rw [h.ok.yl]; exact hj) []
  omega
 have h8 : ((List.range 8).map fun b => bitsK (sumA (s.ys.getD b [])).toNat) = [bitsK (sumA (s.ys.getD 0 [])).toNat, bitsK (sumA (s.ys.getD 1 [])).toNat, bitsK (sumA (s.ys.getD 2 [])).toNat, bitsK (sumA (s.ys.getD 3 [])).toNat, bitsK (sumA (s.ys.getD 4 [])).toNat, bitsK (sumA (s.ys.getD 5 [])).toNat, bitsK (sumA (s.ys.getD 6 [])).toNat, bitsK (sumA (s.ys.getD 7 [])).toNat] := rfl
 rw [bitsTo, h8]
 have g0 := G 0 (by omega)
 have g1 := G 1 (by omega)
 have g2 := G 2 (by omega)
 have g3 := G 3 (by omega)
 have g4 := G 4 (by omega)
 have g5 := G 5 (by omega)
 have g6 := G 6 (by omega)
 have g7 := G 7 (by omega)
 rw [hl] at g0 g1 g2 g3 g4 g5 g6 g7 hc
 simp only [costS, List.map_cons, List.map_nil, List.sum_cons, List.sum_nil] at hc
 simp only [List.getD_cons_zero, List.getD_cons_succ] at g0 g1 g2 g3 g4 g5 g6 g7
 simp only [List.sum_cons, List.sum_nil]
 omega
theorem layW_len {n : Nat} {s : Shp} {size : Nat} (h : SK s) (hG : Given (8 * (size : Int) - 64) s) (hn : n ≤ 65535) (h0 : 12 ≤ size) : 16 ≤ (layW n s).2 ∧ (layW n s).2 ≤ 8 * (size - 2) := by
 have h1 := numW_len hn
 have h2 := sidesW_len s.sd 8 (numW n)
 have h3 := pulsW_len s.ys 8 (sidesW s.sd 8 (numW n))
 have h4 := cost_given h hG (by omega)
 unfold layW
 omega
end Go.Proofs.YtiigipnfnfpepaaGreatDoor
namespace Go.Proofs.YtiigipnfnfpepaaGreatDoor
open Go.RowKit

theorem pk_yrange {w : World} {g : Nat} {t : TypeId} {n : Nat} {s : Shp} (hb : Blk w g t (pkV n s)) (h : SOk s) : w.rangeAt g 9 (ints s.ys.flatten).toList := fun j v hj => by
 rw [show (ints s.ys.flatten).toList = s.ys.flatten.map (Value.int .i64) from rfl] at hj
 rw [blk_cell hb, ints_get, show 9 + j = 8 + j + 1 by omega, List.getElem?_cons_succ, ← hj, List.getElem?_map, Shp.flat, List.getElem?_append_right (by rw [h.sl]; omega), h.sl, Nat.add_sub_cancel_left]

theorem bitsTo_le {s : Shp} (h : SK s) : ∀ {k : Nat}, k ≤ 8 → bitsTo s.ys k ≤ k * 30
 | 0, _ => by simp [bitsTo]
 | k + 1, hk => by
  have e : bitsTo s.ys (k + 1) = bitsTo s.ys k + bitsK (sumA (s.ys.getD k [])).toNat := by simp [bitsTo, List.range_succ]
  have ih := bitsTo_le h (k := k) (by omega)
  have hs := getD_all h.sum (i := k) (by rw [h.ok.yl]; omega) []
  have := (bitsK_all (sumA (s.ys.getD k [])).toNat (by omega)).1
  omega

set_option maxRecDepth 20000 in
set_option maxHeartbeats 4000000 in
theorem pLay_calls (n : Nat) (s : Shp) (size : Nat) (w : World) (hn : n ≤ 5000) (h : SK s) (h0 : 12 ≤ size) (h1 : size ≤ 24) (hG : Given (8 * (size : Int) - 64) s) :
 Calls Tryz.prog 46 #[.agg (pkV n s), .int .i64 size] w fun e w' => e = .returned (.tuple #[.string (str (layL n s size)), .int .i64 0]) ∧ Below w.heap.size w w' := by
 have hlen := layW_len (n := n) h hG (by omega) h0
 have cr := fun W => pRight_calls s size W h h0 h1 hG
 have cg := fun W => gBits_calls size W h0 h1
 obtain ⟨z, hz⟩ : ∃ z : Int, z = 8 * (size : Int) - 64 := ⟨_, rfl⟩
 have hnz : (z == 0) = false := by simp; omega
 rw [← hz] at cg hG
 have p1 := blk_new w 49 (pkV n s)
 have n1 := pk_num p1
 have hn0 : (0 : Int) ≤ n := by omega
 have hn1 : (n : Int) ≤ 5000 := by omega
 have PS := hid (pk_shape p1)
 have P1 := hid p1
 have B1 := hid ((Below.refl w.heap.size w).alloc (Nat.le_refl _) (.cells (pkV n s) 49))
 have HSL := hid (show (Tryz.prog.info? 47).map (·.size) = some (shV s).toList.length by rw [Array.length_toList]; exact shp_size h.ok)
 have HOK := hid h
 have HLEN := hid hlen
 have HSZ := hid (And.intro h0 h1)
 clear p1 hz hG hn h0 h1 hlen h
 go_enter Tryz.func46, Tryz.ntmps46
 go_wp2_with fail
 generalize w.alloc (.cells (pkV n s) 49) = w1 at *
 refine (cg _).mono ?_
 rintro e w0 ⟨rfl, rfl⟩
 go_wp2_with (first | (refine wpList_load_mid rfl 47 _ rfl w.heap.size 1 rfl _ _ PS.out Tryz.underlying47 rfl HSL.out ?_))
 refine (cr _).mono ?_
 rintro e w2 ⟨rfl, B2⟩
 have P2 := hid (blk_below P1.out B2 (blk_lt P1.out))
 have BB2 := hid (bnext B1.out B2)
 clear cg cr B2 P1 B1 PS n1
 have W3 : Hid (WR (w2.alloc (.cells #[.slice none 0 0, .int .i64 0] 146)) w2.heap.size [] 0) := hid ⟨⟨.slice none 0 0, blk_new w2 _ _, rfl, .inl ⟨rfl, rfl⟩⟩, rfl⟩
 have P3 := hid (blk_alloc P2.out (.cells #[.slice none 0 0, .int .i64 0] 146))
 have B3 := hid (BB2.out.alloc BB2.out.size (.cells #[.slice none 0 0, .int .i64 0] 146))
 have HG := hid (blk_lt P2.out)
 clear P2 BB2
 go_upto_region 9 with fail
 generalize w2.alloc (.cells #[.slice none 0 0, .int .i64 0] 146) = w3 at *
 generalize w2.heap.size = g1 at *
 have n3 := pk_num P3.out
 have c3 := put_calls g1 ([], 0) n 16 w3 (by decide) (by simp) W3.out
 rw [show putO (n : Int) 16 ([], 0) = numW n from rfl] at c3
 go_wp2_with fail
 refine c3.mono ?_
 rintro e w4 ⟨⟨r4, rfl⟩, W4', B4'⟩
 have P4 := hid (blk_below P3.out B4' HG.out)
 have B4 := hid (B3.out.trans (B4'.mono (Nat.le_of_lt HG.out)))
 have W4 := hid W4'
 clear c3 W4' B4' P3 B3 W3 n3
 have D4 : Hid (w4.rangeAt w.heap.size 1 (ints s.sd).toList) := hid (pk_sides P4.out HOK.out.ok)
 have HSS : Hid ((Tryz.prog.info? 42).map (·.size) = some (ints s.sd).toList.length) := hid (side_size HOK.out.ok.sl)
 obtain ⟨infI, hinI, hzI, hsI, hbI⟩ := info_parts (P := Tryz.prog) (e := 3) (z := .int .i64 0) (size := 1) (bytes := 8) (by kernel_rfl)
 have HX := hid (fun (i : Nat) (h : i < 8) (W : World) => run_index_any (P := Tryz.prog) (t := 42) (e := 3) Tryz.underlying42 (by kernel_rfl) hinI hsI (ints s.sd) (.int .i64 (s.sd.getD i 0)) i (by rw [ints_get, List.getD_eq_getElem?_getD, List.getElem?_eq_getElem (by rw [HOK.out.ok.sl]; exact h)]; rfl) h W)
 clear hinI hzI hsI hbI
 go_wp2_with (first | (refine wpList_load_mid rfl 42 _ rfl w.heap.size 1 rfl _ _ D4.out Tryz.underlying42 rfl HSS.out ?_))
 go_loopg [45] 8 (fun gg s45 wr => ∃ k : Nat, k ≤ 8 ∧ 8 - k ≤ gg ∧ s45 = .int .i64 k ∧ Aside (Below w.heap.size w wr) ∧ Aside (Blk wr w.heap.size 49 (pkV n s)) ∧ Aside (WR wr g1 (sidesW s.sd k (numW n)).1 (sidesW s.sd k (numW n)).2))
 case atStart => exact ⟨0, by omega, by omega, rfl, B4.out, P4.out, W4.out⟩
 case round =>
  clear B4 P4 W4 D4
  obtain ⟨k, hk, hkg, rfl, B, PP, WW⟩ := hrel
  by_cases hlt : k < 8
  · have hkz : (k : Int) < 8 := by omega
    have hk0 : (0 : Int) ≤ k := by omega
    have hx := fun W => HX.out k hlt W
    have cp := put_calls g1 (sidesW s.sd k (numW n)) (s.sd.getD k 0) 4 wr (by decide) (by have := sidesW_len s.sd k (numW n); have := numW_len (n := n) (by omega); omega) WW.out
    rw [← sidesW_succ] at cp
    generalize s.sd.getD k 0 = x at *
    obtain ⟨st, hst⟩ : ∃ st, st = sidesW s.sd (k + 1) (numW n) := ⟨_, rfl⟩
    rw [← hst] at cp
    have HST := hid hst
    clear hst
    go_wp2_with fail
    refine cp.mono ?_
    rintro e w5 ⟨⟨r5, rfl⟩, W5', B5'⟩
    have P5 := hid (blk_below PP.out B5' HG.out)
    have B5 := hid (B.out.trans (B5'.mono (Nat.le_of_lt HG.out)))
    have W5 := hid W5'
    clear cp W5' B5' B PP WW hx
    go_wp2_with fail
    go_roundg (8 - (k + 1))
    case measure => omega
    case rel => exact ⟨k + 1, by omega, by omega, by go_num, B5.out, P5.out, HST.out ▸ W5.out⟩
  · obtain rfl : k = 8 := by omega
    have Y4 := hid (pk_yrange PP.out HOK.out.ok)
    have hfl : s.ys.flatten.length = 32 := by rw [row_len HOK.out.ok.y4, HOK.out.ok.yl]
    have HYZ := hid (show (Tryz.prog.info? 45).map (·.size) = some (ints s.ys.flatten).toList.length by rw [Array.length_toList, ints_size, hfl]; kernel_rfl)
    have HXR := hid (fun (i : Nat) (hi : i < 8) (W : World) => run_index_row (P := Tryz.prog) (t := 45) (e := 44) (sz := 4) Tryz.underlying45 Tryz.underlying44 rfl (by kernel_rfl) (ints s.ys.flatten) i hi W)
    have HFE : Hid (∀ i, i < 8 → (ints s.ys.flatten).extract (i * 4) (i * 4 + 4) = ints (s.ys.getD i [])) := hid (fun i hi => by
     have hl := shp_ylen HOK.out.ok hi
     have hyl := HOK.out.ok.yl
     apply Array.ext_getElem?
     intro j
     by_cases hj : j < 4
     · rw [Array.getElem?_extract, if_pos (by rw [ints_size, hfl]; omega), ints_get, row_at HOK.out.ok.y4 i j (by omega) hj, ints_get, List.getD_eq_getElem?_getD (l := s.ys.getD i []), List.getElem?_eq_getElem (by omega)]
       rfl
     · rw [Array.getElem?_eq_none (by rw [Array.size_extract, ints_size, hfl]; omega), Array.getElem?_eq_none (by rw [ints_size, hl]; omega)])
    have HS8 := hid (show (sidesW s.sd 8 (numW n)).2 ≤ 48 by have := sidesW_len s.sd 8 (numW n); have := numW_len (n := n) (by omega); omega)
    have HLW := hid (show layW n s = pulsW s.ys 8 (sidesW s.sd 8 (numW n)) from rfl)
    clear hfl HX HSS
    generalize sidesW s.sd 8 (numW n) = st8 at *
    go_wp2_with (first | (refine wpList_load_mid rfl 45 _ rfl w.heap.size 9 rfl _ _ Y4.out Tryz.underlying45 rfl HYZ.out ?_))
    clear PP Y4
    go_loopg [55] 8 (fun gg s55 wr => ∃ k : Nat, k ≤ 8 ∧ 8 - k ≤ gg ∧ s55 = .int .i64 k ∧ Aside (Below w.heap.size w wr) ∧ Aside (WR wr g1 (pulsW s.ys k st8).1 (pulsW s.ys k st8).2))
    case atStart => exact ⟨0, by omega, by omega, rfl, B.out, WW.out⟩
    case round =>
     clear B WW
     obtain ⟨k, hk, hkg, rfl, B, WW⟩ := hrel
     by_cases hlt : k < 8
     · have hkz : (k : Int) < 8 := by omega
       have hk0 : (0 : Int) ≤ k := by omega
       have hx := fun W => HXR.out k hlt W
       rw [HFE.out k hlt] at hx
       have hyl := shp_ylen HOK.out.ok hlt
       have hys := getD_all HOK.out.sum (i := k) (by rw [HOK.out.ok.yl]; exact hlt) []
       obtain ⟨st, hst⟩ : ∃ st, st = pulsW s.ys (k + 1) st8 := ⟨_, rfl⟩
       have hsu := pulsW_succ s.ys k st8
       rw [← hst] at hsu
       obtain ⟨y, hy⟩ : ∃ y, s.ys.getD k [] = y := ⟨_, rfl⟩
       rw [hy] at hx hyl hys hsu
       clear hy
       obtain ⟨m, hm⟩ : ∃ m : Nat, sumA y = m := ⟨(sumA y).toNat, by have := (sumA_ge y 0).2; omega⟩
       rw [hm, Int.toNat_natCast] at hsu
       have hps := pulsesI_sum hyl hys
       rw [hm] at hps hys
       have hm12 : m ≤ 12 := by omega
       have hbm := (bitsK_all m (by omega)).1
       have HYZ1 := hid (show (Tryz.prog.info? 44).map (·.size) = some (ints y).size by rw [ints_size, hyl]; kernel_rfl)
       have HYW := hid (show (ints y).size = (#[Value.int .i64 0, .int .i64 0, .int .i64 0, .int .i64 0] : Array Value).size by rw [ints_size, hyl]; rfl)
       have HYL := hid hyl
       have HPS := hid hps
       have HST := hid hst
       have HSU := hid hsu
       have HM := hid hm12
       have B1 := hid (B.out.alloc B.out.size (.cells #[Value.int .i64 0, .int .i64 0, .int .i64 0, .int .i64 0] 44))
       have E1 := hid ((Below.refl wr.heap.size wr).alloc (Nat.le_refl _) (.cells #[Value.int .i64 0, .int .i64 0, .int .i64 0, .int .i64 0] 44))
       clear hyl hys hst hsu hm hps hm12
       go_wp2_with (first | (refine wpList_store_blk rfl 44 _ _ rfl wr.heap.size 44 #[Value.int .i64 0, .int .i64 0, .int .i64 0, .int .i64 0] (ints y) rfl rfl (blk_new wr _ _) HYW.out HYZ1.out (ints_one _) ?_; intro w6 n0 n1; have Z6 := hid n0; have B6 := hid (below_grown B1.out n1 B1.out.size B.out.size); have W6 := hid (wr_below WW.out (below_grown E1.out n1 E1.out.size (Nat.le_refl _))); clear n0 n1))
       generalize wr.heap.size = gy at *
       clear hx
       have cix := index_calls y gy 4 w6 (by rw [HYL.out]; decide) (blk_lt Z6.out) (by rw [HPS.out]; have := HM.out; omega) (row_blk Z6.out)
       rw [HYL.out] at cix
       refine cix.mono ?_
       rintro e w7 ⟨rfl, B7'⟩
       have Z7 := hid (blk_below Z6.out B7' (blk_lt Z6.out))
       have W7 := hid (wr_below W6.out B7')
       have B7 := hid (bnext B6.out B7')
       clear cix B7' Z6 W6 B6 B1 E1
       have cpu := pulses_calls y gy 4 w7 (by rw [HYL.out]; decide) (row_blk Z7.out)
       rw [HYL.out, HPS.out] at cpu
       go_wp2_with fail
       refine cpu.mono ?_
       rintro e w8 ⟨rfl, rfl⟩
       have cb := pvqBits_calls m w7 HM.out
       go_wp2_with fail
       refine cb.mono ?_
       rintro e w8 ⟨rfl, B8'⟩
       have W8 := hid (wr_below W7.out B8')
       have B8 := hid (bnext B7.out B8')
       clear cb cpu B8' Z7 W7 B7
       have cp := put_calls g1 (pulsW s.ys k st8) (indexI y) (bitsK m) w8 (by omega) (by
        have h1 := pulsW_len s.ys k st8
        have h2 := HS8.out
        have h3 : bitsTo s.ys k ≤ k * 30 := bitsTo_le HOK.out (by omega)
        omega) W8.out
       rw [← HSU.out] at cp
       generalize indexI y = ix at *
       go_wp2_with fail
       refine cp.mono ?_
       rintro e w9 ⟨⟨r9, rfl⟩, W9', B9'⟩
       have B9 := hid (B8.out.trans (B9'.mono (Nat.le_of_lt HG.out)))
       have W9 := hid W9'
       clear cp W9' B9' B8 W8
       go_wp2_with fail
       go_roundg (8 - (k + 1))
       case measure => omega
       case rel => exact ⟨k + 1, by omega, by omega, by go_num, B9.out, HST.out ▸ W9.out⟩
     · obtain rfl : k = 8 := by omega
       have wl := WW.out.len
       have hll := HLEN.out
       have hsz := HSZ.out
       have HLY := hid (show layL n s size = sealL ((layW n s).1 ++ List.replicate (size - 2 - (layW n s).1.length) 0) from rfl)
       rw [HLW.out] at HLY hll
       generalize pulsW s.ys 8 st8 = st at *
       obtain ⟨o, N⟩ := st
       replace wl : o.length = (N + 7) / 8 := wl
       replace hll : 16 ≤ N ∧ N ≤ 8 * (size - 2) := hll
       replace HLY : Hid (layL n s size = sealL (o ++ List.replicate (size - 2 - o.length) 0)) := HLY
       obtain ⟨c, hc⟩ : ∃ c, size - 2 - o.length = c := ⟨_, rfl⟩
       rw [hc] at HLY
       have hco : o.length + c = size - 2 := by omega
       have hcw : (size : Int) - 2 - o.length = c := by omega
       have HO := hid (show 0 < o.length by omega)
       have hs12 : (12 : Int) ≤ size := by omega
       have hs24 : (size : Int) ≤ 24 := by omega
       have hol22 : (o.length : Int) ≤ 22 := by omega
       have hol0 : (0 : Int) ≤ o.length := by omega
       have HO2 := hid (show o.length + c ≤ 22 by omega)
       have WB : Hid (WR wr g1 o N) := WW
       clear WW hc wl hll HLW hsz hco
       have cb := bytesW_calls g1 o N wr HO.out WB.out
       go_wp2_with fail
       refine cb.mono ?_
       rintro e w5 ⟨rfl, B5'⟩
       have B5 := hid (bnext B.out B5')
       clear cb B5' WB B
       go_wp2_with fail
       have cr := rep_calls c w5 (by have := HO2.out; omega)
       try rw [hcw]
       refine cr.mono ?_
       rintro e w6 ⟨rfl, B6'⟩
       have B6 := hid (bnext B5.out B6')
       have cs := seal_calls (o ++ List.replicate c 0) w6 (by have := HO2.out; rw [List.length_append, List.length_replicate]; omega)
       have hrl : (List.replicate c (0 : UInt8)).length = c := List.length_replicate
       rw [str_append] at cs
       clear cr B6' B5 hcw
       obtain ⟨rz, hrz⟩ : ∃ rz : List UInt8, List.replicate c 0 = rz := ⟨_, rfl⟩
       rw [hrz] at hrl cs HLY ⊢
       clear hrz
       have hst1 := str_size o
       have hst2 := str_size rz
       have hbig : ¬ (9223372036854775807 < o.length + rz.length) := by have := HO2.out; omega
       clear hrl
       go_wp2_with fail
       refine cs.mono ?_
       rintro e w7 ⟨rfl, B7'⟩
       have B7 := hid (bnext B6.out B7')
       clear cs B7'
       go_wp2_with fail
       go_ret2
       exact ⟨by rw [HLY.out]; rfl, B7.out⟩
end Go.Proofs.YtiigipnfnfpepaaGreatDoor
