/- The keyed sum (layer 1): turns, halves of a half of a round, rounds. The keyed sum (layer 1): numbers of bytes, so many rounds. The keyed sum (layer 1): a text's sum. Keyed numbers (layer 2); whole bl -/
import Derived.Test.YtiigipnfnfpepaaGreatDoorChecked
import Derived.Test.YtiigipnfnfpepaaGreatDoorUA
import Derived.Deep.LoopGhost
import Derived.Deep.QuietTactic
import Derived.BigQuiet
import Derived.Lib.Strings
import Derived.Maps.AppendAt
import Derived.Laws.IdiomStrings
namespace Go.Proofs.YtiigipnfnfpepaaGreatDoor
open Go.RowKit

def U64 (x : Int) : Prop := 0 ≤ x ∧ x < 18446744073709551616
theorem u64_wrap (n : Int) : U64 (IntKind.u64.wrap n) := by
 have : IntKind.u64.wrap n = n % 18446744073709551616 := by simp [IntKind.wrap, IntKind.signed, IntKind.bits]
 unfold U64
 rw [this]
 omega
theorem u64_bits (op : BinOp) (a b : Int) : U64 (bits op .u64 a b) := by unfold bits; exact u64_wrap _
def turnE (x : Int) (n : Nat) : Int := bits .or .u64 (IntKind.u64.wrap (x * 2 ^ n)) (x / 2 ^ (64 - n))
theorem turnE_u64 (x : Int) (n : Nat) : U64 (turnE x n) := u64_bits _ _ _

set_option maxHeartbeats 1000000 in
theorem sipTurn_calls (x : Int) (n : Nat) (w : World) (hx : U64 x) (hn : n < 64) :
 Calls Tryz.prog 17 #[.int .u64 x, .int .i64 n] w fun e w' => e = .returned (.int .u64 (turnE x n)) ∧ ∃ k, w' = w.drewN k := by
 obtain ⟨h0, h1⟩ := hx
 have e1 : (n : Int) % 64 = n := by omega
 have e2 : ((n : Int) + 64) % 64 = n := by omega
 have e3 : (0 : Int) ≤ 64 - n := by omega
 go_enter Tryz.func17, Tryz.ntmps17
 go_wp2_with fail
 go_quiet (fail)
 go_wp2_with fail
 go_ret
 exact ⟨rfl, nq, rfl⟩

def u64s (zs : List Int) : Array Value := (zs.map (Value.int .u64)).toArray
theorem u64s_get (zs : List Int) {i : Nat} (h : i < zs.length) : (u64s zs)[i]? = some (.int .u64 (zs.getD i 0)) := by
 simp [u64s, List.getD_eq_getElem?_getD, List.getElem?_eq_getElem h]
theorem u64s_set (zs : List Int) (i : Nat) (v : Int) : (u64s zs).setIfInBounds i (.int .u64 v) = u64s (zs.set i v) := by simp [u64s, List.map_set]
theorem blk_u64 {w : World} {g : Nat} {t : TypeId} {zs : List Int} (h : Blk w g t (u64s zs)) {i : Nat} (hi : i < zs.length) : w.cell? ⟨g, i, none⟩ = some (.int .u64 (zs.getD i 0)) := by
 rw [blk_cell h, u64s_get zs hi]
theorem blk_set_u64 {w : World} {g : Nat} {t : TypeId} {zs : List Int} (h : Blk w g t (u64s zs)) (i : Nat) (v : Int) : Blk (w.setCell ⟨g, i, none⟩ (.int .u64 v)) g t (u64s (zs.set i v)) := by
 rw [← u64s_set]
 exact blk_set h i _
def AllU (zs : List Int) : Prop := ∀ i, i < zs.length → U64 (zs.getD i 0)
theorem allU_set {zs : List Int} (h : AllU zs) (i : Nat) {v : Int} (hv : U64 v) : AllU (zs.set i v) := fun j hj => by
 rw [List.length_set] at hj
 rw [List.getD_eq_getElem?_getD, List.getElem?_set]
 split
 · rw [if_pos (by omega)]
   exact hv
 · rw [← List.getD_eq_getElem?_getD]
   exact h j hj
theorem getD_set_same {zs : List Int} {i : Nat} (v : Int) (h : i < zs.length) : (zs.set i v).getD i 0 = v := by
 rw [List.getD_eq_getElem?_getD, List.getElem?_set, if_pos rfl, if_pos h]
 rfl
theorem getD_set_other {zs : List Int} {i j : Nat} (v : Int) (h : i ≠ j) : (zs.set i v).getD j 0 = zs.getD j 0 := by
 rw [List.getD_eq_getElem?_getD, List.getElem?_set, if_neg h, ← List.getD_eq_getElem?_getD]

theorem grownBy_cell (W : World) (g i : Nat) (v : Value) : W.grownBy (W.setCell ⟨g, i, none⟩ v) (some g) :=
 ⟨rfl, rfl, rfl, by simp [World.setCell], fun k _ hk => Below.heap_setCell _ _ _ k (fun e => hk (by rw [e]))⟩
theorem grown_join {A B C : World} {r : Option Nat} (h : A.grownBy B r) (k : B.grownBy C r) : A.grownBy C r :=
 ⟨k.os.trans h.os, k.tape.trans h.tape, k.output.trans h.output, Nat.le_trans h.size k.size, fun i hi hne => (k.block i (Nat.lt_of_lt_of_le hi h.size) hne).trans (h.block i hi hne)⟩
theorem grown_draws (A : World) (n : Nat) (r : Option Nat) : A.grownBy (A.drewN n) r := ⟨rfl, rfl, rfl, Nat.le_refl _, fun _ _ _ => rfl⟩

def mixL (zs : List Int) (a b n : Nat) : List Int :=
 (zs.set a (IntKind.u64.wrap (zs.getD a 0 + zs.getD b 0))).set b (bits .xor .u64 (turnE (zs.getD b 0) n) (IntKind.u64.wrap (zs.getD a 0 + zs.getD b 0)))
theorem mixL_len (zs : List Int) (a b n : Nat) : (mixL zs a b n).length = zs.length := by simp [mixL]
theorem mixL_all {zs : List Int} (h : AllU zs) (a b n : Nat) : AllU (mixL zs a b n) := allU_set (allU_set h a (u64_wrap _)) b (u64_bits _ _ _)

set_option maxHeartbeats 4000000 in
theorem mix_calls (zs : List Int) (g a b n : Nat) (w : World) (hl : zs.length = 4) (hU : AllU zs) (hb : Blk w g 166 (u64s zs)) (ha : a < 4) (hb4 : b < 4) (hab : a ≠ b) (hn : n < 64) :
 Calls Tryz.prog 139 #[.pointer (some ⟨g, 0, none⟩), .int .i64 a, .int .i64 b, .int .i64 n] w fun e w' => e = .returned (.tuple #[]) ∧ Blk w' g 166 (u64s (mixL zs a b n)) ∧ w.grownBy w' (some g) := by
 have ca := blk_u64 hb (i := a) (by omega)
 have cb := blk_u64 hb (i := b) (by omega)
 have fa := blk_free hb a
 have ub := hU b (by omega)
 have HB := hid hb
 have HL := hid hl
 have HM := hid (show mixL zs a b n = (zs.set a (IntKind.u64.wrap (zs.getD a 0 + zs.getD b 0))).set b (bits .xor .u64 (turnE (zs.getD b 0) n) (IntKind.u64.wrap (zs.getD a 0 + zs.getD b 0))) from rfl)
 have f0 : (0 : Int) ≤ a := by omega
 have f1 : (a : Int) < 4 := by omega
 have f2 : (0 : Int) ≤ b := by omega
 have f3 : (b : Int) < 4 := by omega
 clear hb hl hU
 generalize zs.getD a 0 = x at *
 generalize hy : zs.getD b 0 = y at *
 have HY := hid hy
 clear hy
 go_enter Tryz.func139, Tryz.ntmps139
 go_wp2_with fail
 refine plain_region (S := (fun L W => (L.getD 13 true = true ∨ W.cell? ⟨g, a, none⟩ = some (.int .u64 x)) ∧ (L.getD 13 true = true ∨ W.cell? ⟨g, b, none⟩ = some (.int .u64 y)))) (by kernel_rfl) (⟨Or.inr ca, Or.inr cb⟩) (fun hHeld => ?_)
 clear hHeld
 refine aW 0 ⟨Or.inr ca, Or.inr cb⟩ ?_
 refine aW 1 ⟨Or.inr ca, Or.inr cb⟩ ?_
 refine aW 2 ⟨Or.inr ca, Or.inr cb⟩ ?_
 refine aW 3 ⟨Or.inr ca, Or.inr cb⟩ ?_
 refine aL 4 13 (fun _ _ h k => rL k.1 h) ⟨Or.inr ca, Or.inr cb⟩ ?_
 refine aW 5 ⟨Or.inr ca, Or.inr cb⟩ ?_
 refine aW 6 ⟨Or.inr ca, Or.inr cb⟩ ?_
 refine aW 7 ⟨Or.inr ca, Or.inr cb⟩ ?_
 refine aW 8 ⟨Or.inr ca, Or.inr cb⟩ ?_
 refine aL 9 13 (fun _ _ h k => rL k.2 h) ⟨Or.inr ca, Or.inr cb⟩ ?_
 refine aW 10 ⟨Or.inr ca, Or.inr cb⟩ ?_
 refine aW 11 ⟨Or.inr ca, Or.inr cb⟩ ?_
 refine aW 12 ⟨Or.inr ca, Or.inr cb⟩ ?_
 refine aR 13 (fun K hK => ?_)
 go_simp
 skip
 refine hK.out _ _ (⟨Or.inl (by rfl), Or.inl (by rfl)⟩) (fun hHeld => ?_)
 clear hK K
 try simp only [Act.put, tA, tB, tC]
 clear hHeld
 refine anyU_done (by kernel_rfl) ?_ _
 clear ca cb fa
 obtain ⟨A, hA⟩ : ∃ A, A = IntKind.u64.wrap (x + y) := ⟨_, rfl⟩
 rw [← hA] at HM ⊢
 clear hA
 change Exit.then _ _ Exit.normal _ ((w.drewN 1).setCell ⟨g, a, none⟩ (.int .u64 A))
 have B1 := hid (blk_set_u64 (blk_draws HB.out 1) a A)
 have G1 := hid (grown_join (grown_draws w 1 _) (grownBy_cell (w.drewN 1) g a (.int .u64 A)))
 clear HB
 generalize (w.drewN 1).setCell ⟨g, a, none⟩ (.int .u64 A) = V1 at *
 have hl1 : (zs.set a A).length = 4 := by rw [List.length_set]; exact HL.out
 have ca := blk_u64 B1.out (i := a) (by omega)
 have cb := blk_u64 B1.out (i := b) (by omega)
 rw [getD_set_same A (by have := HL.out; omega)] at ca
 rw [getD_set_other A hab, HY.out] at cb
 have fb := blk_free B1.out b
 go_wp2_with fail
 refine plain_region (S := (fun L W => (L.getD 8 true = true ∨ W.cell? ⟨g, b, none⟩ = some (.int .u64 y)) ∧ (L.getD 17 true = true ∨ W.cell? ⟨g, a, none⟩ = some (.int .u64 A)))) (by kernel_rfl) (⟨Or.inr cb, Or.inr ca⟩) (fun hHeld => ?_)
 clear hHeld
 refine aW 0 ⟨Or.inr cb, Or.inr ca⟩ ?_
 refine aW 1 ⟨Or.inr cb, Or.inr ca⟩ ?_
 refine aW 2 ⟨Or.inr cb, Or.inr ca⟩ ?_
 refine aW 3 ⟨Or.inr cb, Or.inr ca⟩ ?_
 refine aW 4 ⟨Or.inr cb, Or.inr ca⟩ ?_
 refine aW 5 ⟨Or.inr cb, Or.inr ca⟩ ?_
 refine aL 6 8 (fun _ _ h k => rL k.1 h) ⟨Or.inr cb, Or.inr ca⟩ ?_
 refine aW 7 ⟨Or.inr cb, Or.inr ca⟩ ?_
 refine aW 9 ⟨Or.inr cb, Or.inr ca⟩ ?_
 refine aW 10 ⟨Or.inr cb, Or.inr ca⟩ ?_
 refine aW 11 ⟨Or.inr cb, Or.inr ca⟩ ?_
 refine aW 12 ⟨Or.inr cb, Or.inr ca⟩ ?_
 refine aL 13 17 (fun _ _ h k => rL k.2 h) ⟨Or.inr cb, Or.inr ca⟩ ?_
 refine aW 15 ⟨Or.inr cb, Or.inr ca⟩ ?_
 refine aR 8 (fun K hK => ?_)
 go_simp
 refine (sipTurn_calls y n _ ub hn).mono ?_
 rintro e w' ⟨rfl, k, rfl⟩
 refine hK.out _ _ (⟨Or.inl (by rfl), Or.inr ca⟩) (fun hHeld => ?_)
 clear hK K
 try simp only [Act.put, tA, tB, tC]
 clear hHeld
 refine aW 14 ⟨Or.inl (by rfl), Or.inr ca⟩ ?_
 refine aW 16 ⟨Or.inl (by rfl), Or.inr ca⟩ ?_
 refine aR 17 (fun K hK => ?_)
 go_simp
 skip
 refine hK.out _ _ (⟨Or.inl (by rfl), Or.inl (by rfl)⟩) (fun hHeld => ?_)
 clear hK K
 try simp only [Act.put, tA, tB, tC]
 clear hHeld
 refine anyU_done (by kernel_rfl) ?_ _
 go_end0
 rw [HM.out]
 exact ⟨rfl, blk_set_u64 (blk_draws B1.out (1 + k)) b _, grown_join G1.out (grown_join (grown_draws V1 (1 + k) _) (grownBy_cell (V1.drewN (1 + k)) g b _))⟩

def roundA (zs : List Int) : List Int := (mixL zs 0 1 13).set 0 (turnE ((mixL zs 0 1 13).getD 0 0) 32)
def roundB (zs : List Int) : List Int := mixL (mixL (mixL zs 2 3 16) 0 3 21) 2 1 17
def roundL (zs : List Int) : List Int := (roundB (roundA zs)).set 2 (turnE ((roundB (roundA zs)).getD 2 0) 32)
theorem roundA_len (zs : List Int) : (roundA zs).length = zs.length := by simp [roundA, mixL_len]
theorem roundB_len (zs : List Int) : (roundB zs).length = zs.length := by simp [roundB, mixL_len]
theorem roundL_len (zs : List Int) : (roundL zs).length = zs.length := by simp [roundL, roundA_len, roundB_len]
theorem roundA_all {zs : List Int} (h : AllU zs) : AllU (roundA zs) := allU_set (mixL_all h _ _ _) _ (turnE_u64 _ _)
theorem roundB_all {zs : List Int} (h : AllU zs) : AllU (roundB zs) := mixL_all (mixL_all (mixL_all h _ _ _) _ _ _) _ _ _
theorem roundL_all {zs : List Int} (h : AllU zs) : AllU (roundL zs) := allU_set (roundB_all (roundA_all h)) _ (turnE_u64 _ _)

set_option maxHeartbeats 4000000 in
theorem round_calls (zs : List Int) (g : Nat) (w : World) (hl : zs.length = 4) (hU : AllU zs) (hb : Blk w g 166 (u64s zs)) :
 Calls Tryz.prog 99 #[.pointer (some ⟨g, 0, none⟩)] w fun e w' => e = .returned (.tuple #[]) ∧ Blk w' g 166 (u64s (roundL zs)) ∧ w.grownBy w' (some g) := by
 have m1 := mix_calls zs g 0 1 13 w hl hU hb (by omega) (by omega) (by omega) (by omega)
 have HL := hid hl
 have HU := hid hU
 have hA : roundA zs = (mixL zs 0 1 13).set 0 (turnE ((mixL zs 0 1 13).getD 0 0) 32) := rfl
 have HA := hid hA
 clear hb hl hU hA
 go_enter Tryz.func99, Tryz.ntmps99
 go_wp2_with fail
 refine m1.mono ?_
 rintro e w1 ⟨rfl, B1, G1⟩
 have u0 := (mixL_all HU.out 0 1 13) 0 (by rw [mixL_len, HL.out]; omega)
 have c0 := blk_u64 B1 (i := 0) (by rw [mixL_len, HL.out]; omega)
 have f0 := blk_free B1 0
 have B1' := hid B1
 have G1' := hid G1
 clear m1 B1 G1
 generalize (mixL zs 0 1 13).getD 0 0 = x at *
 go_wp2_with fail
 refine plain_region (S := (fun L W => (L.getD 5 true = true ∨ W.cell? ⟨g, 0, none⟩ = some (.int .u64 x)))) (by kernel_rfl) (Or.inr c0) (fun hHeld => ?_)
 clear hHeld
 refine aW 0 (Or.inr c0) ?_
 refine aW 1 (Or.inr c0) ?_
 refine aW 2 (Or.inr c0) ?_
 refine aW 3 (Or.inr c0) ?_
 refine aL 4 5 (fun _ _ h k => rL k h) (Or.inr c0) ?_
 refine aW 6 (Or.inr c0) ?_
 refine aR 5 (fun K hK => ?_)
 go_simp
 refine (sipTurn_calls x 32 _ u0 (by omega)).mono ?_
 rintro e w' ⟨rfl, k, rfl⟩
 refine hK.out _ _ (Or.inl (by rfl)) (fun hHeld => ?_)
 clear hK K
 try simp only [Act.put, tA, tB, tC]
 clear hHeld
 refine aW 7 (Or.inl (by rfl)) ?_
 refine aR 8 (fun K hK => ?_)
 go_simp
 skip
 refine hK.out _ _ (Or.inl (by rfl)) (fun hHeld => ?_)
 clear hK K
 try simp only [Act.put, tA, tB, tC]
 clear hHeld
 refine anyU_done (by kernel_rfl) ?_ _
 change Exit.then _ _ Exit.normal _ ((w1.drewN (1 + k)).setCell ⟨g, 0, none⟩ (.int .u64 (turnE x 32)))
 have B2 := blk_set_u64 (blk_draws B1'.out (1 + k)) 0 (turnE x 32)
 rw [← HA.out] at B2
 have G2 := hid (grown_join G1'.out (grown_join (grown_draws w1 (1 + k) _) (grownBy_cell (w1.drewN (1 + k)) g 0 (.int .u64 (turnE x 32)))))
 have L2 := hid ((roundA_len zs).trans HL.out)
 have U2 := hid (roundA_all HU.out)
 clear B1' G1' c0 f0 u0 HA
 generalize (w1.drewN (1 + k)).setCell ⟨g, 0, none⟩ (.int .u64 (turnE x 32)) = w2 at *
 have hB : roundL zs = (mixL (mixL (mixL (roundA zs) 2 3 16) 0 3 21) 2 1 17).set 2 (turnE ((mixL (mixL (mixL (roundA zs) 2 3 16) 0 3 21) 2 1 17).getD 2 0) 32) := rfl
 have HR := hid hB
 clear hB
 generalize roundA zs = ys at *
 have m3 := mix_calls ys g 2 3 16 w2 L2.out U2.out B2 (by omega) (by omega) (by omega) (by omega)
 go_wp2_with fail
 refine m3.mono ?_
 rintro e w3 ⟨rfl, B3, G3'⟩
 have G3 := hid (grown_join G2.out G3')
 clear m3 B2 G2 G3'
 have m4 := mix_calls (mixL ys 2 3 16) g 0 3 21 w3 ((mixL_len _ _ _ _).trans L2.out) (mixL_all U2.out _ _ _) B3 (by omega) (by omega) (by omega) (by omega)
 go_wp2_with fail
 refine m4.mono ?_
 rintro e w4 ⟨rfl, B4, G4'⟩
 have G4 := hid (grown_join G3.out G4')
 clear m4 B3 G3 G4'
 have m5 := mix_calls (mixL (mixL ys 2 3 16) 0 3 21) g 2 1 17 w4 ((mixL_len _ _ _ _).trans ((mixL_len _ _ _ _).trans L2.out)) (mixL_all (mixL_all U2.out _ _ _) _ _ _) B4 (by omega) (by omega) (by omega) (by omega)
 go_wp2_with fail
 refine m5.mono ?_
 rintro e w5 ⟨rfl, B5, G5'⟩
 have G5 := hid (grown_join G4.out G5')
 clear m5 B4 G4 G5'
 have l5 : (mixL (mixL (mixL ys 2 3 16) 0 3 21) 2 1 17).length = 4 := (mixL_len _ _ _ _).trans ((mixL_len _ _ _ _).trans ((mixL_len _ _ _ _).trans L2.out))
 have u0 := (mixL_all (mixL_all (mixL_all U2.out 2 3 16) 0 3 21) 2 1 17) 2 (by omega)
 have c0 := blk_u64 B5 (i := 2) (by omega)
 have f0 := blk_free B5 2
 have B5' := hid B5
 clear B5 l5
 generalize mixL (mixL (mixL ys 2 3 16) 0 3 21) 2 1 17 = xs at *
 generalize xs.getD 2 0 = x at *
 go_wp2_with fail
 refine plain_region (S := (fun L W => (L.getD 5 true = true ∨ W.cell? ⟨g, 2, none⟩ = some (.int .u64 x)))) (by kernel_rfl) (Or.inr c0) (fun hHeld => ?_)
 clear hHeld
 refine aW 0 (Or.inr c0) ?_
 refine aW 1 (Or.inr c0) ?_
 refine aW 2 (Or.inr c0) ?_
 refine aW 3 (Or.inr c0) ?_
 refine aL 4 5 (fun _ _ h k => rL k h) (Or.inr c0) ?_
 refine aW 6 (Or.inr c0) ?_
 refine aR 5 (fun K hK => ?_)
 go_simp
 refine (sipTurn_calls x 32 _ u0 (by omega)).mono ?_
 rintro e w' ⟨rfl, k, rfl⟩
 refine hK.out _ _ (Or.inl (by rfl)) (fun hHeld => ?_)
 clear hK K
 try simp only [Act.put, tA, tB, tC]
 clear hHeld
 refine aW 7 (Or.inl (by rfl)) ?_
 refine aR 8 (fun K hK => ?_)
 go_simp
 skip
 refine hK.out _ _ (Or.inl (by rfl)) (fun hHeld => ?_)
 clear hK K
 try simp only [Act.put, tA, tB, tC]
 clear hHeld
 refine anyU_done (by kernel_rfl) ?_ _
 go_end0
 rw [HR.out]
 exact ⟨rfl, blk_set_u64 (blk_draws B5'.out (1 + k)) 2 _, grown_join G5.out (grown_join (grown_draws w5 (1 + k) _) (grownBy_cell (w5.drewN (1 + k)) g 2 _))⟩
end Go.Proofs.YtiigipnfnfpepaaGreatDoor
namespace Go.Proofs.YtiigipnfnfpepaaGreatDoor
open Go.RowKit

abbrev str (l : List UInt8) : ByteArray := ⟨l.toArray⟩
theorem str_size (l : List UInt8) : (str l).size = l.length := by simp [ByteArray.size]
def numTo (l : List UInt8) : Nat → Int
 | 0 => 0
 | k + 1 => bits .or .u64 (numTo l k) (IntKind.u64.wrap (IntKind.u64.wrap ((l.getD k 0).toNat : Int) * 2 ^ (8 * k)))
def numL (l : List UInt8) : Int := numTo l l.length
theorem numTo_u64 (l : List UInt8) : ∀ k, U64 (numTo l k)
 | 0 => ⟨Int.le_refl _, by show (0 : Int) < 18446744073709551616; omega⟩
 | _ + 1 => u64_bits _ _ _
theorem str_get (l : List UInt8) {k : Nat} (h : k < (str l).size) : (str l)[k] = l.getD k 0 := by
 have h2 : k < l.length := by rwa [str_size] at h
 rw [List.getD_eq_getElem?_getD, List.getElem?_eq_getElem h2]
 rfl

set_option maxHeartbeats 1000000 in
theorem number_calls (l : List UInt8) (w : World) (hl : l.length ≤ 8) :
 Calls Tryz.prog 98 #[.string (str l)] w fun e w' => e = .returned (.int .u64 (numL l)) ∧ w = w' := by
 have HL := hid (str_size l)
 go_enter Tryz.func98, Tryz.ntmps98
 go_wp2_with fail
 go_loopg [3, 7] 8 (fun gg s3 s7 wr => ∃ kk : Nat, kk ≤ l.length ∧ 8 - kk ≤ gg ∧ s7 = .int .i64 kk ∧ s3 = .int .u64 (numTo l kk) ∧ Aside (wr = w))
 case atStart => exact ⟨0, Nat.zero_le _, by omega, rfl, rfl, rfl⟩
 case round =>
  obtain ⟨kk, hkk, hgk, rfl, rfl, E⟩ := hrel
  obtain rfl := E.out.symm
  clear E
  by_cases hlt : kk < l.length
  · have hltz : (kk : Int) < l.length := by omega
    have hk0 : (0 : Int) ≤ kk := by omega
    have hsz : kk < (str l).size := by rw [HL.out]; exact hlt
    have hg := hid (str_get l hsz)
    go_wp2_with fail
    go_roundg (8 - (kk + 1))
    case measure => omega
    case rel =>
     refine ⟨kk + 1, by omega, by omega, by go_num, ?_, rfl⟩
     rw [hg.out]
     rfl
  · obtain rfl : l.length = kk := by omega
    have hltz : ¬ (l.length : Int) < l.length := by omega
    go_wp2_with fail
    go_ret
    exact ⟨rfl, rfl⟩

def roundsL : Nat → List Int → List Int
 | 0, zs => zs
 | k + 1, zs => roundL (roundsL k zs)
theorem roundsL_len : ∀ k zs, (roundsL k zs).length = zs.length
 | 0, _ => rfl
 | k + 1, zs => (roundL_len _).trans (roundsL_len k zs)
theorem roundsL_all {zs : List Int} (h : AllU zs) : ∀ k, AllU (roundsL k zs)
 | 0 => h
 | k + 1 => roundL_all (roundsL_all h k)

set_option maxHeartbeats 1000000 in
theorem times_calls (n : Nat) (zs : List Int) (g : Nat) (w : World) (hn : n ≤ 100) (hl : zs.length = 4) (hU : AllU zs) (hb : Blk w g 166 (u64s zs)) :
 Calls Tryz.prog 101 #[.int .i64 n, .func (.func 99) #[.pointer (some ⟨g, 0, none⟩)] #[]] w fun e w' => e = .returned (.tuple #[]) ∧ Blk w' g 166 (u64s (roundsL n zs)) ∧ w.grownBy w' (some g) := by
 have HL := hid hl
 have HU := hid hU
 have HB := hid hb
 clear hl hU hb
 go_enter Tryz.func101, Tryz.ntmps101
 go_wp2_with fail
 go_loopg [5] n (fun gg s5 wr => ∃ kk : Nat, kk ≤ n ∧ n - kk ≤ gg ∧ s5 = .int .i64 kk ∧ Aside (Blk wr g 166 (u64s (roundsL kk zs))) ∧ Aside (w.grownBy wr (some g)))
 case atStart => exact ⟨0, Nat.zero_le _, by omega, rfl, HB.out, grown_draws w 0 _⟩
 case round =>
  clear HB
  obtain ⟨kk, hkk, hgk, rfl, B, G⟩ := hrel
  by_cases hlt : kk < n
  · have hltz : (kk : Int) < n := by omega
    have hk0 : (0 : Int) ≤ kk := by omega
    have cr := round_calls (roundsL kk zs) g wr ((roundsL_len _ _).trans HL.out) (roundsL_all HU.out kk) B.out
    go_wp2_with fail
    refine cr.mono ?_
    rintro e w1 ⟨rfl, B1, G1⟩
    have B1' := hid B1
    have G1' := hid (grown_join G.out G1)
    clear cr B G B1 G1
    go_wp2_with fail
    go_roundg (n - (kk + 1))
    case measure => omega
    case rel => exact ⟨kk + 1, by omega, by omega, by go_num, B1'.out, G1'.out⟩
  · obtain rfl : n = kk := by omega
    have hltz : ¬ (n : Int) < n := by omega
    go_wp2_with fail
    go_end0
    exact ⟨rfl, B.out, G.out⟩

theorem str_take (l : List UInt8) (k : Nat) : (str l).extract 0 k = str (l.take k) := by
 have h : ∀ a b : ByteArray, a.data.toList = b.data.toList → a = b := fun a b h => by
  cases a; cases b; congr 1; exact Array.toList_inj.1 h
 apply h
 rw [Lib.extract_data]
 simp
theorem str_drop (l : List UInt8) (k : Nat) : (str l).extract k l.length = str (l.drop k) := by
 have h : ∀ a b : ByteArray, a.data.toList = b.data.toList → a = b := fun a b h => by
  cases a; cases b; congr 1; exact Array.toList_inj.1 h
 apply h
 rw [Lib.extract_data]
 show (l.drop k).take (l.length - k) = l.drop k
 rw [List.take_of_length_le (by rw [List.length_drop]; exact Nat.le_refl _)]

def wordAt (l : List UInt8) (k : Nat) : Int := numL ((l.drop (8 * k)).take 8)
def wordsTo (l : List UInt8) (k : Nat) : List Int := (List.range k).map (wordAt l)
def sizeW (l : List UInt8) : Int := IntKind.u64.wrap ((l.length : Int) * 72057594037927936)
def wordsL (l : List UInt8) : List Int := wordsTo l (l.length / 8) ++ [bits .or .u64 (numL (l.drop (8 * (l.length / 8)))) (sizeW l)]
theorem wordsTo_succ (l : List UInt8) (k : Nat) : wordsTo l (k + 1) = wordsTo l k ++ [wordAt l k] := by simp [wordsTo, List.range_succ]
theorem wordsTo_len (l : List UInt8) (k : Nat) : (wordsTo l k).length = k := by simp [wordsTo]
theorem wordsL_len (l : List UInt8) : (wordsL l).length = l.length / 8 + 1 := by simp [wordsL, wordsTo_len]

set_option maxHeartbeats 2000000 in
theorem words_calls (l : List UInt8) (w : World) (hl : l.length ≤ 100000) :
 Calls Tryz.prog 100 #[.string (str l)] w fun e w' => ∃ v, e = .returned v ∧ w'.ownsRow w.heap.size 58 1 v (l.length / 8 + 1) ((wordsL l).map (Value.int .u64)) ∧ Below w.heap.size w w' := by
 obtain ⟨inf, hinf, hzr, hsz, hby⟩ := info_parts (P := Tryz.prog) (e := 58) (z := .int .u64 0) (size := 1) (bytes := 8) (by kernel_rfl)
 have HF := hid (And.intro hinf (And.intro hzr (And.intro hsz hby)))
 have HO := hid (World.ownsRow_nil w w.heap.size 58 1)
 have HS := hid (str_size l)
 have HD := hid (show l.drop (8 * 0) = l from rfl)
 clear hinf hzr hsz hby
 go_enter Tryz.func100, Tryz.ntmps100
 go_wp2_with fail
 go_loopg [0, 3] (l.length / 8) (fun gg s0 s3 wr => ∃ kk : Nat, kk ≤ l.length / 8 ∧ l.length / 8 - kk ≤ gg ∧ s0 = .string (str (l.drop (8 * kk))) ∧ Aside (Below w.heap.size w wr) ∧ Aside (wr.ownsRow w.heap.size 58 1 s3 kk ((wordsTo l kk).map (Value.int .u64))))
 case atStart => exact ⟨0, Nat.zero_le _, by omega, rfl, Below.refl _ w, HO.out⟩
 case round =>
  clear HO
  obtain ⟨kk, hkk, hgk, rfl, B, O⟩ := hrel
  obtain ⟨m, hm⟩ : ∃ m, m = l.drop (8 * kk) := ⟨_, rfl⟩
  have hml : m.length = l.length - 8 * kk := by rw [hm, List.length_drop]
  rw [← hm]
  have HM := hid hm
  have hsm := str_size m
  clear hm
  by_cases hlt : kk < l.length / 8
  · have h8 : 8 ≤ m.length := by omega
    have h8z : (8 : Int) ≤ m.length := by omega
    have hn := fun W => number_calls (m.take 8) W (by rw [List.length_take]; omega)
    have hw : wordsTo l (kk + 1) = wordsTo l kk ++ [numL (m.take 8)] := by rw [wordsTo_succ, wordAt, HM.out]
    have HW := hid hw
    have hdm : l.drop (8 * (kk + 1)) = m.drop 8 := by rw [HM.out, List.drop_drop, show 8 * kk + 8 = 8 * (kk + 1) by omega]
    have HDM := hid hdm
    have HSM := hid hsm
    have HML := hid hml
    clear hw hdm hml hsm
    go_wp2_with fail
    rw [str_take]
    refine (hn _).mono ?_
    rintro e w' ⟨rfl, rfl⟩
    have hs := B.out.size
    generalize numL (m.take 8) = x at *
    clear hn
    go_wp2_with (first | (at_builtin; refine wpList_append_own _ rfl _ _ 167 rfl w.heap.size 58 inf (.int .u64 0) 1 8 Tryz.underlying167 HF.out.1 HF.out.2.1 HF.out.2.2.1 HF.out.2.2.2 rfl (by decide) _ kk _ rfl (O.out.alloc _) ⟨wr.heap.size, 0, none⟩ 1 1 [.int .u64 x] rfl rfl (cell_one_new _ _ _) (by simp [Value.oneCell']) (by unfold maxLen; omega) (by omega) (by simp; omega) ?_; intro v' w5 hown' hgrow _))
    have hol := O.out.lt
    have B5 := hid ((B.out.alloc hs (.cells #[.int .u64 x] 58)).grown hgrow (by simp; omega) (fun k e => (hol k e).1))
    rw [show [Value.int .u64 x] = [x].map (Value.int .u64) from rfl, ← List.map_append, ← HW.out] at hown'
    have O5 := hid hown'
    clear hown' hgrow hol O B
    go_wp2_with fail
    have e8 : (str m).extract 8 m.length = str (m.drop 8) := str_drop m 8
    simp only [e8]
    go_roundg (l.length / 8 - (kk + 1))
    case measure => omega
    case rel => exact ⟨kk + 1, by omega, by omega, by rw [HDM.out], B5.out, O5.out⟩
  · obtain rfl : kk = l.length / 8 := by omega
    have h8 : ¬ 8 ≤ m.length := by omega
    have h8z : (m.length : Int) < 8 := by omega
    have hn := fun W => number_calls m W (by omega)
    have hw : wordsL l = wordsTo l (l.length / 8) ++ [bits .or .u64 (numL m) (sizeW l)] := by rw [wordsL, HM.out]
    have HW := hid hw
    have hsz : sizeW l = IntKind.u64.wrap ((l.length : Int) * 72057594037927936) := rfl
    have HML := hid hml
    have hs := B.out.size
    clear hw hml hlt hsm
    rw [← hsz]
    clear hsz
    have HKL := hid (show l.length / 8 ≤ l.length by omega)
    generalize hkk8 : l.length / 8 = kk at *
    have HKK := hid hkk8
    clear hkk8
    go_wp2_with fail
    refine (hn _).mono ?_
    rintro e w' ⟨rfl, rfl⟩
    clear hn
    have hk : kk ≤ 100000 := by have := HKL.out; omega
    go_wp2_with (first | (at_builtin; refine wpList_append_own _ rfl _ _ 167 rfl w.heap.size 58 inf (.int .u64 0) 1 8 Tryz.underlying167 HF.out.1 HF.out.2.1 HF.out.2.2.1 HF.out.2.2.2 rfl (by decide) _ kk _ rfl (O.out.alloc _) ⟨wr.heap.size, 0, none⟩ 1 1 [.int .u64 (bits .or .u64 (numL m) (sizeW l))] rfl rfl (cell_one_new _ _ _) (by simp [Value.oneCell']) (by unfold maxLen; omega) (by omega) (by simp; omega) ?_; intro v' w5 hown' hgrow _))
    have hol := O.out.lt
    have B5 := hid ((B.out.alloc hs (.cells #[.int .u64 (bits .or .u64 (numL m) (sizeW l))] 58)).grown hgrow (by simp; omega) (fun k e => (hol k e).1))
    rw [show [Value.int .u64 (bits .or .u64 (numL m) (sizeW l))] = [bits .or .u64 (numL m) (sizeW l)].map (Value.int .u64) from rfl, ← List.map_append, ← HW.out] at hown'
    have O5 := hid hown'
    clear hown' hgrow hol O B
    go_wp2_with fail
    go_ret
    exact ⟨_, rfl, by rw [HKK.out]; exact O5.out, B5.out⟩
end Go.Proofs.YtiigipnfnfpepaaGreatDoor
namespace Go.Proofs.YtiigipnfnfpepaaGreatDoor
open Go.RowKit

def Signs (w : World) : Prop := w.cell? ⟨0, 0, none⟩ = some (.int .u64 8317987319222330741) ∧ w.cell? ⟨0, 1, none⟩ = some (.int .u64 7237128888997146477) ∧ w.cell? ⟨0, 2, none⟩ = some (.int .u64 7816392313619706465) ∧ w.cell? ⟨0, 3, none⟩ = some (.int .u64 8387220255154660723)
theorem signs_size {w : World} (h : Signs w) : 0 < w.heap.size := World.block_lt_of_cell? w _ h.1
theorem signs_below {w w' : World} {B : Nat} (h : Signs w) (hb : Below B w w') (hB : 0 < B) : Signs w' :=
 ⟨(hb.cell (p := ⟨0, 0, none⟩) hB).trans h.1, (hb.cell (p := ⟨0, 1, none⟩) hB).trans h.2.1, (hb.cell (p := ⟨0, 2, none⟩) hB).trans h.2.2.1, (hb.cell (p := ⟨0, 3, none⟩) hB).trans h.2.2.2⟩
theorem signs_next {w w' : World} (h : Signs w) (hb : Below w.heap.size w w') : Signs w' := signs_below h hb (signs_size h)

def bytesV (l : List UInt8) : Array Value := (l.map fun b => Value.int .u8 (b.toNat : Int)).toArray
theorem bytesV_size (l : List UInt8) : (bytesV l).size = l.length := by simp [bytesV]
theorem bytesV_get (l : List UInt8) {i : Nat} (h : i < l.length) : (bytesV l)[i]? = some (.int .u8 ((l[i].toNat : Nat) : Int)) := by
 simp [bytesV, List.getElem?_eq_getElem h]
theorem blk_byte {w : World} {g : Nat} {t : TypeId} {l : List UInt8} (h : Blk w g t (bytesV l)) {i : Nat} (hi : i < l.length) : w.cell? ⟨g, i, none⟩ = some (.int .u8 ((l[i].toNat : Nat) : Int)) := by
 rw [blk_cell h, bytesV_get l hi]
theorem conv_part {w : World} {g : Nat} {t : TypeId} {l : List UInt8} (h : Blk w g t (bytesV l)) (o n c : Nat) (hn : o + n ≤ l.length) :
 (convert 109 9 (.slice (some ⟨g, o, none⟩) n c)).run Tryz.prog w = .ok (.string (str ((l.drop o).take n))) w := by
 have hl : ((l.drop o).take n).length = n := by rw [List.length_take, List.length_drop]; omega
 have := run_convert_bytes_back (P := Tryz.prog) w 109 9 5 ⟨g, o, none⟩ c ((l.drop o).take n) Tryz.underlying109 Tryz.underlying5 Tryz.underlying9 (fun j hj => by
  rw [hl] at hj
  rw [Addr.add_mid, blk_byte h (by omega)]
  simp)
 rw [hl] at this
 exact this

def xorE (a b : Int) : Int := bits .xor .u64 a b
theorem xorE_u64 (a b : Int) : U64 (xorE a b) := u64_bits _ _ _
def sumStart (a b : Int) : List Int := [xorE a 8317987319222330741, xorE b 7237128888997146477, xorE a 7816392313619706465, xorE b 8387220255154660723]
def sumStep (v : List Int) (x : Int) : List Int :=
 (roundsL 2 (v.set 3 (xorE (v.getD 3 0) x))).set 0 (xorE ((roundsL 2 (v.set 3 (xorE (v.getD 3 0) x))).getD 0 0) x)
def sumTo (v : List Int) (ws : List Int) : Nat → List Int
 | 0 => v
 | k + 1 => sumStep (sumTo v ws k) (ws.getD k 0)
def sumEnd (v : List Int) : List Int := roundsL 4 (v.set 2 (xorE (v.getD 2 0) 255))
def sumOut (v : List Int) : Int := xorE (xorE (xorE (v.getD 0 0) (v.getD 1 0)) (v.getD 2 0)) (v.getD 3 0)
def sumL (kb l : List UInt8) : Int := sumOut (sumEnd (sumTo (sumStart (numL (kb.take 8)) (numL (kb.drop 8))) (wordsL l) (wordsL l).length))
theorem sumL_u64 (kb l : List UInt8) : U64 (sumL kb l) := xorE_u64 _ _
theorem sumStart_len (a b : Int) : (sumStart a b).length = 4 := rfl
theorem sumStart_all (a b : Int) : AllU (sumStart a b) := fun i hi => by
 have h : i = 0 ∨ i = 1 ∨ i = 2 ∨ i = 3 := by have : i < 4 := hi; omega
 rcases h with rfl | rfl | rfl | rfl <;> exact xorE_u64 _ _
theorem sumStep_len {v : List Int} (x : Int) : (sumStep v x).length = v.length := by simp [sumStep, roundsL_len]
theorem sumStep_all {v : List Int} (h : AllU v) (x : Int) : AllU (sumStep v x) := allU_set (roundsL_all (allU_set h _ (xorE_u64 _ _)) 2) _ (xorE_u64 _ _)
theorem sumTo_len (v ws : List Int) : ∀ k, (sumTo v ws k).length = v.length
 | 0 => rfl
 | k + 1 => (sumStep_len _).trans (sumTo_len v ws k)
theorem sumTo_all {v : List Int} (h : AllU v) (ws : List Int) : ∀ k, AllU (sumTo v ws k)
 | 0 => h
 | k + 1 => sumStep_all (sumTo_all h ws k) _

theorem cell_grown {A B : World} {r : Option Nat} {g : Nat} (h : A.grownBy B r) (hg : g < A.heap.size) (hr : some g ≠ r) (j : Nat) : B.cell? ⟨g, j, none⟩ = A.cell? ⟨g, j, none⟩ := by
 simp [World.cell?, h.block g hg hr]

theorem owns_words {w : World} {base n : Nat} {v : Value} {zs : List Int} (h : w.ownsRow base 58 1 v n (zs.map (Value.int .u64))) (hn : 0 < n) :
 ∃ g c, v = .slice (some ⟨g, 0, none⟩) n c ∧ base ≤ g ∧ g < w.heap.size ∧ zs.length = n ∧ ∀ j, j < n → w.cell? ⟨g, j, none⟩ = some (.int .u64 (zs.getD j 0)) := by
 have hl := h.1
 rw [List.length_map] at hl
 obtain ⟨_, ⟨_, h2⟩ | ⟨g, cap, cur, rfl, h1, h2, h3, h4, h5, h6⟩⟩ := h
 · omega
 · refine ⟨g, cap, rfl, h1, (Array.getElem?_eq_some_iff.1 h2).1, by omega, fun j hj => ?_⟩
   have h7 := congrArg (fun l : List Value => l[j]?) h6
   simp only [List.getElem?_take, List.getElem?_map, Array.getElem?_toList] at h7
   rw [if_pos (by omega), List.getElem?_eq_getElem (by omega)] at h7
   rw [List.getD_eq_getElem?_getD, List.getElem?_eq_getElem (by omega)]
   simpa [World.cell?, h2] using h7

set_option maxHeartbeats 4000000 in
theorem sum_calls (kb l : List UInt8) (w : World) (hk : kb.length = 16) (hl : l.length ≤ 10000) (hS : Signs w) :
 Calls Tryz.prog 54 #[.agg (bytesV kb), .string (str l)] w fun e w' => e = .returned (.int .u64 (sumL kb l)) ∧ Below w.heap.size w w' := by
 have hb := blk_new w 23 (bytesV kb)
 have n1 := fun W => number_calls (kb.take 8) W (by rw [List.length_take]; omega)
 have n2 := fun W => number_calls (kb.drop 8) W (by rw [List.length_drop]; omega)
 have c1 : ∀ W, Blk W w.heap.size 23 (bytesV kb) → (convert 109 9 (.slice (some ⟨w.heap.size, 0, none⟩) 8 16)).run Tryz.prog W = .ok (.string (str (kb.take 8))) W := fun W h => conv_part h 0 8 16 (by omega)
 have c2 : ∀ W, Blk W w.heap.size 23 (bytesV kb) → (convert 109 9 (.slice (some ⟨w.heap.size, 8, none⟩) 8 8)).run Tryz.prog W = .ok (.string (str (kb.drop 8))) W := fun W h => by
  have := conv_part h 8 8 8 (by omega)
  rw [List.take_of_length_le (by rw [List.length_drop]; omega)] at this
  exact this
 have C1 := hid c1
 have C2 := hid c2
 have HBL := hid hb
 have hw := fun W => words_calls l W (by omega)
 have B0 := hid ((Below.refl w.heap.size w).alloc (Nat.le_refl _) (.cells (bytesV kb) 23))
 have HS := hid hS
 have HK := hid hk
 clear hb hS hk c1 c2
 go_enter Tryz.func54, Tryz.ntmps54
 go_wp2_with fail
 refine plain_region (S := (fun L W => (L.getD 2 true = true ∨ Blk W w.heap.size 23 (bytesV kb)) ∧ (L.getD 5 true = true ∨ Blk W w.heap.size 23 (bytesV kb)))) (by kernel_rfl) (⟨Or.inr HBL.out, Or.inr HBL.out⟩) (fun hHeld => ?_)
 clear hHeld
 refine aW 0 ⟨Or.inr HBL.out, Or.inr HBL.out⟩ ?_
 refine anyU_take (i := 1) (b := 2) (oi := ⟨_,_,_,_,_,_⟩) (ob := ⟨_,_,_,_,_,_⟩) (C := (fun W => Blk W w.heap.size 23 (bytesV kb))) (v := ?_) rfl rfl (by kernel_rfl) (by kernel_rfl) (by kernel_rfl) (by kernel_rfl) (by kernel_rfl) (fun _ _ _ h => h) (fun L w => by simp only [gN 1 2, gN 1 5]) (fun L V h k => (k.1).resolve_left (by rw [h]; decide)) (Or.inl ⟨by rfl, ?_⟩) (⟨Or.inr HBL.out, Or.inr HBL.out⟩) ?_
 rotate_left
 · intro W hSw
   have e1 := C1.out W hSw
   go_simp
   try with_reducible rfl
 try simp only [Act.put, tA, tB, tC]
 refine aW 3 ⟨Or.inr HBL.out, Or.inr HBL.out⟩ ?_
 refine anyU_take (i := 4) (b := 5) (oi := ⟨_,_,_,_,_,_⟩) (ob := ⟨_,_,_,_,_,_⟩) (C := (fun W => Blk W w.heap.size 23 (bytesV kb))) (v := ?_) rfl rfl (by kernel_rfl) (by kernel_rfl) (by kernel_rfl) (by kernel_rfl) (by kernel_rfl) (fun _ _ _ h => h) (fun L w => by simp only [gN 4 2, gN 4 5]) (fun L V h k => (k.2).resolve_left (by rw [h]; decide)) (Or.inl ⟨by rfl, ?_⟩) (⟨Or.inr HBL.out, Or.inr HBL.out⟩) ?_
 rotate_left
 · intro W hSw
   have e2 := C2.out W hSw
   go_simp
   try with_reducible rfl
 try simp only [Act.put, tA, tB, tC]
 refine aR 2 (fun K hK => ?_)
 go_simp
 refine (n1 _).mono ?_
 rintro e w' ⟨rfl, rfl⟩
 refine hK.out _ _ (⟨Or.inl (by rfl), Or.inr HBL.out⟩) (fun hHeld => ?_)
 clear hK K
 try simp only [Act.put, tA, tB, tC]
 clear hHeld
 refine aR 5 (fun K hK => ?_)
 go_simp
 refine (n2 _).mono ?_
 rintro e w' ⟨rfl, rfl⟩
 refine hK.out _ _ (⟨Or.inl (by rfl), Or.inl (by rfl)⟩) (fun hHeld => ?_)
 clear hK K
 try simp only [Act.put, tA, tB, tC]
 clear hHeld
 refine aW 6 ⟨Or.inl (by rfl), Or.inl (by rfl)⟩ ?_
 refine aW 7 ⟨Or.inl (by rfl), Or.inl (by rfl)⟩ ?_
 refine anyU_done (by kernel_rfl) ?_ _
 change Exit.then _ _ Exit.normal _ ((w.alloc (.cells (bytesV kb) 23)).drewN 1)
 have B1 := hid (below_draws B0.out 1)
 obtain ⟨s0, s1, s2, s3⟩ := signs_below HS.out B1.out (signs_size HS.out)
 have z1 : ((w.alloc (.cells (bytesV kb) 23)).drewN 1).heap.size = w.heap.size + 1 := by simp
 have Z1 := hid z1
 have SO : sumL kb l = sumOut (sumEnd (sumTo (sumStart (numL (kb.take 8)) (numL (kb.drop 8))) (wordsL l) (wordsL l).length)) := rfl
 have HSO := hid SO
 clear n1 n2 C1 C2 HBL B0 HS HK z1 SO
 generalize numL (kb.take 8) = a at *
 generalize numL (kb.drop 8) = b at *
 generalize (w.alloc (.cells (bytesV kb) 23)).drewN 1 = W1 at *
 go_wp2_with fail
 have BS := blk_new W1 166 (u64s (sumStart a b))
 have hB2 := B1.out.trans (((Below.refl W1.heap.size W1).alloc (Nat.le_refl _) (.cells (u64s (sumStart a b)) 166)).mono B1.out.size)
 have hlt := blk_lt BS
 have hB2' := hid hB2
 have LS := hid (sumStart_len a b)
 have US := hid (sumStart_all a b)
 have hws := wordsL_len l
 have HWS := hid hws
 change Calls _ _ _ (W1.alloc (.cells (u64s (sumStart a b)) 166)) _
 clear s0 s1 s2 s3 hB2 hws
 refine (hw _).mono ?_
 rintro e w2 ⟨v, rfl, O2, C2⟩
 obtain ⟨g, c, rfl, hg, hgl, hzl, hc⟩ := owns_words O2 (by omega)
 rw [World.size_alloc] at hg
 have B2 := hid (hB2'.out.trans (C2.mono (by rw [World.size_alloc]; have := B1.out.size; omega)))
 have BV := hid (blk_below BS C2 hlt)
 have HC := hid hc
 have hlen : l.length / 8 + 1 ≤ 10000 := by omega
 clear O2 C2 BS hlt hB2' hw hc hzl
 generalize wordsL l = ws at *
 generalize sumStart a b = st at *
 generalize l.length / 8 + 1 = n at *
 have hne : g ≠ W1.heap.size := by omega
 have hW1 : w.heap.size ≤ W1.heap.size := B1.out.size
 go_wp2_with fail
 go_loopg [38] n (fun gg s38 wr => ∃ kk : Nat, kk ≤ n ∧ n - kk ≤ gg ∧ s38 = .int .i64 kk ∧ Aside (Below w.heap.size w wr) ∧ Aside (Blk wr W1.heap.size 166 (u64s (sumTo st ws kk))) ∧ Aside (g < wr.heap.size ∧ ∀ j, j < n → wr.cell? ⟨g, j, none⟩ = some (.int .u64 (ws.getD j 0))))
 case atStart => exact ⟨0, Nat.zero_le _, by omega, rfl, B2.out, BV.out, hgl, HC.out⟩
 case round =>
  clear B2 BV HC hgl
  obtain ⟨kk, hkk, hgk, rfl, B, V, C⟩ := hrel
  have ln := (sumTo_len st ws kk).trans LS.out
  have LN := hid ln
  have UN := hid (sumTo_all US.out ws kk)
  clear ln
  by_cases hlt : kk < n
  · have hltz : (kk : Int) < n := by omega
    have hk0 : (0 : Int) ≤ kk := by omega
    have cx := C.out.2 kk hlt
    have c3 := blk_u64 V.out (i := 3) (by rw [LN.out]; omega)
    have f3 := blk_free V.out 3
    have hst : sumTo st ws (kk + 1) = sumStep (sumTo st ws kk) (ws.getD kk 0) := rfl
    have HST := hid hst
    clear hst
    generalize ws.getD kk 0 = x at *
    generalize sumTo st ws kk = zs at *
    have hss : sumStep zs x = (roundsL 2 (zs.set 3 (xorE (zs.getD 3 0) x))).set 0 (xorE ((roundsL 2 (zs.set 3 (xorE (zs.getD 3 0) x))).getD 0 0) x) := rfl
    have HSS := hid hss
    clear hss
    generalize zs.getD 3 0 = y at *
    go_wp2_with fail
    have V1 := blk_set_u64 V.out 3 (xorE y x)
    have lt := times_calls 2 (zs.set 3 (xorE y x)) W1.heap.size _ (by omega) (by rw [List.length_set]; exact LN.out) (allU_set UN.out 3 (xorE_u64 y x)) V1
    refine lt.mono ?_
    rintro e w3 ⟨rfl, V3, G3⟩
    have G4 := hid (grown_join (grownBy_cell wr W1.heap.size 3 (.int .u64 (xorE y x))) G3)
    have l3 : (roundsL 2 (zs.set 3 (xorE y x))).length = 4 := by rw [roundsL_len, List.length_set]; exact LN.out
    have c0 := blk_u64 V3 (i := 0) (by omega)
    have f0 := blk_free V3 0
    have V3' := hid V3
    clear lt V1 V3 G3 l3 cx c3 f3 V
    generalize roundsL 2 (zs.set 3 (xorE y x)) = ys at *
    generalize ys.getD 0 0 = q at *
    go_wp2_with fail
    have V5 := hid (blk_set_u64 V3'.out 0 (xorE q x))
    have G5 := hid (grown_join G4.out (grownBy_cell w3 W1.heap.size 0 (.int .u64 (xorE q x))))
    have B5 := hid (below_grown B.out G5.out (Nat.le_trans (Nat.le_refl _) B.out.size) hW1)
    have C5 := hid (And.intro (Nat.lt_of_lt_of_le C.out.1 G5.out.size) (fun j (hj : j < n) => (cell_grown G5.out C.out.1 (fun e => hne (by cases e; rfl)) j).trans (C.out.2 j hj)))
    clear G4 V3' c0 f0 B C
    go_roundg (n - (kk + 1))
    case measure => omega
    case rel =>
     refine ⟨kk + 1, by omega, by omega, by go_num, B5.out, ?_, C5.out⟩
     rw [HST.out, HSS.out]
     exact V5.out
  · obtain rfl : n = kk := by omega
    have hltz : ¬ (n : Int) < n := by omega
    rw [HWS.out] at HSO
    generalize sumTo st ws n = zs at *
    have c2 := blk_u64 V.out (i := 2) (by rw [LN.out]; omega)
    have f2 := blk_free V.out 2
    have hse : sumEnd zs = roundsL 4 (zs.set 2 (xorE (zs.getD 2 0) 255)) := rfl
    have HSE := hid hse
    clear hse
    generalize zs.getD 2 0 = y at *
    go_wp2_with fail
    have V1 := blk_set_u64 V.out 2 (xorE y 255)
    have lt := times_calls 4 (zs.set 2 (xorE y 255)) W1.heap.size _ (by omega) (by rw [List.length_set]; exact LN.out) (allU_set UN.out 2 (xorE_u64 y 255)) V1
    refine lt.mono ?_
    rintro e w3 ⟨rfl, V3, G3⟩
    have G4 := hid (grown_join (grownBy_cell wr W1.heap.size 2 (.int .u64 (xorE y 255))) G3)
    have l3 : (roundsL 4 (zs.set 2 (xorE y 255))).length = 4 := by rw [roundsL_len, List.length_set]; exact LN.out
    rw [← HSE.out] at V3 l3
    have c0 := blk_u64 V3 (i := 0) (by omega)
    have c1 := blk_u64 V3 (i := 1) (by omega)
    have d2 := blk_u64 V3 (i := 2) (by omega)
    have c3 := blk_u64 V3 (i := 3) (by omega)
    have B5 := hid (below_grown B.out G4.out B.out.size hW1)
    clear lt V1 V3 G3 l3 c2 f2 V C HSE
    go_wp2_with fail
    go_ret
    exact ⟨by rw [HSO.out]; rfl, B5.out⟩
end Go.Proofs.YtiigipnfnfpepaaGreatDoor
namespace Go.Proofs.YtiigipnfnfpepaaGreatDoor
open Go.RowKit

section
variable {P : Program}
theorem blk_range {W : World} {g : Nat} {t : TypeId} {cs : Array Value} (h : Blk W g t cs) : W.rangeAt g 0 cs.toList := fun j v hv => by
 rw [Nat.zero_add, blk_cell h]
 simpa using hv
theorem yields_blk {ops : Array Oper} {S : World → Prop} {op : Oper} {a : Act} (hw : Region.wanted op (yielded ops a.tmps) = true) (ty : TypeId) (x : Operand) (ho : op.op = .load ty x)
 (g : Nat) (hx : a.eval x = .pointer (some ⟨g, 0, none⟩)) (t : TypeId) (cs : Array Value) (d : TypeDesc) (hS : ∀ w, S w → Blk w g t cs)
 (hu : P.underlying ty = some d) (hd : d.isRow = true) (hi : (P.info? ty).map (·.size) = some cs.size) : YieldsIf P ops S op (.agg cs) a := by
 have := yieldsIf_load_mid (P := P) (ops := ops) (S := S) hw ty x ho g 0 hx cs.toList d (fun w h => blk_range (hS w h)) hu hd (by rw [hi]; simp)
 simpa using this
theorem wpList_load_blk {ops : Array Oper} {rest : List Oper} {op : Oper} {a : Act} {w : World} {Q : Exit → Act → World → Prop} (hgd : Region.wanted op (yielded ops a.tmps) = true) (ty : TypeId) (x : Operand) (ho : op.op = .load ty x)
 (g : Nat) (hx : a.eval x = .pointer (some ⟨g, 0, none⟩)) (t : TypeId) (cs : Array Value) (d : TypeDesc) (hb : Blk w g t cs)
 (hu : P.underlying ty = some d) (hd : d.isRow = true) (hi : (P.info? ty).map (·.size) = some cs.size)
 (h : wpList P ops Q rest (a.put op.dst (.agg cs)) w) : wpList P ops Q (op :: rest) a w :=
 wpList_step fun _ hK => by
  rw [if_pos hgd]
  refine wp_load_mid ty x ho g 0 hx cs.toList d (blk_range hb) hu hd (by rw [hi]; simp) ?_
  simpa using hK _ _ h
end
theorem wpList_val {P : Program} {ops : Array Oper} {rest : List Oper} {op : Oper} {a : Act} {w : World} {Q : Exit → Act → World → Prop} (v : Value) (hgd : Region.wanted op (yielded ops a.tmps) = true)
 (hr : (execOp a.eval op).run P w = .ok (.value v) w) (h : wpList P ops Q rest (a.put op.dst v) w) : wpList P ops Q (op :: rest) a w :=
 wpList_step fun _ hK => by
  rw [if_pos hgd]
  unfold Oper.wp
  rw [hr]
  exact hK _ _ h
theorem index_sl {a : Act} {op : Oper} (x y : Operand) (g o n c j : Nat) (ho : op.op = .indexAddr 24 x y) (hx : a.eval x = .slice (some ⟨g, o, none⟩) n c) (hy : a.eval y = .int .i64 j) (hj : j < n) (W : World) :
 (execOp a.eval op).run Tryz.prog W = .ok (.value (.pointer (some ⟨g, o + j, none⟩))) W := by
 have h0 : (0 : Int) ≤ j := by omega
 have h1 : (j : Int) < n := by omega
 unfold execOp
 simp only [ho, hx, hy]
 go_simp
theorem index_sl0 {a : Act} {op : Oper} (x y : Operand) (g n c j : Nat) (ho : op.op = .indexAddr 24 x y) (hx : a.eval x = .slice (some ⟨g, 0, none⟩) n c) (hy : a.eval y = .int .i64 j) (hj : j < n) (W : World) :
 (execOp a.eval op).run Tryz.prog W = .ok (.value (.pointer (some ⟨g, j, none⟩))) W := by
 have := index_sl x y g 0 n c j ho hx hy hj W
 rwa [Nat.zero_add] at this
theorem key_size {kb : List UInt8} (h : kb.length = 16) : (Tryz.prog.info? 23).map (·.size) = some (bytesV kb).size := by rw [bytesV_size, h]; kernel_rfl

def valB (x : Int) : UInt8 := UInt8.ofNat x.toNat
theorem valB_of {x : Int} (h0 : 0 ≤ x) (h1 : x < 256) : ((valB x).toNat : Int) = x := by
 unfold valB
 rw [UInt8.toNat_ofNat']
 omega
theorem u8_val (n : Int) : Value.int .u8 (n % 256) = Value.int .u8 ((valB (n % 256)).toNat : Int) := by rw [valB_of (by omega) (by omega)]

def numB (sign : UInt8) (n : Int) (k : Nat) : List UInt8 := sign :: (List.range k).map fun i => valB (n / 2 ^ (8 * i) % 256)
theorem numB_len (sign : UInt8) (n : Int) (k : Nat) : (numB sign n k).length = k + 1 := by simp [numB]
theorem numB_succ (sign : UInt8) (n : Int) (k : Nat) : numB sign n (k + 1) = numB sign n k ++ [valB (n / 2 ^ (8 * k) % 256)] := by simp [numB, List.range_succ]
def keyNum (kb : List UInt8) (sign : UInt8) (n : Int) : Int := sumL kb (numB sign n 8)
theorem keyNum_u64 (kb : List UInt8) (sign : UInt8) (n : Int) : U64 (keyNum kb sign n) := sumL_u64 _ _

theorem conv_owns {w : World} {base n : Nat} {v : Value} {l : List UInt8} (h : w.ownsRow base 5 1 v n (l.map fun b => Value.int .u8 (b.toNat : Int))) (hn : 0 < n) :
 (convert 109 9 v).run Tryz.prog w = .ok (.string (str l)) w := by
 have hl := h.1
 rw [List.length_map] at hl
 obtain ⟨_, ⟨_, h2⟩ | ⟨g, cap, cur, rfl, h1, h2, h3, h4, h5, h6⟩⟩ := h
 · omega
 · have := run_convert_bytes_back (P := Tryz.prog) w 109 9 5 ⟨g, 0, none⟩ cap l Tryz.underlying109 Tryz.underlying5 Tryz.underlying9 (fun j hj => by
    have h7 := congrArg (fun l : List Value => l[j]?) h6
    simp only [List.getElem?_take, List.getElem?_map, Array.getElem?_toList] at h7
    rw [if_pos (by omega), List.getElem?_eq_getElem hj] at h7
    rw [Addr.add_mid, Nat.zero_add]
    simpa [World.cell?, h2] using h7)
   rw [show l.length = n by omega] at this
   exact this

set_option maxHeartbeats 2000000 in
theorem num_calls (kb : List UInt8) (sign : UInt8) (n : Int) (w : World) (hk : kb.length = 16) (h0 : 0 ≤ n) (h1 : n ≤ 1000000) (hS : Signs w) :
 Calls Tryz.prog 66 #[.agg (bytesV kb), .int .u8 (sign.toNat : Int), .int .i64 n] w fun e w' => e = .returned (.int .u64 (keyNum kb sign n)) ∧ Below w.heap.size w w' := by
 obtain ⟨inf, hinf, hzr, hsz, hby⟩ := info_parts (P := Tryz.prog) (e := 5) (z := .int .u8 0) (size := 1) (bytes := 1) (by kernel_rfl)
 have HF := hid (And.intro hinf (And.intro hzr (And.intro hsz hby)))
 have hb := blk_new w 23 (bytesV kb)
 have B0 := hid (((Below.refl w.heap.size w).alloc (Nat.le_refl _) (.cells (bytesV kb) 23)).alloc (by simp) (.cells #[.int .u8 (sign.toNat : Int)] 5))
 have K0 := hid (blk_alloc hb (.cells #[.int .u8 (sign.toNat : Int)] 5))
 have O0 : ((w.alloc (.cells (bytesV kb) 23)).alloc (.cells #[.int .u8 (sign.toNat : Int)] 5)).ownsRow (w.heap.size + 1) 5 1 (.slice (some ⟨w.heap.size + 1, 0, none⟩) 1 1) 1 ((numB sign n 0).map fun b => Value.int .u8 (b.toNat : Int)) := by
  have := blk_new (w.alloc (.cells (bytesV kb) 23)) 5 #[.int .u8 (sign.toNat : Int)]
  rw [World.size_alloc] at this
  exact ⟨rfl, .inr ⟨_, _, _, rfl, Nat.le_refl _, this, Nat.le_refl _, by unfold maxLen; omega, rfl, rfl⟩⟩
 have HO := hid O0
 have HS := hid hS
 have HKS := hid (key_size hk)
 have HK := hid hk
 clear hb hS hinf hzr hsz hby O0 hk
 go_enter Tryz.func66, Tryz.ntmps66
 go_wp2_with fail
 go_loopg [7, 11] 8 (fun gg s7 s11 wr => ∃ kk : Nat, kk ≤ 8 ∧ 8 - kk ≤ gg ∧ s11 = .int .i64 kk ∧ Aside (Below w.heap.size w wr) ∧ Aside (Blk wr w.heap.size 23 (bytesV kb)) ∧ Aside (wr.ownsRow (w.heap.size + 1) 5 1 s7 (kk + 1) ((numB sign n kk).map fun b => Value.int .u8 (b.toNat : Int))))
 case atStart => exact ⟨0, Nat.zero_le _, by omega, rfl, B0.out, K0.out, HO.out⟩
 case round =>
  clear B0 K0 HO
  obtain ⟨kk, hkk, hgk, rfl, B, K, O⟩ := hrel
  by_cases hlt : kk < 8
  · have hltz : (kk : Int) < 8 := by omega
    have hk0 : (0 : Int) ≤ kk := by omega
    have hs := B.out.size
    have hkl := blk_lt K.out
    go_wp2_with (first | (at_builtin; refine wpList_append_own _ rfl _ _ 109 rfl (w.heap.size + 1) 5 inf (.int .u8 0) 1 1 Tryz.underlying109 HF.out.1 HF.out.2.1 HF.out.2.2.1 HF.out.2.2.2 rfl (by decide) _ (kk + 1) _ rfl (O.out.alloc _) ⟨wr.heap.size, 0, none⟩ 1 1 [.int .u8 (n / 2 ^ (8 * kk) % 256)] rfl rfl (cell_one_new _ _ _) (by simp [Value.oneCell']) (by unfold maxLen; omega) (by omega) (by simp; omega) ?_; intro v' w5 hown' hgrow _))
    have hol := O.out.lt
    have B5 := hid ((B.out.alloc hs (.cells #[.int .u8 (n / 2 ^ (8 * kk) % 256)] 5)).grown hgrow (by simp; omega) (fun k e => by have := (hol k e).1; omega))
    have K5 := hid (blk_grown (blk_alloc K.out (.cells #[.int .u8 (n / 2 ^ (8 * kk) % 256)] 5)) hgrow (fun e => by have := (hol _ e.symm).1; omega))
    rw [u8_val, show [Value.int .u8 ((valB (n / 2 ^ (8 * kk) % 256)).toNat : Int)] = [valB (n / 2 ^ (8 * kk) % 256)].map (fun b => Value.int .u8 (b.toNat : Int)) from rfl, ← List.map_append, ← numB_succ] at hown'
    have O5 := hid hown'
    clear hown' hgrow hol O B K
    go_wp2_with fail
    go_roundg (8 - (kk + 1))
    case measure => omega
    case rel => exact ⟨kk + 1, by omega, by omega, by go_num, B5.out, K5.out, O5.out⟩
  · obtain rfl : kk = 8 := by omega
    have hc := conv_owns O.out (by omega)
    have cs := sum_calls kb (numB sign n 8) wr HK.out (by rw [numB_len]; omega) (signs_below HS.out B.out (signs_size HS.out))
    go_wp2_with (first | (refine wpList_load_blk (by rfl) 23 _ rfl w.heap.size rfl 23 (bytesV kb) _ K.out Tryz.underlying23 rfl HKS.out ?_))
    refine cs.mono ?_
    rintro e w2 ⟨rfl, B2⟩
    have B3 := hid (bnext B.out B2)
    clear cs hc B K O B2
    go_wp2_with fail
    go_ret
    exact ⟨rfl, B3.out⟩
end Go.Proofs.YtiigipnfnfpepaaGreatDoor
