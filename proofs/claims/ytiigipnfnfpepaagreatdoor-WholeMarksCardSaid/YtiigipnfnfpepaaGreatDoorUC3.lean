/- Codewords (layer 5): the walks. The generator (layer 5): the walk. Codewords (layer 5): Encode. What a mark carries (layer 6). -/
import Derived.Test.YtiigipnfnfpepaaGreatDoorUC2
import Derived.Laws.Bits64
import Derived.Laws.CopyRow
import Derived.Laws.CopyOwn
import Derived.Test.YtiigipnfnfpepaaGreatDoorUA
namespace Go.Proofs.YtiigipnfnfpepaaGreatDoor
open Go.RowKit

def rIn (l : List Bool) (i : Nat) : Nat → List Bool
 | 0 => l
 | j + 1 => (rIn l i j).set (i * 2 ^ j % 127) true
def rOut : Nat → List Bool
 | 0 => List.replicate 127 false
 | i + 1 => rIn (rOut i) (i + 1) 7
def rootsL : List Bool := rOut 20
theorem rIn_len (l : List Bool) (i : Nat) : ∀ j, (rIn l i j).length = l.length
 | 0 => rfl
 | j + 1 => by simp only [rIn, List.length_set]; exact rIn_len l i j
theorem rOut_len : ∀ i, (rOut i).length = 127
 | 0 => List.length_replicate
 | i + 1 => by rw [rOut, rIn_len]; exact rOut_len i
theorem pow_le64 {j : Nat} (hj : j < 7) : 2 ^ j ≤ 64 := by
 have h : j = 0 ∨ j = 1 ∨ j = 2 ∨ j = 3 ∨ j = 4 ∨ j = 5 ∨ j = 6 := by omega
 rcases h with rfl | rfl | rfl | rfl | rfl | rfl | rfl <;> decide
theorem shl_in {i j : Nat} (hi : i ≤ 20) (hj : j < 7) : IntKind.i64.wrap ((i : Int) * 2 ^ j) = ((i * 2 ^ j : Nat) : Int) := by
 have h : i * 2 ^ j ≤ 20 * 64 := Nat.mul_le_mul hi (pow_le64 hj)
 have e : (i : Int) * 2 ^ j = ((i * 2 ^ j : Nat) : Int) := by simp
 rw [e]
 exact IntWalk.i64_in _ (by omega)

set_option maxRecDepth 20000 in
set_option maxHeartbeats 4000000 in
theorem roots_calls (w : World) : Calls Tryz.prog 96 #[] w fun e w' => e = .returned (.agg (bools rootsL)) ∧ Below w.heap.size w w' := by
 have hz : Tryz.zeroCells37 = bools (rOut 0) := by kernel_rfl
 have r0 : Blk ((w.alloc (.cells Tryz.zeroCells37 37)).alloc (.cells Tryz.zeroCells37 37)) w.heap.size 37 (bools (rOut 0)) := by
  rw [← hz]
  exact blk_alloc (blk_new w _ _) _
 have o0 : Blk ((w.alloc (.cells Tryz.zeroCells37 37)).alloc (.cells Tryz.zeroCells37 37)) (w.heap.size + 1) 37 (bools (rOut (1 - 1))) := by
  rw [Nat.sub_self, ← hz]
  have := blk_new (w.alloc (.cells Tryz.zeroCells37 37)) 37 Tryz.zeroCells37
  rw [World.size_alloc] at this
  exact this
 have R0 := hid r0
 have O0 := hid o0
 have B0 := hid (((Below.refl w.heap.size w).alloc (Nat.le_refl _) (.cells Tryz.zeroCells37 37)).alloc (by simp) (.cells Tryz.zeroCells37 37))
 clear r0 o0 hz
 go_enter Tryz.func96, Tryz.ntmps96
 go_wp2_with fail
 generalize (w.alloc (.cells Tryz.zeroCells37 37)).alloc (.cells Tryz.zeroCells37 37) = w1 at *
 go_loopg [2] 20 (fun gg s2 wr => ∃ i : Nat, 1 ≤ i ∧ i ≤ 21 ∧ 21 - i ≤ gg ∧ s2 = .int .i64 i ∧ Aside (Below w.heap.size w wr) ∧ Aside (Blk wr w.heap.size 37 (bools (rOut 0))) ∧ Aside (Blk wr (w.heap.size + 1) 37 (bools (rOut (i - 1)))))
 case atStart => exact ⟨1, Nat.le_refl _, by omega, by omega, rfl, B0.out, R0.out, O0.out⟩
 case round =>
  clear B0 R0 O0
  obtain ⟨i, hi1, hi2, hgk, rfl, B, R, O⟩ := hrel
  have hs := B.out.size
  by_cases hlt : i ≤ 20
  · have hltz : (i : Int) ≤ 20 := by omega
    have hi0 : (0 : Int) ≤ i := by omega
    have O1 := O.out
    rw [show rOut (i - 1) = rIn (rOut (i - 1)) i 0 from rfl] at O1
    have O2 := hid O1
    have HI := hid (show rIn (rOut (i - 1)) i 7 = rOut i by obtain ⟨k, rfl⟩ : ∃ k, i = k + 1 := ⟨i - 1, by omega⟩; rfl)
    have HL := hid (rOut_len (i - 1))
    clear O O1
    generalize rOut (i - 1) = l at *
    go_wp2_with fail
    go_loopg [8] 7 (fun gg s8 wr => ∃ j : Nat, j ≤ 7 ∧ 7 - j ≤ gg ∧ s8 = .int .i64 j ∧ Aside (Below w.heap.size w wr) ∧ Aside (Blk wr w.heap.size 37 (bools (rOut 0))) ∧ Aside (Blk wr (w.heap.size + 1) 37 (bools (rIn l i j))))
    case atStart => exact ⟨0, by omega, by omega, rfl, B.out, R.out, O2.out⟩
    case round =>
     clear B R O2
     obtain ⟨j, hj1, hgj, rfl, B, R, O⟩ := hrel
     have hs := B.out.size
     by_cases hjl : j < 7
     · have hjz : (j : Int) < 7 := by omega
       have hj0 : (0 : Int) ≤ j := by omega
       have hsh := shl_in hlt hjl
       have HS := hid (show rIn l i (j + 1) = (rIn l i j).set (i * 2 ^ j % 127) true from rfl)
       have HIL := hid (rIn_len l i j)
       have hm : i * 2 ^ j % 127 < 127 := Nat.mod_lt _ (by omega)
       have hp : 0 ≤ ((i * 2 ^ j : Nat) : Int) := by omega
       have he : ((i * 2 ^ j : Nat) : Int) % 127 = ((i * 2 ^ j % 127 : Nat) : Int) := rfl
       generalize i * 2 ^ j = a at *
       generalize a % 127 = q at *
       have cx := blk_bool O.out (i := q) (by rw [HIL.out, HL.out]; exact hm)
       have fx := blk_free O.out q
       have O1 := blk_set_bool O.out q true
       rw [← HS.out] at O1
       have O2 := hid O1
       have B1 := hid (below_set B.out (b := w.heap.size + 1) (i := q) (by omega) (.bool true))
       have R1 := hid (blk_far R.out (b := w.heap.size + 1) (i := q) (by omega) (.bool true))
       have q0 : (0 : Int) ≤ q := by omega
       have q1 : (q : Int) < 127 := by omega
       generalize (rIn l i j).getD q false = y at *
       clear B R O O1 HS HIL
       go_wp2_with fail
       go_roundg (7 - (j + 1))
       case measure => omega
       case rel => exact ⟨j + 1, by omega, by omega, by go_num, B1.out, R1.out, O2.out⟩
     · obtain rfl : j = 7 := by omega
       have O1 := O.out
       rw [HI.out] at O1
       have O2 := hid O1
       clear O O1
       go_wp2_with fail
       go_roundg (20 - i)
       case measure => omega
       case rel => exact ⟨i + 1, by omega, by omega, by omega, by go_num, B.out, R.out, by rw [Nat.add_sub_cancel]; exact O2.out⟩
  · obtain rfl : i = 21 := by omega
    have HSZ := hid (show (Tryz.prog.info? 37).map (·.size) = some (bools rootsL).size by rw [bools_size]; kernel_rfl)
    have HSS := hid (show (bools rootsL).size = (bools (rOut 0)).size by rw [bools_size, bools_size, rOut_len]; exact rOut_len 20)
    have HS1 := hid (bools_one rootsL)
    have O2 := hid (show Blk wr (w.heap.size + 1) 37 (bools rootsL) from O.out)
    clear O
    generalize hcs : bools rootsL = cs at *
    have HCS := hid hcs
    clear hcs
    generalize bools (rOut 0) = zs at *
    go_wp2_with (first | (refine wpList_load_blk (by rfl) 37 _ rfl (w.heap.size + 1) rfl 37 cs _ O2.out Tryz.underlying37 rfl HSZ.out ?_) | (refine wpList_store_blk rfl 37 _ _ rfl w.heap.size 37 _ cs rfl rfl R.out HSS.out HSZ.out HS1.out ?_; intro w5 n0 n1))
    have B5 := hid (below_grown B.out n1 B.out.size (Nat.le_refl _))
    exact bodyPost_ret (results_cell_row rfl _ _ w.heap.size 37 cs (0, 0) _ rfl n0 Tryz.underlying37 rfl HSZ.out) rfl ⟨by rw [HCS.out], B5.out⟩

def xorI (a b : Int) : Int := bits .xor .i64 a b
def genIn (fs out : List Int) (log : Nat) : Nat → List Int
 | 0 => List.replicate (out.length + 1) 0
 | i + 1 =>
  let a := (genIn fs out log i).set (i + 1) (xorI ((genIn fs out log i).getD (i + 1) 0) (out.getD i 0))
  a.set i (xorI (a.getD i 0) (mulE fs (out.getD i 0).toNat (expE fs log).toNat))
def genTo (fs : List Int) : Nat → List Int
 | 0 => [1]
 | k + 1 => if rootsL.getD k false then genIn fs (genTo fs k) k (genTo fs k).length else genTo fs k
def genL : List Int := genTo fieldL 127
theorem genIn_len (fs out : List Int) (log : Nat) : ∀ i, (genIn fs out log i).length = out.length + 1
 | 0 => List.length_replicate
 | i + 1 => by simp only [genIn, List.length_set]; exact genIn_len fs out log i
theorem genL_len : genL.length = 64 := by decide +kernel
end Go.Proofs.YtiigipnfnfpepaaGreatDoor
namespace Go.Proofs.YtiigipnfnfpepaaGreatDoor
open Go.RowKit

theorem run_index_any {P : Program} {t e : TypeId} {n : Nat} {inf : TypeInfo} (ht : P.underlying t = some (.array n e)) (hp : P.plainKey e = true) (hi : P.info? e = some inf) (h1 : inf.size = 1) (cs : Array Value) (v : Value) (i : Nat) (hx : cs[i]? = some v) (hlt : i < n) (w : World) :
 (Instr.index t (.agg cs) (.int .i64 i)).run P w = .ok v w := by
 have hlz : (0 : Int) ≤ (i : Int) ∧ (i : Int) < (n : Int) := by omega
 have hr := run_part_plain w hp hx
 have hlz1 := hlz.1
 have hlz2 := hlz.2
 simp [Instr.index, asIntOf, run_underlying ht, hlt, sizeOf, typeInfo, hi, h1, hr]

theorem xorI_in {a b : Int} (ha : 0 ≤ a ∧ a < 128) (hb : 0 ≤ b ∧ b < 128) : 0 ≤ xorI a b ∧ xorI a b < 128 := by
 obtain ⟨a, rfl⟩ : ∃ n : Nat, a = n := ⟨a.toNat, by omega⟩
 obtain ⟨b, rfl⟩ : ∃ n : Nat, b = n := ⟨b.toNat, by omega⟩
 have hx : a ^^^ b < 2 ^ 7 := Nat.xor_lt_two_pow (by omega) (by omega)
 have h1 : (BitVec.ofInt 64 (a : Int)).toNat = a := by
  rw [BitVec.ofInt_natCast, BitVec.toNat_ofNat]; exact Nat.mod_eq_of_lt (by omega)
 have h2 : (BitVec.ofInt 64 (b : Int)).toNat = b := by
  rw [BitVec.ofInt_natCast, BitVec.toNat_ofNat]; exact Nat.mod_eq_of_lt (by omega)
 have e : xorI a b = IntKind.i64.wrap ((a ^^^ b : Nat) : Int) := by
  show IntKind.i64.wrap ((BitVec.ofInt 64 (a : Int) ^^^ BitVec.ofInt 64 (b : Int)).toNat : Int) = _
  rw [BitVec.toNat_xor, h1, h2]
 rw [e, IntWalk.i64_in _ (by omega)]
 omega
theorem in_get {n : Nat} {zs : List Int} (hn : 0 < n) (h : InTo n zs) (i : Nat) : 0 ≤ zs.getD i 0 ∧ zs.getD i 0 < n := by
 by_cases hi : i < zs.length
 · exact h i hi
 · rw [List.getD_eq_getElem?_getD, List.getElem?_eq_none (by omega)]
   exact ⟨Int.le_refl _, by simpa using hn⟩
theorem exp_in (n : Nat) : 0 ≤ expE fieldL n ∧ expE fieldL n < 128 := by
 have h : ∀ i, i < 127 → 0 ≤ fieldL.getD i 0 ∧ fieldL.getD i 0 < 128 := by decide +kernel
 exact h (n % 127) (Nat.mod_lt _ (by omega))
theorem bmul_in (a b : Nat) : 0 ≤ mulE fieldL a b ∧ mulE fieldL a b < 128 := by
 unfold mulE
 split
 · exact ⟨Int.le_refl _, by omega⟩
 · exact exp_in _
theorem genIn_in {out : List Int} (h : InTo 128 out) (log : Nat) : ∀ i, i ≤ out.length → InTo 128 (genIn fieldL out log i)
 | 0, _ => fun j _ => by
  rw [genIn, List.getD_eq_getElem?_getD, List.getElem?_replicate]
  split <;> exact ⟨Int.le_refl _, by decide⟩
 | i + 1, hi => by
  have h0 := genIn_in h log i (by omega)
  have h1 : InTo 128 ((genIn fieldL out log i).set (i + 1) (xorI ((genIn fieldL out log i).getD (i + 1) 0) (out.getD i 0))) := inTo_set h0 _ (xorI_in (in_get (by omega) h0 _) (in_get (by omega) h _))
  exact inTo_set h1 _ (xorI_in (in_get (by omega) h1 _) (bmul_in _ _))
theorem genTo_in : ∀ k, InTo 128 (genTo fieldL k)
 | 0 => fun j hj => by
  have : j = 0 := by simpa [genTo] using hj
  subst this
  exact ⟨by decide, by decide⟩
 | k + 1 => by
  rw [genTo]
  split
  · exact genIn_in (genTo_in k) k _ (Nat.le_refl _)
  · exact genTo_in k
theorem genTo_len : ∀ k, (genTo fieldL k).length ≤ k + 1
 | 0 => Nat.le_refl _
 | k + 1 => by
  rw [genTo]
  have := genTo_len k
  split
  · rw [genIn_len]; omega
  · omega

theorem draws_set (w : World) (n : Nat) (p : Addr) (v : Value) : (w.drewN n).setCell p v = (w.setCell p v).drewN n := rfl

set_option maxRecDepth 20000 in
set_option maxHeartbeats 4000000 in
theorem generator_calls (w : World) : Calls Tryz.prog 53 #[] w fun e w' => ∃ g, e = .returned (.slice (some ⟨g, 0, none⟩) 64 64) ∧ w.heap.size ≤ g ∧ Blk w' g 3 (ints genL) ∧ Below w.heap.size w w' := by
 obtain ⟨inf, hinf, hzr, hsz, hby⟩ := info_parts (P := Tryz.prog) (e := 3) (z := .int .i64 0) (size := 1) (bytes := 8) (by kernel_rfl)
 have HMK := hid (fun (W : World) (n : Nat) (h : n ≤ 200) => by
  have := run_make (P := Tryz.prog) W 24 3 inf (.int .i64 0) Tryz.underlying24 hinf hzr .i64 .i64 n n (by omega) (Int.le_refl _) (by rw [hby]; omega) (by omega)
  rw [hsz, Int.toNat_natCast, Nat.mul_one, made_ints] at this
  exact this)
 obtain ⟨ifb, hifb, hzb, hszb, hbyb⟩ := info_parts (P := Tryz.prog) (e := 4) (z := .bool false) (size := 1) (bytes := 1) (by kernel_rfl)
 have HX := hid (fun (i : Nat) (h : i < 127) (W : World) => run_index_any (P := Tryz.prog) (t := 37) (e := 4) Tryz.underlying37 (by kernel_rfl) hifb hszb (bools rootsL) _ i (bools_get rootsL (by rw [show rootsL.length = 127 from rOut_len 20]; exact h)) h W)
 have cn := new_calls w
 clear hinf hzr hsz hby hifb hzb hszb hbyb
 go_enter Tryz.func53, Tryz.ntmps53
 go_wp2_with fail
 refine cn.mono ?_
 rintro e w1 ⟨rfl, F1, B1⟩
 have hs1 : w.heap.size < w1.heap.size := blk_lt F1
 have HF := hid F1
 clear cn F1
 have cr := roots_calls (w1.alloc (.cells (ints [1]) 3))
 have G1 := hid (show Blk (w1.alloc (.cells (ints [1]) 3)) w1.heap.size 3 (ints (genTo fieldL 0)) from blk_new w1 3 (ints [1]))
 have FA := hid (blk_alloc HF.out (.cells (ints [1]) 3))
 have BA := hid (B1.alloc (Nat.le_of_lt hs1) (.cells (ints [1]) 3))
 have hz2 : (w1.alloc (.cells (ints [1]) 3)).heap.size = w1.heap.size + 1 := World.size_alloc _ _
 clear HF B1
 go_wp2_with fail
 refine cr.mono ?_
 rintro e w3 ⟨rfl, C⟩
 have G3 := hid (blk_below G1.out C (by omega))
 have F3 := hid (blk_below FA.out C (by omega))
 have B3 := hid (bnext BA.out C)
 clear G1 FA BA cr C hz2
 generalize w1.heap.size = g1 at *
 generalize hag : Value.agg (bools rootsL) = ag at *
 have HAG := hid hag
 clear hag
 go_wp2_with fail
 go_loopg [14, 3] 127 (fun gg s14 s3 wr => ∃ kk g : Nat, kk ≤ 127 ∧ 127 - kk ≤ gg ∧ s14 = .int .i64 kk ∧ s3 = .slice (some ⟨g, 0, none⟩) (genTo fieldL kk).length (genTo fieldL kk).length ∧ w.heap.size < g ∧ Aside (Below w.heap.size w wr) ∧ Aside (Blk wr w.heap.size 216 (ints fieldL)) ∧ Aside (Blk wr g 3 (ints (genTo fieldL kk))))
 case atStart => exact ⟨0, g1, Nat.zero_le _, by omega, rfl, rfl, hs1, B3.out, F3.out, G3.out⟩
 case round =>
  clear B3 F3 G3
  obtain ⟨kk, g, hkk, hgk, rfl, rfl, hgw, B, F, G⟩ := hrel
  have hs := B.out.size
  by_cases hlt : kk < 127
  · have hkz : (kk : Int) < 127 := by omega
    have hk0 : (0 : Int) ≤ kk := by omega
    have hx := HX.out kk hlt
    have HT := hid (show genTo fieldL (kk + 1) = if rootsL.getD kk false then genIn fieldL (genTo fieldL kk) kk (genTo fieldL kk).length else genTo fieldL kk from rfl)
    have hlen := genTo_len kk
    have HIN := hid (genTo_in kk)
    have hmk := HMK.out wr ((genTo fieldL kk).length + 1) (by omega)
    generalize genTo fieldL kk = out at *
    cases hr : rootsL.getD kk false with
    | false =>
     rw [hr] at HT hx
     rw [if_neg (by decide)] at HT
     clear hmk
     go_wp2_with fail
     go_roundg (127 - (kk + 1))
     case measure => omega
     case rel => exact ⟨kk + 1, g, by omega, by omega, by go_num, by rw [HT.out], hgw, B.out, F.out, by rw [HT.out]; exact G.out⟩
    | true =>
     rw [hr] at HT hx
     rw [if_pos rfl] at HT
     generalize hn : out.length = n at *
     have HN := hid hn
     rw [show ((n + 1 : Nat) : Int) = (n : Int) + 1 from rfl] at hmk
     have i0 : IntKind.i64.wrap ((n : Int) + 1) = (n : Int) + 1 := IntWalk.i64_in _ (by omega)
     clear hn
     go_wp2_with fail
     have Q0 := hid (show Blk (wr.alloc (.cells (ints (List.replicate (n + 1) 0)) 3)) wr.heap.size 3 (ints (genIn fieldL out kk 0)) from by rw [genIn, HN.out]; exact blk_new _ _ _)
     have F0 := hid (blk_alloc F.out (.cells (ints (List.replicate (n + 1) 0)) 3))
     have G0 := hid (blk_alloc G.out (.cells (ints (List.replicate (n + 1) 0)) 3))
     have B0 := hid (B.out.alloc hs (.cells (ints (List.replicate (n + 1) 0)) 3))
     have hgq := blk_lt G.out
     clear B F G hmk hs i0 hx HX HMK
     generalize wr.heap.size = q at *
     generalize wr.alloc (.cells (ints (List.replicate (n + 1) 0)) 3) = w4 at *
     go_loopg [26] n (fun gg s26 wr => ∃ i : Nat, i ≤ n ∧ n - i ≤ gg ∧ s26 = .int .i64 i ∧ Aside (Below w.heap.size w wr) ∧ Aside (Blk wr w.heap.size 216 (ints fieldL)) ∧ Aside (Blk wr g 3 (ints out)) ∧ Aside (Blk wr q 3 (ints (genIn fieldL out kk i))))
     case atStart => exact ⟨0, Nat.zero_le _, by omega, rfl, B0.out, F0.out, G0.out, Q0.out⟩
     case round =>
      clear Q0 F0 G0 B0
      obtain ⟨i, hi, hgi, rfl, B, F, G, Q⟩ := hrel
      have hs := B.out.size
      by_cases hil : i < n
      · have hiz : (i : Int) < n := by omega
        have hi0 : (0 : Int) ≤ i := by omega
        have hi1 : (i : Int) + 1 < (n : Int) + 1 := by omega
        have i1 : IntKind.i64.wrap ((i : Int) + 1) = (i : Int) + 1 := IntWalk.i64_in _ (by omega)
        have HGL := hid (genIn_len fieldL out kk i)
        have cc := blk_int G.out (i := i) (by rw [HN.out]; exact hil)
        have hcin := HIN.out i (by rw [HN.out]; exact hil)
        have HS := hid (show genIn fieldL out kk (i + 1) = ((genIn fieldL out kk i).set (i + 1) (xorI ((genIn fieldL out kk i).getD (i + 1) 0) (out.getD i 0))).set i (xorI (((genIn fieldL out kk i).set (i + 1) (xorI ((genIn fieldL out kk i).getD (i + 1) 0) (out.getD i 0))).getD i 0) (mulE fieldL (out.getD i 0).toNat (expE fieldL kk).toNat)) from rfl)
        have c1 := blk_int Q.out (i := i + 1) (by rw [HGL.out, HN.out]; omega)
        have f1 := blk_free Q.out (i + 1)
        generalize (genIn fieldL out kk i).getD (i + 1) 0 = y1 at *
        generalize out.getD i 0 = c at *
        obtain ⟨m, rfl⟩ : ∃ m : Nat, c = m := ⟨c.toNat, by omega⟩
        rw [Int.toNat_natCast] at HS
        have Q1 := hid (blk_set_int Q.out (i + 1) (xorI y1 m))
        have F1 := hid (blk_far F.out (b := q) (i := i + 1) (by omega) (.int .i64 (xorI y1 m)))
        have G1 := hid (blk_far G.out (b := q) (i := i + 1) (by omega) (.int .i64 (xorI y1 m)))
        have B1 := hid (below_set B.out (b := q) (i := i + 1) (by omega) (.int .i64 (xorI y1 m)))
        have hm : m ≤ 1000000 := by omega
        clear B F G Q hcin
        generalize hxz : xorI y1 m = z at *
        have hxz' : bits .xor .i64 y1 m = z := hxz
        clear hxz
        go_wp2_with fail
        clear c1 f1 cc
        generalize wr.setCell ⟨q, i + 1, none⟩ (.int .i64 z) = w5 at *
        have c2 := blk_int Q1.out (i := i) (by rw [List.length_set, HGL.out, HN.out]; omega)
        have f2 := blk_free Q1.out i
        have ce := fun j => exp_calls fieldL kk w.heap.size (w5.drewN j) (by omega) fieldL_R.1 (blk_draws F1.out j)
        have hex := exp_in kk
        generalize expE fieldL kk = x at *
        obtain ⟨x, rfl⟩ : ∃ m : Nat, x = m := ⟨x.toNat, by omega⟩
        rw [Int.toNat_natCast] at HS
        have cm := fun j => mul_calls fieldL m x w.heap.size (w5.drewN j) hm (by omega) fieldL_R (blk_draws F1.out j)
        generalize mulE fieldL m x = u at *
        generalize ((genIn fieldL out kk i).set (i + 1) z).getD i 0 = y2 at *
        generalize hxv : xorI y2 u = v at *
        have hxv' : bits .xor .i64 y2 u = v := hxv
        have Q2 := hid (blk_set_int Q1.out i v)
        have F2 := hid (blk_far F1.out (b := q) (i := i) (by omega) (.int .i64 v))
        have G2 := hid (blk_far G1.out (b := q) (i := i) (by omega) (.int .i64 v))
        have B2 := hid (below_set B1.out (b := q) (i := i) (by have := B1.out.size; omega) (.int .i64 v))
        rw [← HS.out] at Q2
        clear hxv hex Q1 F1 G1 B1 HS
        have hi2 : (i : Int) < (n : Int) + 1 := by omega
        refine plain_region (S := (fun L W => (L.getD 12 true = true ∨ W.cell? ⟨q, i, none⟩ = some (.int .i64 y2)))) (by kernel_rfl) (Or.inr c2) (fun hHeld => ?_)
        clear hHeld
        refine aW 0 (Or.inr c2) ?_
        refine aW 1 (Or.inr c2) ?_
        refine aW 2 (Or.inr c2) ?_
        refine aL 3 12 (fun _ _ h k => rL k h) (Or.inr c2) ?_
        refine aW 4 (Or.inr c2) ?_
        refine aW 5 (Or.inr c2) ?_
        refine aW 6 (Or.inr c2) ?_
        refine aW 7 (Or.inr c2) ?_
        refine aR 8 (fun K hK => ?_)
        go_simp
        refine (ce _).mono ?_
        rintro e w' ⟨rfl, j1, rfl⟩
        refine hK.out _ _ (Or.inr c2) (fun hHeld => ?_)
        clear hK K
        try simp only [Act.put, tA, tB, tC]
        clear hHeld
        refine aR 9 (fun K hK => ?_)
        go_simp
        refine (cm _).mono ?_
        rintro e w' ⟨rfl, j2, rfl⟩
        refine hK.out _ _ (Or.inr c2) (fun hHeld => ?_)
        clear hK K
        try simp only [Act.put, tA, tB, tC]
        clear hHeld
        refine aW 10 (Or.inr c2) ?_
        refine aW 11 (Or.inr c2) ?_
        refine aR 12 (fun K hK => ?_)
        go_simp
        skip
        refine hK.out _ _ (Or.inl (by rfl)) (fun hHeld => ?_)
        clear hK K
        try simp only [Act.put, tA, tB, tC]
        clear hHeld
        refine anyU_done (by kernel_rfl) ?_ _
        clear c2 f2 ce cm
        rw [draws_set]
        have Q3 := hid (blk_draws Q2.out (1 + j1 + j2))
        have F3 := hid (blk_draws F2.out (1 + j1 + j2))
        have G3 := hid (blk_draws G2.out (1 + j1 + j2))
        have B3 := hid (below_draws B2.out (1 + j1 + j2))
        clear Q2 F2 G2 B2
        generalize (w5.setCell ⟨q, i, none⟩ (.int .i64 v)).drewN (1 + j1 + j2) = w6 at *
        go_wp2_with fail
        go_roundg (n - (i + 1))
        case measure => omega
        case rel => exact ⟨i + 1, by omega, by omega, by go_num, B3.out, F3.out, G3.out, Q3.out⟩
      · obtain rfl : i = n := by omega
        have Q1 := Q.out
        rw [← HT.out] at Q1
        have Q2 := hid Q1
        have HL := hid (show (genTo fieldL (kk + 1)).length = i + 1 by rw [HT.out, genIn_len, HN.out])
        clear Q Q1 HT G
        go_wp2_with fail
        go_roundg (127 - (kk + 1))
        case measure => omega
        case rel => exact ⟨kk + 1, q, by omega, by omega, by go_num, by rw [HL.out], by omega, B.out, F.out, Q2.out⟩
  · have he : kk = 127 := by omega
    have HL : (genTo fieldL kk).length = 64 := by rw [he]; exact genL_len
    have G1 := hid (show Blk wr g 3 (ints genL) by have h := G.out; rw [he] at h; unfold genL; exact h)
    clear G HX HMK
    rw [HL]
    clear HL
    subst he
    go_wp2_with fail
    go_ret
    exact ⟨g, rfl, by omega, G1.out, B.out⟩
end Go.Proofs.YtiigipnfnfpepaaGreatDoor
namespace Go.Proofs.YtiigipnfnfpepaaGreatDoor
open Go.RowKit

def wTo (x : Int) : Nat → List Bool
 | 0 => List.replicate 127 false
 | i + 1 => (wTo x i).set (63 + i) (bitB x i)
theorem wTo_len (x : Int) : ∀ i, (wTo x i).length = 127
 | 0 => List.length_replicate
 | i + 1 => by rw [wTo, List.length_set]; exact wTo_len x i
def restIn (g : List Int) (l : List Bool) (p : Nat) : Nat → List Bool
 | 0 => l
 | k + 1 => (restIn g l p k).set (p + k) ((restIn g l p k).getD (p + k) false != (g.getD k 0 == 1))
theorem restIn_len (g : List Int) (l : List Bool) (i : Nat) : ∀ k, (restIn g l i k).length = l.length
 | 0 => rfl
 | k + 1 => by rw [restIn, List.length_set]; exact restIn_len g l i k
def restTo (g : List Int) (x : Int) : Nat → List Bool
 | 0 => wTo x 64
 | t + 1 => if (restTo g x t).getD (126 - t) false then restIn g (restTo g x t) (63 - t) 64 else restTo g x t
theorem restTo_len (g : List Int) (x : Int) : ∀ t, (restTo g x t).length = 127
 | 0 => wTo_len x 64
 | t + 1 => by
  rw [restTo]
  split
  · rw [restIn_len]; exact restTo_len g x t
  · exact restTo_len g x t
def encL (x : Int) : List Bool := (restTo genL x 64).take 63 ++ (wTo x 64).drop 63
theorem encL_len (x : Int) : (encL x).length = 127 := by simp [encL, restTo_len, wTo_len]

set_option maxRecDepth 20000 in
set_option maxHeartbeats 4000000 in
theorem encode_calls (x : Int) (w : World) (hx : U64 x) : Calls Tryz.prog 24 #[.int .u64 x] w fun e w' => e = .returned (.agg (bools (encL x))) ∧ Below w.heap.size w w' := by
 obtain ⟨x0, x1⟩ := hx
 have hz : Tryz.zeroCells38 = bools (wTo x 0) := by kernel_rfl
 have HZ := hid hz
 have HZS := hid (show Tryz.zeroCells38.size = 127 by rw [hz, bools_size]; exact wTo_len x 0)
 have cg := generator_calls (w.alloc (.cells Tryz.zeroCells38 38))
 clear hz
 go_enter Tryz.func24, Tryz.ntmps24
 go_wp2_with fail
 refine cg.mono ?_
 rintro e w1 ⟨g, rfl, hgg, G, C⟩
 rw [World.size_alloc] at hgg
 have hgl := blk_lt G
 have Z1 := hid (blk_alloc (blk_alloc (blk_below (blk_new w 38 Tryz.zeroCells38) C (by simp)) (.cells Tryz.zeroCells38 38)) (.cells Tryz.zeroCells38 38))
 have B1 := hid (((((Below.refl w.heap.size w).alloc (Nat.le_refl _) (.cells Tryz.zeroCells38 38)).trans (C.mono (by simp))).alloc (by omega) (.cells Tryz.zeroCells38 38)).alloc (by rw [World.size_alloc]; omega) (.cells Tryz.zeroCells38 38))
 have G1 := hid (blk_alloc (blk_alloc G (.cells Tryz.zeroCells38 38)) (.cells Tryz.zeroCells38 38))
 have r1 := blk_new (w1.alloc (.cells Tryz.zeroCells38 38)) 38 Tryz.zeroCells38
 rw [World.size_alloc] at r1
 have R1 := hid r1
 have W1 := hid (show Blk ((w1.alloc (.cells Tryz.zeroCells38 38)).alloc (.cells Tryz.zeroCells38 38)) w1.heap.size 38 (bools (wTo x 0)) by rw [← HZ.out]; exact blk_alloc (blk_new w1 38 Tryz.zeroCells38) (.cells Tryz.zeroCells38 38))
 clear cg C G r1
 go_wp2_with fail
 generalize (w1.alloc (.cells Tryz.zeroCells38 38)).alloc (.cells Tryz.zeroCells38 38) = w2 at *
 generalize w1.heap.size = h at *
 generalize hzc : Tryz.zeroCells38 = zc at *
 clear hzc
 go_loopg [11] 64 (fun gg s11 wr => ∃ i : Nat, i ≤ 64 ∧ 64 - i ≤ gg ∧ s11 = .int .i64 i ∧ Aside (Below w.heap.size w wr) ∧ Aside (Blk wr w.heap.size 38 zc) ∧ Aside (Blk wr g 3 (ints genL)) ∧ Aside (Blk wr (h + 1) 38 zc) ∧ Aside (Blk wr h 38 (bools (wTo x i))))
 case atStart => exact ⟨0, Nat.zero_le _, by omega, rfl, B1.out, Z1.out, G1.out, R1.out, W1.out⟩
 case round =>
  clear B1 Z1 G1 R1 W1
  obtain ⟨i, hi, hgi, rfl, B, Z, G, R, W⟩ := hrel
  have hs := B.out.size
  by_cases hlt : i < 64
  · have hiz : (i : Int) < 64 := by omega
    have hi0 : (0 : Int) ≤ i := by omega
    have i1 : IntKind.i64.wrap (63 + (i : Int)) = ((63 + i : Nat) : Int) := by rw [IntWalk.i64_in _ (by omega)]; rfl
    have cx := blk_bool W.out (i := 63 + i) (by rw [wTo_len]; omega)
    have fx := blk_free W.out (63 + i)
    have HS := hid (show wTo x (i + 1) = (wTo x i).set (63 + i) (bitB x i) from rfl)
    generalize (wTo x i).getD (63 + i) false = y at *
    have O1 := blk_set_bool W.out (63 + i) (bitB x i)
    rw [← HS.out] at O1
    have W2 := hid O1
    have B2 := hid (below_set B.out (b := h) (i := 63 + i) (by omega) (.bool (bitB x i)))
    have Z2 := hid (blk_far Z.out (b := h) (i := 63 + i) (by omega) (.bool (bitB x i)))
    have G2 := hid (blk_far G.out (b := h) (i := 63 + i) (by omega) (.bool (bitB x i)))
    have R2 := hid (blk_far R.out (b := h) (i := 63 + i) (by omega) (.bool (bitB x i)))
    have hbt : (bits .and .u64 (x / 2 ^ i) 1 == 1) = bitB x i := rfl
    generalize bitB x i = q at *
    clear B Z G R W HS O1
    go_wp2_with fail
    clear cx fx i1
    go_roundg (64 - (i + 1))
    case measure => omega
    case rel => exact ⟨i + 1, by omega, by omega, by go_num, B2.out, Z2.out, G2.out, R2.out, W2.out⟩
  · obtain rfl : i = 64 := by omega
    have HSZ := hid (show (Tryz.prog.info? 38).map (·.size) = some (bools (wTo x 64)).size by rw [bools_size, wTo_len]; kernel_rfl)
    have HSS := hid (show (bools (wTo x 64)).size = zc.size by rw [HZS.out, bools_size]; exact wTo_len x 64)
    have HS1 := hid (bools_one (wTo x 64))
    have HWL := hid (wTo_len x 64)
    generalize hcs : bools (wTo x 64) = cs at *
    have HCS := hid hcs
    clear hcs
    go_wp2_with (first | (refine wpList_load_blk (by rfl) 38 _ rfl h rfl 38 cs _ W.out Tryz.underlying38 rfl HSZ.out ?_) | (refine wpList_store_blk rfl 38 _ _ rfl (h + 1) 38 _ cs rfl rfl R.out HSS.out HSZ.out HS1.out ?_; intro w5 n0 n1))
    have R2 := hid (show Blk w5 (h + 1) 38 (bools (restTo genL x 0)) by rw [show restTo genL x 0 = wTo x 64 from rfl, HCS.out]; exact n0)
    have W2 := hid (blk_grown W.out n1 (by simp))
    have Z2 := hid (blk_grown Z.out n1 (by simp; omega))
    have G2 := hid (blk_grown G.out n1 (by simp; omega))
    have B2 := hid (below_grown B.out n1 B.out.size (by omega))
    clear B Z G R W n0 n1
    go_loopg [7] 64 (fun gg s7 wr => ∃ t i : Nat, t ≤ 64 ∧ 64 - t ≤ gg ∧ i + t = 126 ∧ s7 = .int .i64 i ∧ Aside (Below w.heap.size w wr) ∧ Aside (Blk wr w.heap.size 38 zc) ∧ Aside (Blk wr g 3 (ints genL)) ∧ Aside (Blk wr (h + 1) 38 (bools (restTo genL x t))) ∧ Aside (Blk wr h 38 cs))
    case atStart => exact ⟨0, 126, Nat.zero_le _, by omega, rfl, rfl, B2.out, Z2.out, G2.out, R2.out, W2.out⟩
    case round =>
     clear B2 Z2 G2 R2 W2 hs hgi
     obtain ⟨t, i, ht, hgi, hit, rfl, B, Z, G, R, W⟩ := hrel
     have hs := B.out.size
     by_cases hlt : t < 64
     · have hi : 63 ≤ i := by omega
       have hiz : (63 : Int) ≤ i := by omega
       have hi0 : (0 : Int) ≤ i := by omega
       have hi1 : (i : Int) < 127 := by omega
       have cx := blk_bool R.out (i := i) (by rw [restTo_len]; omega)
       have HT := hid (show restTo genL x (t + 1) = if (restTo genL x t).getD i false then restIn genL (restTo genL x t) (i - 63) 64 else restTo genL x t by rw [restTo, show 126 - t = i by omega, show 63 - t = i - 63 by omega])
       have HL := hid (restTo_len genL x t)
       have iz : IntKind.i64.wrap ((i : Int) - 1) = ((i - 1 : Nat) : Int) := by rw [IntWalk.i64_in _ (by omega)]; omega
       have HI := hid (show (i : Int) - 1 = ((i - 1 : Nat) : Int) by omega)
       rw [← HI.out] at iz
       generalize restTo genL x t = l at *
       cases hr : l.getD i false with
       | false =>
        rw [hr] at HT cx
        rw [if_neg (by decide)] at HT
        go_wp2_with fail
        go_roundg (64 - (t + 1))
        case measure => omega
        case rel => exact ⟨t + 1, i - 1, by omega, by omega, by omega, by rw [← HI.out], B.out, Z.out, G.out, by rw [HT.out]; exact R.out, W.out⟩
       | true =>
        rw [hr] at HT cx
        rw [if_pos rfl] at HT
        obtain ⟨p, hp⟩ : ∃ p, p = i - 63 := ⟨_, rfl⟩
        rw [← hp] at HT
        have ip : IntKind.i64.wrap ((i : Int) - 63) = (p : Int) := by rw [IntWalk.i64_in _ (by omega)]; omega
        have hp63 : p < 64 := by omega
        have R0 := hid (show Blk wr (h + 1) 38 (bools (restIn genL l p 0)) from R.out)
        clear R hp
        go_wp2_with fail
        clear cx
        go_loopg [34] 64 (fun gg s34 wr => ∃ k : Nat, k ≤ 64 ∧ 64 - k ≤ gg ∧ s34 = .int .i64 k ∧ Aside (Below w.heap.size w wr) ∧ Aside (Blk wr w.heap.size 38 zc) ∧ Aside (Blk wr g 3 (ints genL)) ∧ Aside (Blk wr (h + 1) 38 (bools (restIn genL l p k))) ∧ Aside (Blk wr h 38 cs))
        case atStart => exact ⟨0, Nat.zero_le _, by omega, rfl, B.out, Z.out, G.out, R0.out, W.out⟩
        case round =>
         clear B Z G R0 W hs
         obtain ⟨k, hk, hgk, rfl, B, Z, G, R, W⟩ := hrel
         have hs := B.out.size
         by_cases hkl : k < 64
         · have hkz : (k : Int) < 64 := by omega
           have hk0 : (0 : Int) ≤ k := by omega
           have hp0 : (0 : Int) ≤ p := by omega
           have i2 : IntKind.i64.wrap ((p : Int) + k) = (p : Int) + k := IntWalk.i64_in _ (by omega)
           have hpk : (p : Int) + k < 127 := by omega
           have hpk0 : (0 : Int) ≤ (p : Int) + k := by omega
           have cg := blk_int G.out (i := k) (by rw [genL_len]; exact hkl)
           have cx := blk_bool R.out (i := p + k) (by rw [restIn_len, HL.out]; omega)
           have fx := blk_free R.out (p + k)
           have HS := hid (show restIn genL l p (k + 1) = (restIn genL l p k).set (p + k) ((restIn genL l p k).getD (p + k) false != (genL.getD k 0 == 1)) from rfl)
           generalize (restIn genL l p k).getD (p + k) false = y at *
           generalize genL.getD k 0 = c at *
           generalize hq : (y != (c == 1)) = q at *
           have hq' : (!(y == (c == 1))) = q := hq
           clear hq
           have O1 := blk_set_bool R.out (p + k) q
           rw [← HS.out] at O1
           have R2 := hid O1
           have B2 := hid (below_set B.out (b := h + 1) (i := p + k) (by omega) (.bool q))
           have Z2 := hid (blk_far Z.out (b := h + 1) (i := p + k) (by omega) (.bool q))
           have G2 := hid (blk_far G.out (b := h + 1) (i := p + k) (by omega) (.bool q))
           have W2 := hid (blk_far W.out (b := h + 1) (i := p + k) (by omega) (.bool q))
           clear B Z G R W HS O1
           go_wp2_with fail
           clear cx fx cg
           go_roundg (64 - (k + 1))
           case measure => omega
           case rel => exact ⟨k + 1, by omega, by omega, by go_num, B2.out, Z2.out, G2.out, R2.out, W2.out⟩
         · obtain rfl : k = 64 := by omega
           have R1 := R.out
           rw [← HT.out] at R1
           have R2 := hid R1
           clear R R1 HT
           go_wp2_with fail
           go_roundg (64 - (t + 1))
           case measure => omega
           case rel => exact ⟨t + 1, i - 1, by omega, by omega, by omega, by rw [← HI.out], B.out, Z.out, G.out, R2.out, W.out⟩
     · obtain rfl : t = 64 := by omega
       obtain rfl : i = 62 := by omega
       have hrl := restTo_len genL x 64
       have hcl : ((restTo genL x 64).take 63 |>.map Value.bool).length = 63 := by rw [List.length_map, List.length_take, hrl]; rfl
       have hcz : cs.size = 127 := by rw [← HCS.out, bools_size]; exact wTo_len x 64
       have hce : (cs.toList.take 0 ++ ((restTo genL x 64).take 63).map Value.bool ++ cs.toList.drop (0 + (((restTo genL x 64).take 63).map Value.bool).length)).toArray = bools (encL x) := by
        rw [hcl, ← HCS.out]
        simp [bools, encL]
       have hcp := run_copy_row (P := Tryz.prog) wr.drew 108 108 3 4 h 0 63 127 ⟨h + 1, 0, none⟩ 63 127 cs 38 (((restTo genL x 64).take 63).map Value.bool) Tryz.underlying108 (by kernel_rfl) W.out (by rw [hcl]; rfl)
        (fun j v hv => by
         have hj : j < 63 := by
          rcases Nat.lt_or_ge j 63 with h | h
          · exact h
          · rw [List.getElem?_eq_none (by rw [hcl]; exact h)] at hv; cases hv
         have h1 := blk_bool R.out (i := j) (by rw [hrl]; omega)
         rw [List.getElem?_map, List.getElem?_take_of_lt hj, List.getElem?_eq_getElem (by rw [hrl]; omega)] at hv
         rw [List.getD_eq_getElem?_getD, List.getElem?_eq_getElem (by rw [hrl]; omega)] at h1
         have h2 : wr.cell? ⟨h + 1, j, none⟩ = some v := h1.trans hv
         change wr.cell? _ = some v
         by_cases hj0 : j = 0
         · subst hj0
           simpa [Addr.add] using h2
         · simpa [Addr.add, hj0] using h2)
        (by rw [hcl, hcz]; omega) (by
         intro v hv
         obtain ⟨b, _, rfl⟩ := List.mem_map.1 hv
         rfl)
       rw [hce, hcl] at hcp
       have HSZ2 := hid (show (Tryz.prog.info? 38).map (·.size) = some (bools (encL x)).size by rw [bools_size, encL_len]; kernel_rfl)
       have HSS2 := hid (show (bools (encL x)).size = zc.size by rw [HZS.out, bools_size]; exact encL_len x)
       have HS2 := hid (bools_one (encL x))
       generalize hes : bools (encL x) = es at *
       have HES := hid hes
       have W2 := hid (show Blk (wr.drew.setRow h es) h 38 es from setRow_heap _ _ _ _ _ _ (blk_drew W.out))
       have Z2 := hid (show Blk (wr.drew.setRow h es) w.heap.size 38 zc from (setRow_other _ _ _ _ (by omega)).trans (blk_drew Z.out))
       have B2 := hid (show Below w.heap.size w (wr.drew.setRow h es) from below_setRow (B := w.heap.size) (g := h) (below_draws B.out 1) (by omega) es)
       clear hes hcl hcz hce hrl B Z G R W HCS HSZ HSS HS1
       go_wp2_with fail
       refine plain_region (S := (fun L W => True)) (by kernel_rfl) (trivial) (fun hHeld => ?_)
       clear hHeld
       refine aW 0 trivial ?_
       refine aW 1 trivial ?_
       refine aR 2 (fun K hK => ?_)
       go_simp
       skip
       refine hK.out _ _ (trivial) (fun hHeld => ?_)
       clear hK K
       try simp only [Act.put, tA, tB, tC]
       clear hHeld
       refine anyU_done (by kernel_rfl) ?_ _
       clear hcp
       generalize wr.drew.setRow h es = w7 at *
       go_wp2_with (first | (refine wpList_load_blk (by rfl) 38 _ rfl h rfl 38 es _ W2.out Tryz.underlying38 rfl HSZ2.out ?_) | (refine wpList_store_blk rfl 38 _ _ rfl w.heap.size 38 _ es rfl rfl Z2.out HSS2.out HSZ2.out HS2.out ?_; intro w8 n0 n1))
       have B5 := hid (below_grown B2.out n1 B2.out.size (Nat.le_refl _))
       exact bodyPost_ret (results_cell_row rfl _ _ w.heap.size 38 es (0, 0) _ rfl n0 Tryz.underlying38 rfl HSZ2.out) rfl ⟨by rw [HES.out], B5.out⟩
end Go.Proofs.YtiigipnfnfpepaaGreatDoor
namespace Go.Proofs.YtiigipnfnfpepaaGreatDoor
open Go.RowKit

theorem loadMay_calls (p : Int) (w : World) (h0 : 0 ≤ p) (h1 : p < 281474976710656) : Calls Tryz.prog 23 #[.int .i64 p] w fun e w' => e = .returned (.bool true) ∧ w = w' := by
 go_enter Tryz.func23, Tryz.ntmps23
 go_wp2_with fail
 go_ret
 exact ⟨rfl, rfl⟩

def payB (n : Int) (k : Nat) : List UInt8 := (List.range k).map fun i => valB (n / 2 ^ (8 * i) % 256)
theorem payB_len (n : Int) (k : Nat) : (payB n k).length = k := by simp [payB]
theorem payB_succ (n : Int) (k : Nat) : payB n (k + 1) = payB n k ++ [valB (n / 2 ^ (8 * k) % 256)] := by simp [payB, List.range_succ]
def checkI (kb : List UInt8) (n : Int) : Int := wrap64 (bits .and .u64 (sumL kb (payB n 6)) 65535)

set_option maxHeartbeats 2000000 in
theorem check_calls (kb : List UInt8) (n : Int) (w : World) (hk : kb.length = 16) (h0 : 0 ≤ n) (h1 : n < 281474976710656) (hS : Signs w) :
 Calls Tryz.prog 25 #[.agg (bytesV kb), .int .i64 n] w fun e w' => e = .returned (.int .i64 (checkI kb n)) ∧ Below w.heap.size w w' := by
 obtain ⟨inf, hinf, hzr, hsz, hby⟩ := info_parts (P := Tryz.prog) (e := 5) (z := .int .u8 0) (size := 1) (bytes := 1) (by kernel_rfl)
 have HF := hid (And.intro hinf (And.intro hzr (And.intro hsz hby)))
 have K0 := hid (blk_new w 23 (bytesV kb))
 have B0 := hid ((Below.refl w.heap.size w).alloc (Nat.le_refl _) (.cells (bytesV kb) 23))
 have HO := hid (show (w.alloc (.cells (bytesV kb) 23)).ownsRow (w.heap.size + 1) 5 1 (.slice none 0 0) 0 ((payB n 0).map fun b => Value.int .u8 (b.toNat : Int)) from ⟨rfl, .inl ⟨rfl, rfl⟩⟩)
 have HS := hid hS
 have HKS := hid (key_size hk)
 have HK := hid hk
 have cm := fun W => loadMay_calls n W h0 h1
 clear hS hinf hzr hsz hby hk
 go_enter Tryz.func25, Tryz.ntmps25
 go_wp2_with fail
 refine (cm _).mono ?_
 rintro e w' ⟨rfl, rfl⟩
 clear cm
 go_wp2_with fail
 generalize w.alloc (.cells (bytesV kb) 23) = w1 at *
 go_loopg [5, 10] 6 (fun gg s5 s10 wr => ∃ kk : Nat, kk ≤ 6 ∧ 6 - kk ≤ gg ∧ s10 = .int .i64 kk ∧ Aside (Below w.heap.size w wr) ∧ Aside (Blk wr w.heap.size 23 (bytesV kb)) ∧ Aside (wr.ownsRow (w.heap.size + 1) 5 1 s5 kk ((payB n kk).map fun b => Value.int .u8 (b.toNat : Int))))
 case atStart => exact ⟨0, Nat.zero_le _, by omega, rfl, B0.out, K0.out, HO.out⟩
 case round =>
  clear B0 K0 HO
  obtain ⟨kk, hkk, hgk, rfl, B, K, O⟩ := hrel
  by_cases hlt : kk < 6
  · have hltz : (kk : Int) < 6 := by omega
    have hk0 : (0 : Int) ≤ kk := by omega
    have hs := B.out.size
    have hkl := blk_lt K.out
    go_wp2_with (first | (at_builtin; refine wpList_append_own _ rfl _ _ 109 rfl (w.heap.size + 1) 5 inf (.int .u8 0) 1 1 Tryz.underlying109 HF.out.1 HF.out.2.1 HF.out.2.2.1 HF.out.2.2.2 rfl (by decide) _ kk _ rfl (O.out.alloc _) ⟨wr.heap.size, 0, none⟩ 1 1 [.int .u8 (n / 2 ^ (8 * kk) % 256)] rfl rfl (cell_one_new _ _ _) (by simp [Value.oneCell']) (by unfold maxLen; omega) (by omega) (by simp; omega) ?_; intro v' w5 hown' hgrow _))
    have hol := O.out.lt
    have B5 := hid ((B.out.alloc hs (.cells #[.int .u8 (n / 2 ^ (8 * kk) % 256)] 5)).grown hgrow (by simp; omega) (fun k e => by have := (hol k e).1; omega))
    have K5 := hid (blk_grown (blk_alloc K.out (.cells #[.int .u8 (n / 2 ^ (8 * kk) % 256)] 5)) hgrow (fun e => by have := (hol _ e.symm).1; omega))
    rw [u8_val, show [Value.int .u8 ((valB (n / 2 ^ (8 * kk) % 256)).toNat : Int)] = [valB (n / 2 ^ (8 * kk) % 256)].map (fun b => Value.int .u8 (b.toNat : Int)) from rfl, ← List.map_append, ← payB_succ] at hown'
    have O5 := hid hown'
    clear hown' hgrow hol O B K
    go_wp2_with fail
    go_roundg (6 - (kk + 1))
    case measure => omega
    case rel => exact ⟨kk + 1, by omega, by omega, by go_num, B5.out, K5.out, O5.out⟩
  · obtain rfl : kk = 6 := by omega
    have hc := conv_owns O.out (by omega)
    have cs := sum_calls kb (payB n 6) wr HK.out (by rw [payB_len]; omega) (signs_below HS.out B.out (signs_size HS.out))
    have HCI := hid (show wrap64 (bits .and .u64 (sumL kb (payB n 6)) 65535) = checkI kb n from rfl)
    generalize sumL kb (payB n 6) = y at *
    go_wp2_with (first | (refine wpList_load_blk (by rfl) 23 _ rfl w.heap.size rfl 23 (bytesV kb) _ K.out Tryz.underlying23 rfl HKS.out ?_))
    refine cs.mono ?_
    rintro e w2 ⟨rfl, B2⟩
    have B3 := hid (bnext B.out B2)
    clear cs hc B K O B2
    go_wp2_with fail
    go_ret
    exact ⟨ret_i64 HCI.out, B3.out⟩

theorem results_row_slot {P : Program} {fn : Func} {p q : Tmp} {ty : TypeId} (h : fn.results = #[.cell p ty, .tmp q]) (tmps : Array Value) (w : World) (g : Nat) (t : TypeId) (cs : Array Value) (fr : Nat × Nat) (d : TypeDesc) (v : Value)
 (hp : tmps.getD p undef = .pointer (some ⟨g, 0, none⟩)) (hq : tmps.getD q undef = v) (hg : w.heap[g]? = some (.cells cs t fr))
 (hu : P.underlying ty = some d) (hd : (match d with | .struct _ | .array _ _ => true | _ => false) = true) (hi : (P.info? ty).map (·.size) = some cs.size) :
 (results fn tmps).run P w = .ok (.tuple #[.agg cs, v]) w := by
 have hp' : tmps[p]?.getD undef = .pointer (some ⟨g, 0, none⟩) := by simpa using hp
 have hq' : tmps[q]?.getD undef = v := by simpa using hq
 simp [results, h, hp', hq', asAddr, run_loadVar_row w g t ty cs fr d hg hu hd hi]
def payX (kb : List UInt8) (n : Int) : Int := bits .or .u64 n (IntKind.u64.wrap (IntKind.u64.wrap (checkI kb n) * 281474976710656))
def payW (kb : List UInt8) (n : Int) : List Bool := encL (payX kb n)
theorem payW_len (kb : List UInt8) (n : Int) : (payW kb n).length = 127 := encL_len _

set_option maxHeartbeats 2000000 in
theorem loadLay_calls (kb : List UInt8) (n : Int) (w : World) (hk : kb.length = 16) (h0 : 0 ≤ n) (h1 : n < 281474976710656) (hS : Signs w) :
 Calls Tryz.prog 10 #[.agg (bytesV kb), .int .i64 n] w fun e w' => e = .returned (.tuple #[.agg (bools (payW kb n)), .int .i64 0]) ∧ Below w.heap.size w w' := by
 have cm := fun W => loadMay_calls n W h0 h1
 have HKS := hid (key_size hk)
 have K0 := hid (blk_alloc (blk_new w 23 (bytesV kb)) (.cells Tryz.zeroCells38 38))
 have r0 := blk_new (w.alloc (.cells (bytesV kb) 23)) 38 Tryz.zeroCells38
 rw [World.size_alloc] at r0
 have R0 := hid r0
 have B0 := hid (((Below.refl w.heap.size w).alloc (Nat.le_refl _) (.cells (bytesV kb) 23)).alloc (by rw [World.size_alloc]; omega) (.cells Tryz.zeroCells38 38))
 have hz2 : ((w.alloc (.cells (bytesV kb) 23)).alloc (.cells Tryz.zeroCells38 38)).heap.size = w.heap.size + 1 + 1 := by rw [World.size_alloc, World.size_alloc]
 have cc := check_calls kb n ((w.alloc (.cells (bytesV kb) 23)).alloc (.cells Tryz.zeroCells38 38)) hk h0 h1 (signs_below hS B0.out (signs_size hS))
 have ce := fun W => encode_calls (payX kb n) W (u64_bits _ _ _)
 rw [show encL (payX kb n) = payW kb n from rfl] at ce
 rw [show payX kb n = bits .or .u64 n (IntKind.u64.wrap (IntKind.u64.wrap (checkI kb n) * 281474976710656)) from rfl] at ce
 have HSZ := hid (show (Tryz.prog.info? 38).map (·.size) = some (bools (payW kb n)).size by rw [bools_size, payW_len]; kernel_rfl)
 have HSS := hid (show (bools (payW kb n)).size = Tryz.zeroCells38.size by rw [show Tryz.zeroCells38 = bools (wTo 0 0) by kernel_rfl, bools_size, bools_size, payW_len, wTo_len])
 have HS1 := hid (bools_one (payW kb n))
 generalize checkI kb n = c at *
 generalize hcs : bools (payW kb n) = cs at *
 have HCS := hid hcs
 clear hS hk r0
 go_enter Tryz.func10, Tryz.ntmps10
 go_wp2_with fail
 refine (cm _).mono ?_
 rintro e w' ⟨rfl, rfl⟩
 clear cm
 go_wp2_with (first | (refine wpList_load_blk (by rfl) 23 _ rfl w.heap.size rfl 23 (bytesV kb) _ K0.out Tryz.underlying23 rfl HKS.out ?_))
 refine cc.mono ?_
 rintro e w2 ⟨rfl, C⟩
 go_wp2_with fail
 refine (ce _).mono ?_
 rintro e w3 ⟨rfl, C2⟩
 have B2 := hid (bnext (B0.out.trans (C.mono (by omega))) C2)
 have hlt := blk_lt R0.out
 have R2 := hid (blk_below (blk_below R0.out C (by omega)) C2 (by have := C.size; omega))
 clear C C2 K0 R0 B0 cc ce hcs
 go_wp2_with (first | (refine wpList_store_blk rfl 38 _ _ rfl (w.heap.size + 1) 38 _ cs rfl rfl R2.out HSS.out HSZ.out HS1.out ?_; intro w5 n0 n1))
 have B5 := hid (below_grown B2.out n1 B2.out.size (by omega))
 exact bodyPost_ret (results_row_slot rfl _ _ (w.heap.size + 1) 38 cs (0, 0) _ _ rfl rfl n0 Tryz.underlying38 rfl HSZ.out) rfl ⟨by rw [← HCS.out]; rfl, B5.out⟩
end Go.Proofs.YtiigipnfnfpepaaGreatDoor
