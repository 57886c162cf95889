/- Keyed orders (layer 2). Keyed bands, places, chips, subsets (layer 2). Keyed chips and subsets (layer 2). A keyed subset (layer 2): the walk. The field of 128 elements (layer 4): the walks. The field  -/
import Derived.Test.YtiigipnfnfpepaaGreatDoorUC1
import Derived.Test.YtiigipnfnfpepaaGreatDoorUA
import Derived.Deep.LoopGhost
import Derived.Laws.ResultCell
import Derived.Deep.Cut
namespace Go.Proofs.YtiigipnfnfpepaaGreatDoor
open Go.RowKit

theorem made_ints (n : Nat) : madeCells (Value.int .i64 0).cells n = ints (List.replicate n 0) := by
 apply Array.ext_getElem?
 intro p
 rcases Nat.lt_or_ge p n with hp | hp
 · simp [madeCells, ints, hp, Value.cells, Nat.mod_one]
 · rw [Array.getElem?_eq_none (by rw [size_madeCells]; omega), Array.getElem?_eq_none (by rw [ints_size, List.length_replicate]; exact hp)]

def swapL (zs : List Int) (i j : Nat) : List Int := (zs.set i (zs.getD j 0)).set j (zs.getD i 0)
theorem swapL_len (zs : List Int) (i j : Nat) : (swapL zs i j).length = zs.length := by simp [swapL]
def ordJ (kb : List UInt8) (sign : UInt8) (i : Nat) : Nat := (keyNum kb sign i % ((i : Int) + 1)).toNat
theorem ordJ_lt (kb : List UInt8) (sign : UInt8) (i : Nat) : ordJ kb sign i < i + 1 := by
 unfold ordJ
 have h1 := Int.emod_nonneg (keyNum kb sign i) (b := (i : Int) + 1) (by omega)
 have h2 := Int.emod_lt_of_pos (keyNum kb sign i) (b := (i : Int) + 1) (by omega)
 omega
theorem ordJ_eq (kb : List UInt8) (sign : UInt8) (i : Nat) : keyNum kb sign i % ((i : Int) + 1) = (ordJ kb sign i : Int) :=
 (Int.toNat_of_nonneg (Int.emod_nonneg (keyNum kb sign i) (b := (i : Int) + 1) (by omega))).symm
def ordTo (kb : List UInt8) (sign : UInt8) (n : Nat) : Nat → List Int
 | 0 => (List.range n).map Int.ofNat
 | t + 1 => swapL (ordTo kb sign n t) (n - 1 - t) (ordJ kb sign (n - 1 - t))
theorem cast_pred {i : Nat} (h : 0 < i) : (i : Int) - 1 = ((i - 1 : Nat) : Int) := by omega
theorem ord_next (kb : List UInt8) (sign : UInt8) {n i : Nat} (h0 : 0 < i) (h1 : i ≤ n - 1) : ordTo kb sign n (n - 1 - (i - 1)) = swapL (ordTo kb sign n (n - 1 - i)) i (ordJ kb sign i) := by
 rw [show n - 1 - (i - 1) = n - 1 - i + 1 by omega, ordTo, show n - 1 - (n - 1 - i) = i by omega]
def ordL (kb : List UInt8) (sign : UInt8) (n : Nat) : List Int := ordTo kb sign n (n - 1)
theorem ordTo_len (kb : List UInt8) (sign : UInt8) (n : Nat) : ∀ t, (ordTo kb sign n t).length = n
 | 0 => by simp [ordTo]
 | t + 1 => (swapL_len _ _ _).trans (ordTo_len kb sign n t)
def InTo (n : Nat) (zs : List Int) : Prop := ∀ i, i < zs.length → 0 ≤ zs.getD i 0 ∧ zs.getD i 0 < n
theorem inTo_set {n : Nat} {zs : List Int} (h : InTo n zs) (i : Nat) {v : Int} (hv : 0 ≤ v ∧ v < n) : InTo n (zs.set i v) := fun j hj => by
 rw [List.length_set] at hj
 by_cases e : i = j
 · subst e
   rw [getD_set_same v hj]
   exact hv
 · rw [getD_set_other v e]
   exact h j hj
theorem inTo_swap {n : Nat} {zs : List Int} (h : InTo n zs) {i j : Nat} (hi : i < zs.length) (hj : j < zs.length) : InTo n (swapL zs i j) := inTo_set (inTo_set h i (h j hj)) j (h i hi)
theorem ordTo_in (kb : List UInt8) (sign : UInt8) {n : Nat} (hn : 0 < n) : ∀ t, t < n → InTo n (ordTo kb sign n t)
 | 0, _ => fun i hi => by
  have hi' : i < n := by rwa [ordTo_len] at hi
  simp only [ordTo, List.getD_eq_getElem?_getD, List.getElem?_map, List.getElem?_range hi', Option.map_some, Option.getD_some]
  exact ⟨Int.natCast_nonneg i, Int.ofNat_lt.2 hi'⟩
 | t + 1, ht => inTo_swap (ordTo_in kb sign hn t (by omega)) (by rw [ordTo_len]; omega) (by rw [ordTo_len]; have := ordJ_lt kb sign (n - 1 - t); omega)
theorem ordL_len (kb : List UInt8) (sign : UInt8) (n : Nat) : (ordL kb sign n).length = n := ordTo_len _ _ _ _
theorem ordL_in (kb : List UInt8) (sign : UInt8) {n : Nat} (hn : 0 < n) : InTo n (ordL kb sign n) := ordTo_in kb sign hn _ (by omega)

set_option maxHeartbeats 4000000 in
theorem order_calls (kb : List UInt8) (sign : UInt8) (n : Nat) (w : World) (hk : kb.length = 16) (h0 : 1 ≤ n) (h1 : n ≤ 256) (hS : Signs w) :
 Calls Tryz.prog 33 #[.agg (bytesV kb), .int .u8 (sign.toNat : Int), .int .i64 n] w fun e w' => ∃ g, e = .returned (.slice (some ⟨g, 0, none⟩) n n) ∧ w.heap.size ≤ g ∧ Blk w' g 3 (ints (ordL kb sign n)) ∧ Below w.heap.size w w' := by
 obtain ⟨inf, hinf, hzr, hsz, hby⟩ := info_parts (P := Tryz.prog) (e := 3) (z := .int .i64 0) (size := 1) (bytes := 8) (by kernel_rfl)
 have hmk := fun (W : World) => run_make (P := Tryz.prog) W 24 3 inf (.int .i64 0) Tryz.underlying24 hinf hzr .i64 .i64 n n (by omega) (Int.le_refl _) (by rw [hby]; omega) (by omega)
 rw [hsz, Int.toNat_natCast, Nat.mul_one, made_ints] at hmk
 have hmk0 := hmk (w.alloc (.cells (bytesV kb) 23))
 have B0 := hid (((Below.refl w.heap.size w).alloc (Nat.le_refl _) (.cells (bytesV kb) 23)).alloc (by simp) (.cells (ints (List.replicate n 0)) 3))
 have K0 := hid (blk_alloc (blk_new w 23 (bytesV kb)) (.cells (ints (List.replicate n 0)) 3))
 have O0 : Blk ((w.alloc (.cells (bytesV kb) 23)).alloc (.cells (ints (List.replicate n 0)) 3)) (w.heap.size + 1) 3 (ints (overTo (fun i => (i : Int)) (List.replicate n 0) 0)) := by
  have := blk_new (w.alloc (.cells (bytesV kb) 23)) 3 (ints (List.replicate n 0))
  rw [World.size_alloc] at this
  rw [overTo_zero]
  exact this
 have HO := hid O0
 have HS := hid hS
 have HKS := hid (key_size hk)
 have HK := hid hk
 have g1 : (1 : Int) ≤ n := by omega
 have g2 : ¬ (256 : Int) < n := by omega
 have g3 : ¬ (n : Int) < 1 := by omega
 clear hmk hinf hzr hsz hby hS hk O0
 go_enter Tryz.func33, Tryz.ntmps33
 go_wp2_with fail
 clear hmk0
 obtain ⟨g, hg⟩ : ∃ g, g = w.heap.size + 1 := ⟨_, rfl⟩
 have hgw : w.heap.size < g := by omega
 rw [← hg] at HO ⊢
 clear hg
 go_loopg [21] n (fun gg s21 wr => ∃ kk : Nat, kk ≤ n ∧ n - kk ≤ gg ∧ s21 = .int .i64 kk ∧ Aside (Below w.heap.size w wr) ∧ Aside (Blk wr w.heap.size 23 (bytesV kb)) ∧ Aside (Blk wr g 3 (ints (overTo (fun i => (i : Int)) (List.replicate n 0) kk))))
 case atStart => exact ⟨0, Nat.zero_le _, by omega, rfl, B0.out, K0.out, HO.out⟩
 case round =>
  clear B0 K0 HO
  obtain ⟨kk, hkk, hgk, rfl, B, K, O⟩ := hrel
  have hs := B.out.size
  by_cases hlt : kk < n
  · have hltz : (kk : Int) < n := by omega
    have hk0 : (0 : Int) ≤ kk := by omega
    have lr : (List.replicate n (0 : Int)).length = n := List.length_replicate
    have cx := blk_int O.out (i := kk) (by rw [overTo_len]; omega)
    have fx := blk_free O.out kk
    have hsu := overTo_succ (g := fun i => (i : Int)) (zs := List.replicate n 0) (k := kk) (v := kk) rfl (by omega)
    have HSU := hid hsu
    clear hsu lr
    generalize (overTo (fun i => (i : Int)) (List.replicate n 0) kk).getD kk 0 = x at *
    go_wp2_with fail
    have B1 := hid (below_set B.out (b := g) (i := kk) (by omega) (.int .i64 kk))
    have K1 := hid (blk_far K.out (b := g) (i := kk) (by omega) (.int .i64 kk))
    have O1 := blk_set_int O.out kk (kk : Int)
    rw [HSU.out] at O1
    have O2 := hid O1
    clear B K O O1 cx fx
    go_roundg (n - (kk + 1))
    case measure => omega
    case rel => exact ⟨kk + 1, by omega, by omega, by go_num, B1.out, K1.out, O2.out⟩
  · obtain rfl : n = kk := by omega
    have hltz : ¬ (n : Int) < n := by omega
    have hO := O.out
    rw [overTo_all List.length_replicate, show List.map (fun i : Nat => (i : Int)) (List.range n) = ordTo kb sign n 0 from rfl] at hO
    have O0 := hid hO
    clear O hO
    go_wp2_with fail
    go_loopg [9] (n - 1) (fun gg s9 wr => ∃ i : Nat, i ≤ n - 1 ∧ i ≤ gg ∧ s9 = .int .i64 (i : Int) ∧ Aside (Below w.heap.size w wr) ∧ Aside (Blk wr w.heap.size 23 (bytesV kb)) ∧ Aside (Blk wr g 3 (ints (ordTo kb sign n (n - 1 - i)))))
    case atStart => exact ⟨n - 1, Nat.le_refl _, Nat.le_refl _, by rw [cast_pred h0], B.out, K.out, by rw [Nat.sub_self]; exact O0.out⟩
    case round =>
     clear B K O0 hs hkk hgk hltz
     obtain ⟨i, hi1', hgi, rfl, B, K, O⟩ := hrel
     have hs := B.out.size
     by_cases hi0 : 0 < i
     · have hi1 : i < n := by omega
       have hi0z : (0 : Int) < i := by omega
       have hi1z : (i : Int) < n := by omega
       have HOT := hid (ord_next kb sign hi0 hi1')
       have HIT := hid (cast_pred hi0)
       have cn := num_calls kb sign i wr HK.out (by omega) (by omega) (signs_below HS.out B.out (signs_size HS.out))
       have hu := keyNum_u64 kb sign i
       have hj := ordJ_lt kb sign i
       have hje := ordJ_eq kb sign i
       have HJE := hid hje
       have HLN := hid (ordTo_len kb sign n (n - 1 - i))
       clear hje
       obtain ⟨hu0, hu1⟩ := hu
       have hbi : (i : Int) + 1 ≤ 256 := by omega
       go_wp2_with (first | (refine wpList_load_blk (by rfl) 23 _ rfl w.heap.size rfl 23 (bytesV kb) _ K.out Tryz.underlying23 rfl HKS.out ?_))
       refine cn.mono ?_
       rintro e w2 ⟨rfl, C2⟩
       have B2 := hid (bnext B.out C2)
       have K2 := hid (blk_below K.out C2 (blk_lt K.out))
       have O2 := hid (blk_below O.out C2 (blk_lt O.out))
       clear cn C2 B K O
       generalize ordTo kb sign n (n - 1 - i) = zs at *
       generalize ordJ kb sign i = j at *
       generalize keyNum kb sign i = q at *
       have hje := HJE.out
       clear hu1
       have cj := blk_int O2.out (i := j) (by rw [HLN.out]; omega)
       have ci := blk_int O2.out (i := i) (by rw [HLN.out]; omega)
       have fi := blk_free O2.out i
       have fj := blk_free O2.out j
       go_wp2_with fail
       clear hje hu0
       have hj0 : (0 : Int) ≤ j := by omega
       have hj1 : (j : Int) < n := by omega
       have hi2 : (0 : Int) ≤ i := by omega
       have hsw : swapL zs i j = (zs.set i (zs.getD j 0)).set j (zs.getD i 0) := rfl
       rw [hsw] at HOT
       clear hsw
       generalize zs.getD j 0 = x at *
       generalize zs.getD i 0 = y at *
       have O3 := blk_set_int O2.out i x
       have c3 := blk_int O3 (i := j) (by rw [List.length_set, HLN.out]; omega)
       generalize (zs.set i x).getD j 0 = z at *
       have O4 := hid (blk_set_int O3 j y)
       have B4 := hid (below_set (below_set B2.out (b := g) (i := i) (by omega) (.int .i64 x)) (b := g) (i := j) (by omega) (.int .i64 y))
       have K4 := hid (blk_far (blk_far K2.out (b := g) (i := i) (by omega) (.int .i64 x)) (b := g) (i := j) (by omega) (.int .i64 y))
       clear O2 O3 B2 K2
       have hjn : j < n := by omega
       refine plain_region (S := (fun L W => (L.getD 13 true = true ∨ W.cell? ⟨g, j, none⟩ = some (.int .i64 x)) ∧ (L.getD 13 true = true ∨ W.cell? ⟨g, i, none⟩ = some (.int .i64 y)))) (by kernel_rfl) (⟨Or.inr cj, Or.inr ci⟩) (fun hHeld => ?_)
       clear hHeld
       refine aW 0 ⟨Or.inr cj, Or.inr ci⟩ ?_
       refine aW 1 ⟨Or.inr cj, Or.inr ci⟩ ?_
       refine aW 2 ⟨Or.inr cj, Or.inr ci⟩ ?_
       refine aW 3 ⟨Or.inr cj, Or.inr ci⟩ ?_
       refine aW 4 ⟨Or.inr cj, Or.inr ci⟩ ?_
       refine aW 5 ⟨Or.inr cj, Or.inr ci⟩ ?_
       refine aZ 6 (v := (.pointer (some ⟨g, j, none⟩))) rfl (Or.inl ⟨by rfl, fun W _ => index_sl0 (.tmp 48) (.tmp 49) g n n j rfl rfl rfl hjn W⟩) ⟨Or.inr cj, Or.inr ci⟩ ?_
       refine aL 7 13 (fun _ _ h k => rL k.1 h) ⟨Or.inr cj, Or.inr ci⟩ ?_
       refine aW 8 ⟨Or.inr cj, Or.inr ci⟩ ?_
       refine aW 9 ⟨Or.inr cj, Or.inr ci⟩ ?_
       refine aZ 10 (v := (.pointer (some ⟨g, i, none⟩))) rfl (Or.inl ⟨by rfl, fun W _ => index_sl0 (.tmp 52) (.tmp 53) g n n i rfl rfl rfl hi1 W⟩) ⟨Or.inr cj, Or.inr ci⟩ ?_
       refine aL 11 13 (fun _ _ h k => rL k.2 h) ⟨Or.inr cj, Or.inr ci⟩ ?_
       refine aZ 12 (v := (.pointer (some ⟨g, i, none⟩))) rfl (Or.inl ⟨by rfl, fun W _ => index_sl0 (.tmp 44) (.tmp 45) g n n i rfl rfl rfl hi1 W⟩) ⟨Or.inr cj, Or.inr ci⟩ ?_
       refine aR 13 (fun K hK => ?_)
       go_simp
       skip
       refine hK.out _ _ (⟨Or.inl (by rfl), Or.inl (by rfl)⟩) (fun hHeld => ?_)
       clear hK K
       try simp only [Act.put, tA, tB, tC]
       clear hHeld
       refine aZ 14 (v := (.pointer (some ⟨g, j, none⟩))) rfl (Or.inl ⟨by rfl, fun W _ => index_sl0 (.tmp 46) (.tmp 47) g n n j rfl rfl rfl hjn W⟩) ⟨Or.inl (by rfl), Or.inl (by rfl)⟩ ?_
       refine aR 15 (fun K hK => ?_)
       go_simp
       skip
       refine hK.out _ _ (⟨Or.inl (by rfl), Or.inl (by rfl)⟩) (fun hHeld => ?_)
       clear hK K
       try simp only [Act.put, tA, tB, tC]
       clear hHeld
       refine anyU_done (by kernel_rfl) ?_ _
       clear ci cj fi fj c3
       have B5 := hid (show Below w.heap.size w ((w2.setCell ⟨g, i, none⟩ (.int .i64 x)).setCell ⟨g, j, none⟩ (.int .i64 y)).drew from below_draws B4.out 1)
       have K5 := hid (show Blk ((w2.setCell ⟨g, i, none⟩ (.int .i64 x)).setCell ⟨g, j, none⟩ (.int .i64 y)).drew w.heap.size 23 (bytesV kb) from K4.out)
       have O5 := hid (show Blk ((w2.setCell ⟨g, i, none⟩ (.int .i64 x)).setCell ⟨g, j, none⟩ (.int .i64 y)).drew g 3 (ints ((zs.set i x).set j y)) from O4.out)
       clear B4 K4 O4
       generalize ((w2.setCell ⟨g, i, none⟩ (.int .i64 x)).setCell ⟨g, j, none⟩ (.int .i64 y)).drew = w5 at *
       rw [← HOT.out] at O5
       have hci := HIT.out
       go_wp2_with fail
       clear hci
       go_roundg (i - 1)
       case measure => omega
       case rel => exact ⟨i - 1, by omega, Nat.le_refl _, rfl, B5.out, K5.out, O5.out⟩
     · obtain rfl : i = 0 := by omega
       have hO : Blk wr g 3 (ints (ordL kb sign n)) := O.out
       have O6 := hid hO
       clear O hO
       go_wp2_with fail
       go_ret
       exact ⟨g, rfl, by omega, O6.out, B.out⟩
end Go.Proofs.YtiigipnfnfpepaaGreatDoor
namespace Go.Proofs.YtiigipnfnfpepaaGreatDoor
open Go.RowKit

theorem frame_calls (n : Nat) (w : World) (hn : n ≤ 1000000) : Calls Tryz.prog 34 #[.int .i64 n] w fun e w' => e = .returned (.int .i64 ((n % 1016 : Nat) : Int)) ∧ w = w' := by
 have h0 : (0 : Int) ≤ n := by omega
 have h1 : ((n : Int) % 1016 + 1016) % 1016 = ((n % 1016 : Nat) : Int) := by omega
 have H := hid h1
 clear h1
 go_enter Tryz.func34, Tryz.ntmps34
 go_wp2_with fail
 go_ret
 exact ⟨ret_i64 H.out, rfl⟩

def bandI (kb : List UInt8) (n : Nat) : Int := (ordL kb (valB (128 + (n % 1016 / 8 : Nat))) 8).getD (n % 1016 % 8) 0
theorem bandI_in (kb : List UInt8) (n : Nat) : 0 ≤ bandI kb n ∧ bandI kb n < 8 := ordL_in kb _ (n := 8) (by omega) _ (by rw [ordL_len]; omega)
def placeI (kb : List UInt8) (n : Nat) : Int := (ordL kb 112 127).getD (n % 1016 % 127) 0
theorem placeI_in (kb : List UInt8) (n : Nat) : 0 ≤ placeI kb n ∧ placeI kb n < 127 := ordL_in kb _ (n := 127) (by omega) _ (by rw [ordL_len]; omega)

set_option maxHeartbeats 2000000 in
theorem band_calls (kb : List UInt8) (n : Nat) (w : World) (hk : kb.length = 16) (hn : n ≤ 1000000) (hS : Signs w) :
 Calls Tryz.prog 36 #[.agg (bytesV kb), .int .i64 n] w fun e w' => e = .returned (.int .i64 (bandI kb n)) ∧ Below w.heap.size w w' := by
 have hb := hid (blk_new w 23 (bytesV kb))
 have B0 := hid ((Below.refl w.heap.size w).alloc (Nat.le_refl _) (.cells (bytesV kb) 23))
 have co := order_calls kb (valB (128 + (n % 1016 / 8 : Nat))) 8 (w.alloc (.cells (bytesV kb) 23)) hk (by omega) (by omega) (signs_below hS B0.out (signs_size hS))
 rw [valB_of (by omega) (by omega)] at co
 have HKS := hid (key_size hk)
 have hl := ordL_len kb (valB (128 + (n % 1016 / 8 : Nat))) 8
 have hbi : bandI kb n = (ordL kb (valB (128 + (n % 1016 / 8 : Nat))) 8).getD (n % 1016 % 8) 0 := rfl
 have HBI := hid hbi
 clear hk hS hbi
 generalize ordL kb (valB (128 + (n % 1016 / 8 : Nat))) 8 = l at *
 have HL := hid hl
 clear hl
 have hf : n % 1016 < 1016 := by omega
 have cf := fun W => frame_calls n W hn
 generalize n % 1016 = f at *
 obtain ⟨p, hp⟩ : ∃ p, p = f / 8 := ⟨_, rfl⟩
 obtain ⟨q, hq⟩ : ∃ q, q = f % 8 := ⟨_, rfl⟩
 rw [← hp] at co
 rw [← hq] at HBI
 have f0 : (0 : Int) ≤ f := by omega
 have e1 : (f : Int) / 8 = p := by omega
 have e2 : (f : Int) % 8 = q := by omega
 have q8 : q < 8 := by omega
 have q0 : (0 : Int) ≤ q := by omega
 have q1 : (q : Int) < 8 := by omega
 have p0 : (0 : Int) ≤ p := by omega
 have p1 : (p : Int) ≤ 126 := by omega
 have e3 : (128 + (p : Int)) % 256 = 128 + p := by omega
 clear hp hq
 go_enter Tryz.func36, Tryz.ntmps36
 go_wp2_with fail
 refine (cf _).mono ?_
 rintro e w' ⟨rfl, rfl⟩
 clear cf
 go_wp2_with (first | (refine wpList_load_blk (by rfl) 23 _ rfl w.heap.size rfl 23 (bytesV kb) _ hb.out Tryz.underlying23 rfl HKS.out ?_))
 refine co.mono ?_
 rintro e w2 ⟨g, rfl, hg, O, C⟩
 have cx := blk_int O (i := q) (by rw [HL.out]; exact q8)
 have B2 := hid (B0.out.trans (C.mono (by simp)))
 rw [← HBI.out] at cx
 clear co hg O C B0 hb
 go_wp2_with fail
 go_ret
 exact ⟨rfl, B2.out⟩

set_option maxHeartbeats 2000000 in
theorem place_calls (kb : List UInt8) (n : Nat) (w : World) (hk : kb.length = 16) (hn : n ≤ 1000000) (hS : Signs w) :
 Calls Tryz.prog 12 #[.agg (bytesV kb), .int .i64 n] w fun e w' => e = .returned (.int .i64 (placeI kb n)) ∧ Below w.heap.size w w' := by
 have hb := hid (blk_new w 23 (bytesV kb))
 have B0 := hid ((Below.refl w.heap.size w).alloc (Nat.le_refl _) (.cells (bytesV kb) 23))
 have co := order_calls kb 112 127 (w.alloc (.cells (bytesV kb) 23)) hk (by omega) (by omega) (signs_below hS B0.out (signs_size hS))
 rw [show ((112 : UInt8).toNat : Int) = 112 from rfl] at co
 have HKS := hid (key_size hk)
 have hl := ordL_len kb 112 127
 have hbi : placeI kb n = (ordL kb 112 127).getD (n % 1016 % 127) 0 := rfl
 have HBI := hid hbi
 clear hk hS hbi
 generalize ordL kb 112 127 = l at *
 have HL := hid hl
 clear hl
 have hf : n % 1016 < 1016 := by omega
 have cf := fun W => frame_calls n W hn
 generalize n % 1016 = f at *
 obtain ⟨q, hq⟩ : ∃ q, q = f % 127 := ⟨_, rfl⟩
 rw [← hq] at HBI
 have f0 : (0 : Int) ≤ f := by omega
 have e2 : (f : Int) % 127 = q := by omega
 have q8 : q < 127 := by omega
 have q0 : (0 : Int) ≤ q := by omega
 have q1 : (q : Int) < 127 := by omega
 clear hq
 go_enter Tryz.func12, Tryz.ntmps12
 go_wp2_with (first | (refine wpList_load_blk (by rfl) 23 _ rfl w.heap.size rfl 23 (bytesV kb) _ hb.out Tryz.underlying23 rfl HKS.out ?_))
 refine co.mono ?_
 rintro e w2 ⟨g, rfl, hg, O, C⟩
 have cx := blk_int O (i := q) (by rw [HL.out]; exact q8)
 have B2 := hid (B0.out.trans (C.mono (by simp)))
 rw [← HBI.out] at cx
 clear co hg O C B0 hb
 go_wp2_with fail
 refine (cf _).mono ?_
 rintro e w' ⟨rfl, rfl⟩
 clear cf
 go_wp2_with fail
 go_ret
 exact ⟨rfl, B2.out⟩

def bitB (x : Int) (i : Nat) : Bool := bits .and .u64 (x / 2 ^ i) 1 == 1
theorem bits_calls (x : Int) (w : World) : Calls Tryz.prog 67 #[.int .u64 x] w fun e w' => e = .returned (.func (.func 112) #[] #[.pointer (some ⟨w.heap.size, 0, none⟩)]) ∧ w.alloc (.cells #[.int .u64 x] 58) = w' := by
 go_enter Tryz.func67, Tryz.ntmps67
 go_wp2_with fail
 go_ret
 exact ⟨rfl, rfl⟩
theorem bits1_calls (x : Int) (i g : Nat) (w : World) (hc : w.cell? ⟨g, 0, none⟩ = some (.int .u64 x)) (hx : U64 x) (hi : i ≤ 64) : Calls Tryz.prog 112 #[.int .i64 i, .pointer (some ⟨g, 0, none⟩)] w fun e w' => e = .returned (.bool (bitB x i)) ∧ w = w' := by
 have h0 : (0 : Int) ≤ i := by omega
 obtain ⟨x0, x1⟩ := hx
 go_enter Tryz.func112, Tryz.ntmps112
 go_wp2_with fail
 go_ret
 exact ⟨rfl, rfl⟩
end Go.Proofs.YtiigipnfnfpepaaGreatDoor
namespace Go.Proofs.YtiigipnfnfpepaaGreatDoor
open Go.RowKit

theorem size_drew (w : World) : w.drew.heap.size = w.heap.size := rfl
def chipsL (kb : List UInt8) (n : Nat) : List Int := (List.range 4).map fun i => if bitB (keyNum kb 99 (n % 1016 : Nat)) i then -1 else 1
theorem chipsL_len (kb : List UInt8) (n : Nat) : (chipsL kb n).length = 4 := by simp [chipsL]

set_option maxHeartbeats 4000000 in
theorem chips_calls (kb : List UInt8) (n : Nat) (w : World) (hk : kb.length = 16) (hn : n ≤ 1000000) (hS : Signs w) :
 Calls Tryz.prog 37 #[.agg (bytesV kb), .int .i64 n] w fun e w' => e = .returned (.agg (ints (chipsL kb n))) ∧ Below w.heap.size w w' := by
 have W0 : ∃ W, W = (w.alloc (.cells (bytesV kb) 23)).alloc (.cells #[Value.int .i64 0, .int .i64 0, .int .i64 0, .int .i64 0] 43) := ⟨_, rfl⟩
 have hb := hid (blk_alloc (blk_new w 23 (bytesV kb)) (.cells #[Value.int .i64 0, .int .i64 0, .int .i64 0, .int .i64 0] 43))
 have hr := blk_new (w.alloc (.cells (bytesV kb) 23)) 43 #[Value.int .i64 0, .int .i64 0, .int .i64 0, .int .i64 0]
 rw [World.size_alloc] at hr
 have HR := hid hr
 have B0 := hid (((Below.refl w.heap.size w).alloc (Nat.le_refl _) (.cells (bytesV kb) 23)).alloc (by simp) (.cells #[Value.int .i64 0, .int .i64 0, .int .i64 0, .int .i64 0] 43))
 have HS := hid (signs_below hS B0.out (signs_size hS))
 have HKS := hid (key_size hk)
 have HK := hid hk
 have hfn : n % 1016 < 1016 := by omega
 have hci : chipsL kb n = (List.range 4).map fun i => if bitB (keyNum kb 99 (n % 1016 : Nat)) i then -1 else 1 := rfl
 have HCI := hid hci
 have cf := fun W => frame_calls n W hn
 have cn := fun W (h : Signs W) => num_calls kb 99 (n % 1016 : Nat) W hk (by omega) (by omega) h
 rw [show ((99 : UInt8).toNat : Int) = 99 from rfl] at cn
 have CN := hid cn
 have hu := keyNum_u64 kb 99 (n % 1016 : Nat)
 have cb := fun W => bits_calls (keyNum kb 99 (n % 1016 : Nat)) W
 clear W0 hr hS hk hci cn
 generalize keyNum kb 99 (n % 1016 : Nat) = x at *
 generalize n % 1016 = f at *
 go_enter Tryz.func37, Tryz.ntmps37
 go_wp2_with fail
 refine plain_region (S := (fun L W => (L.getD 3 true = true ∨ Blk W w.heap.size 23 (bytesV kb)))) (by kernel_rfl) (Or.inr hb.out) (fun hHeld => ?_)
 clear hHeld
 refine aB 0 3 rfl (fun _ _ h k => rL k h) (yields_blk (by rfl) 23 _ rfl w.heap.size rfl 23 (bytesV kb) _ (fun _ h => h) Tryz.underlying23 rfl HKS.out) (Or.inr hb.out) ?_
 refine aW 1 (Or.inr hb.out) ?_
 refine aR 2 (fun K hK => ?_)
 go_simp
 refine (cf _).mono ?_
 rintro e w' ⟨rfl, rfl⟩
 refine hK.out _ _ (Or.inr hb.out) (fun hHeld => ?_)
 clear hK K
 try simp only [Act.put, tA, tB, tC]
 clear hHeld
 refine aR 3 (fun K hK => ?_)
 go_simp
 refine Calls.mono (CN.out _ (by exact HS.out)) ?_
 rintro e w2 ⟨rfl, C2⟩
 refine hK.out _ _ (Or.inl (by rfl)) (fun hHeld => ?_)
 clear hK K
 try simp only [Act.put, tA, tB, tC]
 clear hHeld
 refine aR 4 (fun K hK => ?_)
 go_simp
 refine (cb _).mono ?_
 rintro e w' ⟨rfl, rfl⟩
 refine hK.out _ _ (Or.inl (by rfl)) (fun hHeld => ?_)
 clear hK K
 try simp only [Act.put, tA, tB, tC]
 clear hHeld
 refine aW 5 (Or.inl (by rfl)) ?_
 refine anyU_done (by kernel_rfl) ?_ _
 have HG := hid (blk_new w2 58 #[.int .u64 x])
 have hsz := C2.size
 rw [size_drew, World.size_alloc, World.size_alloc] at hsz
 have B2 := hid ((bnext (below_draws B0.out 1) C2).alloc (by omega) (.cells #[.int .u64 x] 58))
 have R2 := hid (blk_alloc (blk_below (blk_drew HR.out) C2 (blk_lt HR.out)) (.cells #[.int .u64 x] 58))
 have hgw : w.heap.size + 2 ≤ w2.heap.size := by omega
 clear C2 hsz hb HR B0 HS HKS HK CN cf cb
 generalize w2.heap.size = g at *
 generalize w2.alloc (.cells #[.int .u64 x] 58) = w3 at *
 have hs3 := B2.out.size
 have hg3 := blk_lt HG.out
 have HO := hid (show Blk (w3.alloc (.cells #[Value.int .i64 0, .int .i64 0, .int .i64 0, .int .i64 0] 43)) w3.heap.size 43 (ints (overTo (fun i => if bitB x i then -1 else 1) (List.replicate 4 0) 0)) from by rw [overTo_zero]; exact blk_new w3 _ _)
 have B4 := hid (B2.out.alloc hs3 (.cells #[Value.int .i64 0, .int .i64 0, .int .i64 0, .int .i64 0] 43))
 have R4 := hid (blk_alloc R2.out (.cells #[Value.int .i64 0, .int .i64 0, .int .i64 0, .int .i64 0] 43))
 have G4 := hid (blk_alloc HG.out (.cells #[Value.int .i64 0, .int .i64 0, .int .i64 0, .int .i64 0] 43))
 have hrh := blk_lt R2.out
 clear B2 R2 HG
 go_wp2_with fail
 generalize w3.heap.size = h at *
 generalize w3.alloc (.cells #[Value.int .i64 0, .int .i64 0, .int .i64 0, .int .i64 0] 43) = w4 at *
 go_loopg [13] 4 (fun gg s13 wr => ∃ kk : Nat, kk ≤ 4 ∧ 4 - kk ≤ gg ∧ s13 = .int .i64 kk ∧ Aside (Below w.heap.size w wr) ∧ Aside (Blk wr (w.heap.size + 1) 43 #[Value.int .i64 0, .int .i64 0, .int .i64 0, .int .i64 0]) ∧ Aside (Blk wr g 58 #[.int .u64 x]) ∧ Aside (Blk wr h 43 (ints (overTo (fun i => if bitB x i then -1 else 1) (List.replicate 4 0) kk))))
 case atStart => exact ⟨0, Nat.zero_le _, by omega, rfl, B4.out, R4.out, G4.out, HO.out⟩
 case round =>
  clear B4 R4 G4 HO
  obtain ⟨kk, hkk, hgk, rfl, B, R, G, O⟩ := hrel
  have hs := B.out.size
  by_cases hlt : kk < 4
  · have hltz : (kk : Int) < 4 := by omega
    have hk0 : (0 : Int) ≤ kk := by omega
    have cx := blk_int O.out (i := kk) (by rw [overTo_len]; exact hlt)
    have fx := blk_free O.out kk
    have HSU := hid (overTo_succ (g := fun i => if bitB x i then -1 else 1) (zs := List.replicate 4 0) (k := kk) rfl (by simpa using hlt))
    have O1 := blk_set_int O.out kk 1
    have HL := hid (overTo_len (fun i => if bitB x i then -1 else 1) (List.replicate 4 0) kk)
    generalize overTo (fun i => if bitB x i then -1 else 1) (List.replicate 4 0) kk = zs at *
    generalize zs.getD kk 0 = y at *
    have cz := blk_int O1 (i := kk) (by rw [List.length_set, HL.out]; simpa using hlt)
    have fz := blk_free O1 kk
    rw [getD_set_same 1 (by rw [HL.out]; simpa using hlt)] at cz
    have G1 := blk_far G.out (b := h) (i := kk) (by omega) (.int .i64 1)
    have R1 := hid (blk_far R.out (b := h) (i := kk) (by omega) (.int .i64 1))
    have B1 := hid (below_set B.out (b := h) (i := kk) (by omega) (.int .i64 1))
    have cg := blk_cell G1 0
    have c1 := bits1_calls x kk g _ cg hu (by omega)
    have G1' := hid G1
    have O1' := hid O1
    clear G1 O1 B R G O cg
    cases hq : bitB x kk with
    | true =>
     rw [hq] at c1
     have HQ := hid hq
     clear hq
     go_wp2_with fail
     refine c1.mono ?_
     rintro e w' ⟨rfl, rfl⟩
     clear c1
     go_wp2_with fail
     have O2 := blk_set_int O1'.out kk (-1)
     rw [List.set_set, show (-1 : Int) = (if bitB x kk then -1 else 1) by rw [HQ.out]; rfl, HSU.out] at O2
     have O3 := hid O2
     have B3 := hid (below_set B1.out (b := h) (i := kk) (by omega) (.int .i64 (-1)))
     have R3 := hid (blk_far R1.out (b := h) (i := kk) (by omega) (.int .i64 (-1)))
     have G3 := hid (blk_far G1'.out (b := h) (i := kk) (by omega) (.int .i64 (-1)))
     clear O2 B1 R1 G1' O1' cx fx cz fz
     go_roundg (4 - (kk + 1))
     case measure => omega
     case rel => exact ⟨kk + 1, by omega, by omega, by go_num, B3.out, R3.out, G3.out, by rw [HQ.out] at O3; exact O3.out⟩
    | false =>
     rw [hq] at c1
     have HQ := hid hq
     clear hq
     go_wp2_with fail
     refine c1.mono ?_
     rintro e w' ⟨rfl, rfl⟩
     clear c1
     go_wp2_with fail
     have e1 : zs.set kk 1 = overTo (fun i => if bitB x i then -1 else 1) (List.replicate 4 0) (kk + 1) := by
      have h := HSU.out
      rw [if_neg (by rw [HQ.out]; decide)] at h
      exact h
     have O2 := O1'.out
     rw [e1] at O2
     have O3 := hid O2
     clear O2 e1 O1' cx fx cz fz
     go_roundg (4 - (kk + 1))
     case measure => omega
     case rel => exact ⟨kk + 1, by omega, by omega, by go_num, B1.out, R1.out, G1'.out, O3.out⟩
  · obtain rfl : kk = 4 := by omega
    have hO := O.out
    rw [overTo_all (by rfl), ← HCI.out] at hO
    have h4 := chipsL_len kb n
    have HSZ := hid (show (Tryz.prog.info? 43).map (·.size) = some (ints (chipsL kb n)).size by rw [ints_size, h4]; kernel_rfl)
    have HSS := hid (show (ints (chipsL kb n)).size = (#[Value.int .i64 0, .int .i64 0, .int .i64 0, .int .i64 0] : Array Value).size by rw [ints_size, h4]; rfl)
    have HS1 := hid (ints_one (chipsL kb n))
    have HO := hid hO
    clear hO h4 O HCI
    generalize hcs : ints (chipsL kb n) = cs at *
    have HCS := hid hcs
    clear hcs
    have hwr : w.heap.size ≤ w.heap.size + 1 := by omega
    go_wp2_with (first | (refine wpList_load_blk (by rfl) 43 _ rfl h rfl 43 cs _ HO.out Tryz.underlying43 rfl HSZ.out ?_) | (refine wpList_store_blk rfl 43 _ _ rfl (w.heap.size + 1) 43 _ cs rfl rfl R.out HSS.out HSZ.out HS1.out ?_; intro w5 n0 n1))
    have B5 := hid (below_grown B.out n1 hs hwr)
    exact bodyPost_ret (results_cell_row rfl _ _ (w.heap.size + 1) 43 cs (0, 0) _ rfl n0 Tryz.underlying43 rfl HSZ.out) rfl ⟨by rw [HCS.out], B5.out⟩

def subA (x : Int) (i : Nat) : Bool := bitB x i
def anyTo (x : Int) : Nat → Bool
 | 0 => false
 | k + 1 => anyTo x k || bitB x k
def subsetL (kb : List UInt8) (n b : Nat) : List Bool :=
 (List.range 4).map fun i => if i = 0 then (bitB (keyNum kb 115 ((n % 1016 * 8 + b : Nat) : Int)) 0 || !anyTo (keyNum kb 115 ((n % 1016 * 8 + b : Nat) : Int)) 4) else bitB (keyNum kb 115 ((n % 1016 * 8 + b : Nat) : Int)) i
def bools (l : List Bool) : Array Value := (l.map Value.bool).toArray
theorem bools_size (l : List Bool) : (bools l).size = l.length := by simp [bools]
theorem bools_one (l : List Bool) : (bools l).all (·.oneCell') = true := by simp [bools, Value.oneCell']
theorem bools_get (l : List Bool) {i : Nat} (h : i < l.length) : (bools l)[i]? = some (.bool (l.getD i false)) := by
 simp [bools, List.getD_eq_getElem?_getD, List.getElem?_eq_getElem h]
theorem blk_bool {w : World} {g : Nat} {t : TypeId} {l : List Bool} (h : Blk w g t (bools l)) {i : Nat} (hi : i < l.length) : w.cell? ⟨g, i, none⟩ = some (.bool (l.getD i false)) := by rw [blk_cell h, bools_get l hi]
theorem blk_set_bool {w : World} {g : Nat} {t : TypeId} {l : List Bool} (h : Blk w g t (bools l)) (i : Nat) (v : Bool) : Blk (w.setCell ⟨g, i, none⟩ (.bool v)) g t (bools (l.set i v)) := by
 have e : (bools l).setIfInBounds i (.bool v) = bools (l.set i v) := by simp [bools, List.map_set]
 rw [← e]
 exact blk_set h i _
def subTo (x : Int) (k : Nat) : List Bool := (List.range 4).map fun i => if i < k then bitB x i else false
theorem subTo_len (x : Int) (k : Nat) : (subTo x k).length = 4 := by simp [subTo]
theorem subTo_get (x : Int) {k i : Nat} (h : i < 4) : (subTo x k).getD i false = if i < k then bitB x i else false := by
 rw [List.getD_eq_getElem?_getD, subTo, List.getElem?_map, List.getElem?_range h]
 rfl
theorem boolList_ext {xs ys : List Bool} (h : xs.length = ys.length) (hi : ∀ i, i < xs.length → xs.getD i false = ys.getD i false) : xs = ys := by
 apply List.ext_getElem h
 intro i h1 h2
 have := hi i h1
 simpa [List.getD_eq_getElem?_getD, List.getElem?_eq_getElem h1, List.getElem?_eq_getElem h2] using this
theorem getD_setB (l : List Bool) (i j : Nat) (v : Bool) : (l.set i v).getD j false = if i = j ∧ i < l.length then v else l.getD j false := by
 rw [List.getD_eq_getElem?_getD, List.getElem?_set]
 by_cases e : i = j
 · subst e
   by_cases h : i < l.length
   · rw [if_pos rfl, if_pos h, if_pos ⟨rfl, h⟩]; rfl
   · rw [if_pos rfl, if_neg h, if_neg (fun c => h c.2), List.getD_eq_getElem?_getD, List.getElem?_eq_none (by omega)]
 · rw [if_neg e, if_neg (fun c => e c.1), List.getD_eq_getElem?_getD]
theorem subTo_succ (x : Int) {k : Nat} (hk : k < 4) : (subTo x k).set k (bitB x k) = subTo x (k + 1) := by
 refine boolList_ext (by simp [subTo_len]) (fun i hi => ?_)
 rw [List.length_set, subTo_len] at hi
 rw [getD_setB, subTo_get x hi, subTo_get x hi, subTo_len]
 by_cases e : k = i
 · subst e
   rw [if_pos ⟨rfl, hk⟩, if_pos (by omega)]
 · rw [if_neg (fun c => e c.1)]
   by_cases h : i < k
   · rw [if_pos h, if_pos (by omega)]
   · rw [if_neg h, if_neg (by omega)]
theorem sub_end (x : Int) (A : Bool) : (subTo x 4).set 0 A = (List.range 4).map fun i => if i = 0 then A else bitB x i := by
 refine boolList_ext (by simp [subTo_len]) (fun i hi => ?_)
 rw [List.length_set, subTo_len] at hi
 rw [getD_setB, subTo_get x hi, subTo_len, List.getD_eq_getElem?_getD, List.getElem?_map, List.getElem?_range hi, Option.map_some, Option.getD_some, if_pos hi]
 by_cases e : i = 0
 · rw [if_pos ⟨e.symm, by omega⟩, if_pos e]
 · rw [if_neg (fun c => e c.1.symm), if_neg e]
theorem subTo_end (kb : List UInt8) (n b : Nat) : (subTo (keyNum kb 115 ((n % 1016 * 8 + b : Nat) : Int)) 4).set 0 (bitB (keyNum kb 115 ((n % 1016 * 8 + b : Nat) : Int)) 0 || !anyTo (keyNum kb 115 ((n % 1016 * 8 + b : Nat) : Int)) 4) = subsetL kb n b := by
 unfold subsetL
 exact sub_end _ _
end Go.Proofs.YtiigipnfnfpepaaGreatDoor
namespace Go.Proofs.YtiigipnfnfpepaaGreatDoor
open Go.RowKit

theorem index_b4 {a : Act} {op : Oper} (x y : Operand) (g j : Nat) (ho : op.op = .indexAddr 155 x y) (hx : a.eval x = .pointer (some ⟨g, 0, none⟩)) (hy : a.eval y = .int .i64 j) (hj : j < 4) (W : World) :
 (execOp a.eval op).run Tryz.prog W = .ok (.value (.pointer (some ⟨g, j, none⟩))) W := by
 have h0 : (0 : Int) ≤ j := by omega
 have h1 : (j : Int) < 4 := by omega
 unfold execOp
 simp only [ho, hx, hy]
 go_simp
theorem load_b4 {a : Act} {op : Oper} (x : Operand) (p : Addr) (v : Bool) (W : World) (ho : op.op = .load 4 x) (hx : a.eval x = .pointer (some p)) (hc : W.cell? p = some (.bool v)) :
 (execOp a.eval op).run Tryz.prog W = .ok (.value (.bool v)) W := by
 unfold execOp
 simp only [ho, hx]
 go_simp
theorem subTo_zero (x : Int) : subTo x 0 = [false, false, false, false] := by
 refine boolList_ext (by simp [subTo_len]) (fun i hi => ?_)
 rw [subTo_len] at hi
 rw [subTo_get x hi, if_neg (by omega)]
 have h : i = 0 ∨ i = 1 ∨ i = 2 ∨ i = 3 := by omega
 rcases h with rfl | rfl | rfl | rfl <;> rfl

set_option maxRecDepth 20000 in
set_option maxHeartbeats 4000000 in
theorem subset_calls (kb : List UInt8) (n b : Nat) (w : World) (hk : kb.length = 16) (hn : n ≤ 1000000) (hb8 : b < 8) (hS : Signs w) :
 Calls Tryz.prog 91 #[.agg (bytesV kb), .int .i64 n, .int .i64 b, .int .i64 0] w fun e w' => e = .returned (.agg (bools (subsetL kb n b))) ∧ Below w.heap.size w w' := by
 have hb := hid (blk_alloc (blk_alloc (blk_new w 23 (bytesV kb)) (.cells #[.bool false, .bool false, .bool false, .bool false] 155)) (.cells #[.bool false, .bool false, .bool false, .bool false] 155))
 have hr := blk_alloc (blk_new (w.alloc (.cells (bytesV kb) 23)) 155 #[.bool false, .bool false, .bool false, .bool false]) (.cells #[.bool false, .bool false, .bool false, .bool false] 155)
 have ho := blk_new ((w.alloc (.cells (bytesV kb) 23)).alloc (.cells #[.bool false, .bool false, .bool false, .bool false] 155)) 155 #[.bool false, .bool false, .bool false, .bool false]
 rw [World.size_alloc] at hr
 rw [World.size_alloc, World.size_alloc] at ho
 have HR := hid hr
 have HO := hid ho
 have B0 := hid ((((Below.refl w.heap.size w).alloc (Nat.le_refl _) (.cells (bytesV kb) 23)).alloc (by simp) (.cells #[.bool false, .bool false, .bool false, .bool false] 155)).alloc (by simp; omega) (.cells #[.bool false, .bool false, .bool false, .bool false] 155))
 have HS := hid (signs_below hS B0.out (signs_size hS))
 have HKS := hid (key_size hk)
 have HSE := hid (subTo_end kb n b)
 have HSL := hid (show (subsetL kb n b).length = 4 by simp [subsetL])
 have cf := fun W => frame_calls n W hn
 have cn := fun W (h : Signs W) => num_calls kb 115 ((n % 1016 * 8 + b : Nat) : Int) W hk (by omega) (by omega) h
 rw [show ((115 : UInt8).toNat : Int) = 115 from rfl] at cn
 have hu := keyNum_u64 kb 115 ((n % 1016 * 8 + b : Nat) : Int)
 have cb := fun W => bits_calls (keyNum kb 115 ((n % 1016 * 8 + b : Nat) : Int)) W
 have hf : n % 1016 < 1016 := by omega
 clear hr ho hS hk
 generalize keyNum kb 115 ((n % 1016 * 8 + b : Nat) : Int) = x at *
 generalize n % 1016 = f at *
 have HC := hid (show ((f * 8 + b : Nat) : Int) = (f : Int) * 8 + b by omega)
 rw [HC.out] at cn
 have CN := hid cn
 clear cn
 have hd1 : decide ((b : Int) < 0) = false := by simp
 have hd2 : decide (8 ≤ (b : Int)) = false := by simpa using (show (b : Int) < 8 by omega)
 have f0 : (0 : Int) ≤ f := by omega
 have f1 : (f : Int) < 1016 := by omega
 have b0 : (0 : Int) ≤ b := by omega
 have b1 : (b : Int) < 8 := by omega
 have i0 : IntKind.i64.wrap ((f : Int) * 8) = (f : Int) * 8 := IntWalk.i64_in _ (by omega)
 have i1 : IntKind.i64.wrap ((f : Int) * 8 + b) = (f : Int) * 8 + b := IntWalk.i64_in _ (by clear i0; omega)
 have I0 := hid i0
 have I1 := hid i1
 clear i0 i1
 go_enter Tryz.func91, Tryz.ntmps91
 go_wp2_with fail
 have i0 := I0.out
 have i1 := I1.out
 refine plain_region (S := (fun L W => (L.getD 6 true = true ∨ Blk W w.heap.size 23 (bytesV kb)))) (by kernel_rfl) (Or.inr hb.out) (fun hHeld => ?_)
 clear hHeld
 refine aB 0 6 rfl (fun _ _ h k => rL k h) (yields_blk (by rfl) 23 _ rfl w.heap.size rfl 23 (bytesV kb) _ (fun _ h => h) Tryz.underlying23 rfl HKS.out) (Or.inr hb.out) ?_
 refine aW 1 (Or.inr hb.out) ?_
 refine aW 4 (Or.inr hb.out) ?_
 refine aR 2 (fun K hK => ?_)
 go_simp
 refine (cf _).mono ?_
 rintro e w' ⟨rfl, rfl⟩
 refine hK.out _ _ (Or.inr hb.out) (fun hHeld => ?_)
 clear hK K
 try simp only [Act.put, tA, tB, tC]
 clear hHeld
 refine aW 3 (Or.inr hb.out) ?_
 refine aW 5 (Or.inr hb.out) ?_
 refine aR 6 (fun K hK => ?_)
 go_simp
 refine Calls.mono (CN.out _ (by exact HS.out)) ?_
 rintro e w2 ⟨rfl, C2⟩
 refine hK.out _ _ (Or.inl (by rfl)) (fun hHeld => ?_)
 clear hK K
 try simp only [Act.put, tA, tB, tC]
 clear hHeld
 refine aR 7 (fun K hK => ?_)
 go_simp
 refine (cb _).mono ?_
 rintro e w' ⟨rfl, rfl⟩
 refine hK.out _ _ (Or.inl (by rfl)) (fun hHeld => ?_)
 clear hK K
 try simp only [Act.put, tA, tB, tC]
 clear hHeld
 refine aW 8 (Or.inl (by rfl)) ?_
 refine anyU_done (by kernel_rfl) ?_ _
 clear i0 i1
 have HG := hid (blk_new w2 58 #[.int .u64 x])
 have hsz := C2.size
 rw [size_drew, World.size_alloc, World.size_alloc, World.size_alloc] at hsz
 have B2 := hid ((bnext (below_draws B0.out 1) C2).alloc (by omega) (.cells #[.int .u64 x] 58))
 have R2 := hid (blk_alloc (blk_below (blk_drew HR.out) C2 (blk_lt HR.out)) (.cells #[.int .u64 x] 58))
 have O2 := hid (show Blk (w2.alloc (.cells #[.int .u64 x] 58)) (w.heap.size + 1 + 1) 155 (bools (subTo x 0)) from by rw [subTo_zero]; exact blk_alloc (blk_below (blk_drew HO.out) C2 (blk_lt HO.out)) (.cells #[.int .u64 x] 58))
 have hgw : w.heap.size + 3 ≤ w2.heap.size := by omega
 clear C2 hsz hb HR HO B0 HS HKS CN cf cb
 generalize w2.heap.size = g at *
 generalize w2.alloc (.cells #[.int .u64 x] 58) = w3 at *
 go_wp2_with fail
 go_loopg [11, 36] 4 (fun gg s11 s36 wr => ∃ kk : Nat, kk ≤ 4 ∧ 4 - kk ≤ gg ∧ s36 = .int .i64 kk ∧ s11 = .bool (anyTo x kk) ∧ Aside (Below w.heap.size w wr) ∧ Aside (Blk wr (w.heap.size + 1) 155 #[.bool false, .bool false, .bool false, .bool false]) ∧ Aside (Blk wr g 58 #[.int .u64 x]) ∧ Aside (Blk wr (w.heap.size + 1 + 1) 155 (bools (subTo x kk))))
 case atStart => exact ⟨0, Nat.zero_le _, by omega, rfl, rfl, B2.out, R2.out, HG.out, O2.out⟩
 case round =>
  clear B2 R2 HG O2
  obtain ⟨kk, hkk, hgk, rfl, rfl, B, R, G, O⟩ := hrel
  have hs := B.out.size
  by_cases hlt : kk < 4
  · have hltz : (kk : Int) < 4 := by omega
    have hk0 : (0 : Int) ≤ kk := by omega
    have cx := blk_bool O.out (i := kk) (by rw [subTo_len]; exact hlt)
    have fx := blk_free O.out kk
    have cg := blk_cell G.out 0
    have c1 := bits1_calls x kk g wr cg hu (by omega)
    have HSU := hid (subTo_succ x hlt)
    have HA := hid (show anyTo x (kk + 1) = (anyTo x kk || bitB x kk) from rfl)
    have HL := hid (subTo_len x kk)
    have O1 := blk_set_bool O.out kk (bitB x kk)
    have cz := blk_bool O1 (i := kk) (by rw [List.length_set, HL.out]; exact hlt)
    rw [HSU.out] at O1
    rw [getD_setB, HL.out, if_pos ⟨rfl, hlt⟩] at cz
    have B1 := hid (below_set B.out (b := w.heap.size + 1 + 1) (i := kk) (by omega) (.bool (bitB x kk)))
    have R1 := hid (blk_far R.out (b := w.heap.size + 1 + 1) (i := kk) (by omega) (.bool (bitB x kk)))
    have G1 := hid (blk_far G.out (b := w.heap.size + 1 + 1) (i := kk) (by omega) (.bool (bitB x kk)))
    have O2 := hid O1
    generalize (subTo x kk).getD kk false = y at *
    generalize bitB x kk = q at *
    clear B R G O cg O1 HSU
    cases hq : anyTo x kk with
    | true =>
     rw [hq] at HA
     go_wp2_with fail
     refine c1.mono ?_
     rintro e w' ⟨rfl, rfl⟩
     clear c1
     go_wp2_with fail
     clear cx fx cz
     go_roundg (4 - (kk + 1))
     case measure => omega
     case rel => exact ⟨kk + 1, by omega, by omega, by go_num, by rw [HA.out, Bool.true_or], B1.out, R1.out, G1.out, O2.out⟩
    | false =>
     rw [hq] at HA
     go_wp2_with fail
     refine c1.mono ?_
     rintro e w' ⟨rfl, rfl⟩
     clear c1
     go_wp2_with (first | (refine wpList_val (op := ⟨some 50, _, _, _, _, _⟩) (.pointer (some ⟨w.heap.size + 1 + 1, kk, none⟩)) (by rfl) (index_b4 (.tmp 9) (.tmp 49) (w.heap.size + 1 + 1) kk rfl rfl rfl hlt _) ?_) | (refine wpList_val (op := ⟨some 51, _, _, _, _, _⟩) (.bool q) (by rfl) (load_b4 (.tmp 50) ⟨w.heap.size + 1 + 1, kk, none⟩ q _ rfl rfl cz) ?_))
     clear cx fx cz
     go_roundg (4 - (kk + 1))
     case measure => omega
     case rel => exact ⟨kk + 1, by omega, by omega, by go_num, by rw [HA.out, Bool.false_or], B1.out, R1.out, G1.out, O2.out⟩
  · obtain rfl : kk = 4 := by omega
    have cx := blk_bool O.out (i := 0) (by rw [subTo_len]; omega)
    have fx := blk_free O.out 0
    rw [subTo_get x (by omega), if_pos (by omega)] at cx
    have HSZ := hid (show (Tryz.prog.info? 155).map (·.size) = some (bools (subsetL kb n b)).size by rw [bools_size, HSL.out]; kernel_rfl)
    have HSS := hid (show (bools (subsetL kb n b)).size = (#[.bool false, .bool false, .bool false, .bool false] : Array Value).size by rw [bools_size, HSL.out]; rfl)
    have HS1 := hid (bools_one (subsetL kb n b))
    have O1 := blk_set_bool O.out 0 (bitB x 0 || !anyTo x 4)
    rw [HSE.out] at O1
    have O2 := hid O1
    have B1 := hid (below_set B.out (b := w.heap.size + 1 + 1) (i := 0) (by omega) (.bool (bitB x 0 || !anyTo x 4)))
    have R1 := hid (blk_far R.out (b := w.heap.size + 1 + 1) (i := 0) (by omega) (.bool (bitB x 0 || !anyTo x 4)))
    clear O1 O B R G HSE
    generalize hcs : bools (subsetL kb n b) = cs at *
    have HCS := hid hcs
    clear hcs
    have hwr : w.heap.size ≤ w.heap.size + 1 := by omega
    generalize anyTo x 4 = A at *
    generalize bitB x 0 = q at *
    cases q <;> cases A <;> (
     go_wp2_with (first | (refine wpList_load_blk (by rfl) 155 _ rfl (w.heap.size + 1 + 1) rfl 155 cs _ O2.out Tryz.underlying155 rfl HSZ.out ?_) | (refine wpList_store_blk rfl 155 _ _ rfl (w.heap.size + 1) 155 _ cs rfl rfl R1.out HSS.out HSZ.out HS1.out ?_; intro w5 n0 n1))
     have B5 := hid (below_grown B1.out n1 B1.out.size hwr)
     exact bodyPost_ret (results_cell_row rfl _ _ (w.heap.size + 1) 155 cs (0, 0) _ rfl n0 Tryz.underlying155 rfl HSZ.out) rfl ⟨by rw [HCS.out], B5.out⟩)
end Go.Proofs.YtiigipnfnfpepaaGreatDoor
namespace Go.Proofs.YtiigipnfnfpepaaGreatDoor
open Go.RowKit

theorem rest_eq (n m : Nat) (h0 : 0 < m) (h1 : m ≤ 1000) : (wrap64 ((n : Int) % m + m)).tmod m = ((n % m : Nat) : Int) := by
 have hq : n % m < m := Nat.mod_lt _ h0
 have e : (n : Int) % m = ((n % m : Nat) : Int) := rfl
 rw [e]
 generalize n % m = q at *
 have ew : wrap64 ((q : Int) + m) = q + m := by unfold wrap64; omega
 rw [ew, Int.tmod_eq_emod_of_nonneg (by omega), Int.add_emod_right, Int.emod_eq_of_lt (by omega) (by omega)]
theorem frest_calls (n m : Nat) (w : World) (hn : n ≤ 1000000) (h0 : 0 < m) (h1 : m ≤ 1000) : Calls Tryz.prog 138 #[.int .i64 n, .int .i64 m] w fun e w' => e = .returned (.int .i64 ((n % m : Nat) : Int)) ∧ w = w' := by
 have f0 : (0 : Int) < m := by omega
 have f1 : (m : Int) ≠ 0 := by omega
 have H := hid (rest_eq n m h0 h1)
 go_enter Tryz.func138, Tryz.ntmps138
 go_wp2_with fail
 go_ret
 exact ⟨ret_i64 H.out, rfl⟩

def expE (fs : List Int) (n : Nat) : Int := fs.getD (n % 127) 0
def logE (fs : List Int) (n : Nat) : Int := fs.getD (127 + n % 128) 0
def mulE (fs : List Int) (a b : Nat) : Int := if logE fs a < 0 ∨ logE fs b < 0 then 0 else expE fs (logE fs a + logE fs b).toNat

theorem exp_calls (fs : List Int) (n g : Nat) (w : World) (hn : n ≤ 1000000) (hl : fs.length = 255) (hb : Blk w g 216 (ints fs)) : Calls Tryz.prog 97 #[.pointer (some ⟨g, 0, none⟩), .int .i64 n] w fun e w' => e = .returned (.int .i64 (expE fs n)) ∧ ∃ k, w' = w.drewN k := by
 have hq : n % 127 < 127 := Nat.mod_lt _ (by omega)
 have c0 := blk_int hb (i := n % 127) (by omega)
 have HE := hid (show expE fs n = fs.getD (n % 127) 0 from rfl)
 have cr := fun W => frest_calls n 127 W hn (by omega) (by omega)
 rw [show ((127 : Nat) : Int) = 127 from rfl] at cr
 clear hb hl
 generalize fs.getD (n % 127) 0 = y at *
 generalize n % 127 = q at *
 have q0 : (0 : Int) ≤ q := by omega
 have q1 : (q : Int) < 127 := by omega
 go_enter Tryz.func97, Tryz.ntmps97
 go_wp2_with fail
 refine plain_region (S := (fun L W => W.cell? ⟨g, q, none⟩ = some (.int .i64 y))) (by kernel_rfl) (c0) (fun hHeld => ?_)
 clear hHeld
 refine aW 0 c0 ?_
 refine aW 1 c0 ?_
 refine aW 3 c0 ?_
 refine aW 4 c0 ?_
 refine aR 2 (fun K hK => ?_)
 go_simp
 refine (cr _).mono ?_
 rintro e w' ⟨rfl, rfl⟩
 refine hK.out _ _ (c0) (fun hHeld => ?_)
 clear hK K
 try simp only [Act.put, tA, tB, tC]
 clear hHeld
 refine aW 5 c0 ?_
 refine aL 6 7 (fun _ _ _ k => k) c0 ?_
 refine aW 7 c0 ?_
 refine anyU_done (by kernel_rfl) ?_ _
 go_wp2_with fail
 go_ret
 exact ⟨ret_i64 HE.out.symm, _, rfl⟩
theorem log_calls (fs : List Int) (n g : Nat) (w : World) (hn : n ≤ 1000000) (hl : fs.length = 255) (hb : Blk w g 216 (ints fs)) : Calls Tryz.prog 137 #[.pointer (some ⟨g, 0, none⟩), .int .i64 n] w fun e w' => e = .returned (.int .i64 (logE fs n)) ∧ ∃ k, w' = w.drewN k := by
 have hq : n % 128 < 128 := Nat.mod_lt _ (by omega)
 have c0 := blk_int hb (i := 127 + n % 128) (by omega)
 have HE := hid (show logE fs n = fs.getD (127 + n % 128) 0 from rfl)
 have cr := fun W => frest_calls n 128 W hn (by omega) (by omega)
 rw [show ((128 : Nat) : Int) = 128 from rfl] at cr
 clear hb hl
 generalize fs.getD (127 + n % 128) 0 = y at *
 generalize n % 128 = q at *
 have q0 : (0 : Int) ≤ q := by omega
 have q1 : (q : Int) < 128 := by omega
 go_enter Tryz.func137, Tryz.ntmps137
 go_wp2_with fail
 refine plain_region (S := (fun L W => W.cell? ⟨g, 127 + q, none⟩ = some (.int .i64 y))) (by kernel_rfl) (c0) (fun hHeld => ?_)
 clear hHeld
 refine aW 0 c0 ?_
 refine aW 1 c0 ?_
 refine aW 3 c0 ?_
 refine aW 4 c0 ?_
 refine aR 2 (fun K hK => ?_)
 go_simp
 refine (cr _).mono ?_
 rintro e w' ⟨rfl, rfl⟩
 refine hK.out _ _ (c0) (fun hHeld => ?_)
 clear hK K
 try simp only [Act.put, tA, tB, tC]
 clear hHeld
 refine aW 5 c0 ?_
 refine aL 6 7 (fun _ _ _ k => k) c0 ?_
 refine aW 7 c0 ?_
 refine anyU_done (by kernel_rfl) ?_ _
 go_wp2_with fail
 go_ret
 exact ⟨ret_i64 HE.out.symm, _, rfl⟩
end Go.Proofs.YtiigipnfnfpepaaGreatDoor
namespace Go.Proofs.YtiigipnfnfpepaaGreatDoor
open Go.RowKit

def FieldR (fs : List Int) : Prop := fs.length = 255 ∧ ∀ i, i < 255 → -1 ≤ fs.getD i 0 ∧ fs.getD i 0 ≤ 127

set_option maxHeartbeats 1000000 in
theorem mul_calls (fs : List Int) (a b g : Nat) (w : World) (ha : a ≤ 1000000) (hb' : b ≤ 1000000) (hf : FieldR fs) (hb : Blk w g 216 (ints fs)) : Calls Tryz.prog 95 #[.pointer (some ⟨g, 0, none⟩), .int .i64 a, .int .i64 b] w fun e w' => e = .returned (.int .i64 (mulE fs a b)) ∧ ∃ k, w' = w.drewN k := by
 obtain ⟨hl, hr⟩ := hf
 have c1 := log_calls fs a g w ha hl hb
 have c2 := fun k => log_calls fs b g (w.drewN k) hb' hl (blk_draws hb k)
 have c3 := fun n k (h : n ≤ 1000000) => exp_calls fs n g (w.drewN k) h hl (blk_draws hb k)
 have hx := hr (127 + a % 128) (by omega)
 have hy := hr (127 + b % 128) (by omega)
 have HE := hid (show mulE fs a b = if logE fs a < 0 ∨ logE fs b < 0 then 0 else expE fs (logE fs a + logE fs b).toNat from rfl)
 change -1 ≤ logE fs a ∧ logE fs a ≤ 127 at hx
 change -1 ≤ logE fs b ∧ logE fs b ≤ 127 at hy
 generalize logE fs a = x at *
 generalize logE fs b = y at *
 obtain ⟨hx0, hx1⟩ := hx
 obtain ⟨hy0, hy1⟩ := hy
 clear hb hl hr
 go_enter Tryz.func95, Tryz.ntmps95
 go_wp2_with fail
 refine c1.mono ?_
 rintro e w' ⟨rfl, k, rfl⟩
 clear c1
 go_wp2_with fail
 refine (c2 k).mono ?_
 rintro e w' ⟨rfl, j, rfl⟩
 clear c2
 by_cases hxn : x < 0
 · rw [if_pos (Or.inl hxn)] at HE
   go_wp2_with fail
   go_ret
   exact ⟨ret_i64 HE.out.symm, _, rfl⟩
 · by_cases hyn : y < 0
   · rw [if_pos (Or.inr hyn)] at HE
     go_wp2_with fail
     go_ret
     exact ⟨ret_i64 HE.out.symm, _, rfl⟩
   · rw [if_neg (fun h => h.elim hxn hyn)] at HE
     have hc := c3 (x + y).toNat (k + j) (by omega)
     have e0 : ((x + y).toNat : Int) = x + y := by omega
     have x0 : 0 ≤ x := by omega
     have y0 : 0 ≤ y := by omega
     have i0 : IntKind.i64.wrap (x + y) = x + y := IntWalk.i64_in _ (by clear e0; omega)
     rw [e0] at hc
     clear c3 e0
     go_wp2_with fail
     refine Calls.mono (by first | exact hc | (rw [World.drewN_drewN]; exact hc)) ?_
     rintro e w' ⟨rfl, m, rfl⟩
     go_wp2_with fail
     go_ret
     exact ⟨ret_i64 HE.out.symm, _, rfl⟩

def powX : Nat → Int
 | 0 => 1
 | k + 1 => if 128 ≤ powX k * 2 then bits .xor .i64 (powX k * 2) 137 else powX k * 2
def fieldTo : Nat → List Int
 | 0 => List.replicate 255 0
 | k + 1 => ((fieldTo k).set k (powX k)).set (127 + (powX k).toNat) k
def fieldL : List Int := (fieldTo 127).set 127 (-1)
theorem fieldTo_len : ∀ k, (fieldTo k).length = 255
 | 0 => List.length_replicate
 | k + 1 => by simp only [fieldTo, List.length_set]; exact fieldTo_len k
def powIn : Nat → Int → Bool
 | 0, _ => true
 | n + 1, x => decide (1 ≤ x) && decide (x < 128) && powIn n (if 128 ≤ x * 2 then bits .xor .i64 (x * 2) 137 else x * 2)
theorem powIn_all : ∀ (n j : Nat), powIn n (powX j) = true → ∀ k, k < n → 1 ≤ powX (j + k) ∧ powX (j + k) < 128
 | 0, _, _, k, hk => absurd hk (by omega)
 | n + 1, j, h, k, hk => by
  simp only [powIn, Bool.and_eq_true, decide_eq_true_eq] at h
  cases k with
  | zero => exact h.1
  | succ k =>
   have := powIn_all n (j + 1) h.2 k (by omega)
   rw [show j + (k + 1) = j + 1 + k by omega]
   exact this
theorem powX_in (k : Nat) (hk : k < 127) : 1 ≤ powX k ∧ powX k < 128 := by
 have := powIn_all 127 0 (by decide +kernel) k hk
 rwa [Nat.zero_add] at this
theorem fieldL_R : FieldR fieldL := ⟨by simp [fieldL, fieldTo_len], by decide +kernel⟩
set_option maxRecDepth 20000 in
set_option maxHeartbeats 4000000 in
theorem new_calls (w : World) : Calls Tryz.prog 94 #[] w fun e w' => e = .returned (.pointer (some ⟨w.heap.size, 0, none⟩)) ∧ Blk w' w.heap.size 216 (ints fieldL) ∧ Below w.heap.size w w' := by
 have hz : Tryz.zeroCells216 = ints (fieldTo 0) := by kernel_rfl
 have hb := blk_new w 216 Tryz.zeroCells216
 have hb2 : Blk (w.alloc (.cells Tryz.zeroCells216 216)) w.heap.size 216 (ints (fieldTo 0)) := by
  rw [← hz]
  exact hb
 have HB := hid hb2
 have B0 := hid ((Below.refl w.heap.size w).alloc (Nat.le_refl _) (.cells Tryz.zeroCells216 216))
 clear hb hb2 hz
 have HR := hid fieldL_R.1
 go_enter Tryz.func94, Tryz.ntmps94
 go_wp2_with fail
 generalize w.alloc (.cells Tryz.zeroCells216 216) = w1 at *
 generalize Value.agg Tryz.zeroCells216 = z4
 go_loopg [2, 6] 127 (fun gg s2 s6 wr => ∃ kk : Nat, kk ≤ 127 ∧ 127 - kk ≤ gg ∧ s6 = .int .i64 kk ∧ s2 = .int .i64 (powX kk) ∧ Aside (Below w.heap.size w wr) ∧ Aside (Blk wr w.heap.size 216 (ints (fieldTo kk))))
 case atStart => exact ⟨0, Nat.zero_le _, by omega, rfl, rfl, B0.out, HB.out⟩
 case round =>
  clear B0 HB
  obtain ⟨kk, hkk, hgk, rfl, rfl, B, O⟩ := hrel
  have hs := B.out.size
  by_cases hlt : kk < 127
  · obtain ⟨p0, p1⟩ := powX_in kk hlt
    have HN := hid (show powX (kk + 1) = if 128 ≤ powX kk * 2 then bits .xor .i64 (powX kk * 2) 137 else powX kk * 2 from rfl)
    have HF := hid (show fieldTo (kk + 1) = ((fieldTo kk).set kk (powX kk)).set (127 + (powX kk).toNat) kk from rfl)
    generalize powX kk = x at *
    obtain ⟨m, rfl⟩ : ∃ m : Nat, x = m := ⟨x.toNat, by omega⟩
    rw [Int.toNat_natCast] at HF
    have hkz : (kk : Int) < 127 := by omega
    have hk0 : (0 : Int) ≤ kk := by omega
    have hm0 : (0 : Int) ≤ m := by omega
    have c0 := blk_int O.out (i := kk) (by rw [fieldTo_len]; omega)
    have f0 := blk_free O.out kk
    have c1 := blk_int (blk_set_int O.out kk (m : Int)) (i := 127 + m) (by rw [List.length_set, fieldTo_len]; omega)
    have f1 := blk_free (blk_set_int O.out kk (m : Int)) (127 + m)
    generalize (fieldTo kk).getD kk 0 = y0 at *
    generalize ((fieldTo kk).set kk (m : Int)).getD (127 + m) 0 = y1 at *
    have O1 := hid (blk_set_int (blk_set_int O.out kk (m : Int)) (127 + m) (kk : Int))
    rw [← HF.out] at O1
    have B1 := hid (below_set (below_set B.out (b := w.heap.size) (i := kk) (by omega) (.int .i64 m)) (b := w.heap.size) (i := 127 + m) (by omega) (.int .i64 kk))
    have i0 : IntKind.i64.wrap ((m : Int) * 2) = (m : Int) * 2 := IntWalk.i64_in _ (by omega)
    clear B O HF
    go_wp2_with fail
    refine plain_region (S := (fun L W => True)) (by kernel_rfl) (trivial) (fun hHeld => ?_)
    clear hHeld
    refine aW 0 trivial ?_
    refine aW 1 trivial ?_
    refine aW 2 trivial ?_
    refine aW 3 trivial ?_
    refine aW 4 trivial ?_
    refine aW 5 trivial ?_
    refine aW 6 trivial ?_
    refine aW 7 trivial ?_
    refine aW 8 trivial ?_
    refine aW 10 trivial ?_
    refine aW 11 trivial ?_
    refine aR 9 (fun K hK => ?_)
    go_simp
    skip
    refine hK.out _ _ (trivial) (fun hHeld => ?_)
    clear hK K
    try simp only [Act.put, tA, tB, tC]
    clear hHeld
    refine aW 12 trivial ?_
    refine aR 13 (fun K hK => ?_)
    go_simp
    skip
    refine hK.out _ _ (trivial) (fun hHeld => ?_)
    clear hK K
    try simp only [Act.put, tA, tB, tC]
    clear hHeld
    refine anyU_done (by kernel_rfl) ?_ _
    have B2 := hid (below_draws B1.out 1)
    have O2 := hid (blk_draws O1.out 1)
    clear B1 O1 c0 f0 c1 f1
    change Exit.then _ _ Exit.normal _ (World.drewN _ 1)
    generalize World.drewN _ 1 = w3 at *
    by_cases hm : 128 ≤ (m : Int) * 2
    · rw [if_pos hm] at HN
      go_wp2_with fail
      go_roundg (127 - (kk + 1))
      case measure => omega
      case rel => exact ⟨kk + 1, by omega, by omega, by go_num, by rw [HN.out], B2.out, O2.out⟩
    · rw [if_neg hm] at HN
      have hm' : (m : Int) * 2 < 128 := by omega
      go_wp2_with fail
      go_roundg (127 - (kk + 1))
      case measure => omega
      case rel => exact ⟨kk + 1, by omega, by omega, by go_num, by rw [HN.out], B2.out, O2.out⟩
  · obtain rfl : kk = 127 := by omega
    have c0 := blk_int O.out (i := 127) (by rw [fieldTo_len]; omega)
    have f0 := blk_free O.out 127
    have O1 := hid (blk_set_int O.out 127 (-1))
    have B1 := hid (below_set B.out (b := w.heap.size) (i := 127) (by omega) (.int .i64 (-1)))
    have HF := hid (show fieldL = (fieldTo 127).set 127 (-1) from rfl)
    rw [← HF.out] at O1
    generalize (fieldTo 127).getD 127 0 = y0 at *
    clear B O HF
    go_wp2_with fail
    go_ret
    exact ⟨rfl, O1.out, B1.out⟩
end Go.Proofs.YtiigipnfnfpepaaGreatDoor
