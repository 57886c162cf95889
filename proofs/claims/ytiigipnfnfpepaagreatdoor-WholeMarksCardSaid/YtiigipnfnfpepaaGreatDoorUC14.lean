/- Tags (layer 20): few, right, bands, bytes. Tags (layer 20): pulses' bytes, parities. Tags (layer 20): a band's parity. -/
import Derived.Test.YtiigipnfnfpepaaGreatDoorUC13
import Derived.Test.YtiigipnfnfpepaaGreatDoorUA
namespace Go.Proofs.YtiigipnfnfpepaaGreatDoor
open Go.RowKit

set_option maxHeartbeats 2000000 in
theorem few_calls (y : List Int) (w : World) (hl : y.length = 4) (hs : sumA y ≤ 12) : Calls Tryz.prog 87 #[.agg (ints y)] w fun e w' => e = .returned (.bool true) ∧ Below w.heap.size w w' := by
 have hp := pulsesI_sum hl hs
 have h0 := (sumA_ge y 0).2
 have cp := pulses_calls y w.heap.size 4 (w.alloc (.cells (ints y) 44)) (by omega) (row_blk (blk_new w 44 (ints y)))
 rw [hl, hp] at cp
 have B0 := hid ((Below.refl w.heap.size w).alloc (Nat.le_refl _) (.cells (ints y) 44))
 generalize sumA y = k at *
 clear hp
 have hl := hid hl
 go_enter Tryz.func87, Tryz.ntmps87
 go_wp2_with fail
 refine cp.mono ?_
 rintro e w1 ⟨rfl, rfl⟩
 clear cp
 go_wp2_with fail
 go_ret
 exact ⟨by simp, B0.out⟩

set_option maxRecDepth 20000 in
set_option maxHeartbeats 2000000 in
theorem tright_calls (s : Shp) (w : World) (h : SK s) : Calls Tryz.prog 47 #[.agg (shV s)] w fun e w' => e = .returned (.bool true) ∧ Below w.heap.size w w' := by
 have HP := hid (fun (i : Nat) (hi : i < 8) => (shp_ylen h.ok hi))
 have HQ := hid (fun (i : Nat) (hi : i < 8) => getD_all h.sum (i := i) (by rw [h.ok.yl]; exact hi) [])
 have HY := hid (ys_size h.ok)
 have HOK := hid h.ok
 have HSS := hid (side_size h.ok.sl)
 have A0 := hid (shp_ys (blk_new w 47 (shV s)) h.ok)
 have S0 := hid (blk_new w 47 (shV s))
 have B0 := hid ((Below.refl w.heap.size w).alloc (Nat.le_refl _) (.cells (shV s) 47))
 have HXR := hid (fun (i : Nat) (hi : i < 8) (W : World) => run_index_row (P := Tryz.prog) (t := 45) (e := 44) (sz := 4) Tryz.underlying45 Tryz.underlying44 rfl (by kernel_rfl) (ints s.ys.flatten) i hi W)
 have HFE := hid (fun (i : Nat) (hi : i < 8) => flat_ext h.ok.y4 (i := i) (by rw [h.ok.yl]; exact hi))
 have cr := fun W => right_calls s.sd W h.ok.sl (fun z hz => by have := h.ok.s15 z hz; omega)
 rw [show rightB s.sd = true by
  unfold rightB
  rw [Bool.not_eq_true', List.any_eq_false]
  intro z hz
  have := h.ok.s15 z hz
  simp only [Bool.or_eq_true, decide_eq_true_eq]
  omega] at cr
 clear h
 go_enter Tryz.func47, Tryz.ntmps47
 go_wp2_with (first | (refine wpList_load_mid rfl 45 _ rfl w.heap.size 8 rfl _ _ A0.out Tryz.underlying45 rfl HY.out ?_))
 go_loopg [7] 8 (fun gg s7 wr => ∃ b : Nat, b ≤ 8 ∧ 8 - b ≤ gg ∧ s7 = .int .i64 b ∧ Aside (Below w.heap.size w wr) ∧ Aside (Blk wr w.heap.size 47 (shV s)))
 case atStart => exact ⟨0, Nat.zero_le _, by omega, rfl, B0.out, S0.out⟩
 case round =>
  clear A0 B0 S0
  obtain ⟨b, hb, hgk, rfl, B, S⟩ := hrel
  by_cases hlt : b < 8
  · have hbz : (b : Int) < 8 := by omega
    have hb0 : (0 : Int) ≤ b := by omega
    have hx := fun W => HXR.out b hlt W
    rw [HFE.out b hlt] at hx
    have hl := HP.out b hlt
    have hs12 := HQ.out b hlt
    have B1 := hid (B.out.alloc B.out.size (.cells #[Value.int .i64 0, .int .i64 0, .int .i64 0, .int .i64 0] 44))
    have S1 := hid (blk_alloc S.out (.cells #[Value.int .i64 0, .int .i64 0, .int .i64 0, .int .i64 0] 44))
    generalize s.ys.getD b [] = y at *
    have HYZ := hid (show (Tryz.prog.info? 44).map (·.size) = some (ints y).size by rw [ints_size, hl]; kernel_rfl)
    have HYS := hid (show (ints y).size = (#[Value.int .i64 0, .int .i64 0, .int .i64 0, .int .i64 0] : Array Value).size by rw [ints_size, hl]; rfl)
    have HYO := hid (ints_one y)
    have cf := fun W => few_calls y W hl hs12
    clear hl hs12
    have hsw := blk_lt S.out
    go_wp2_with (first | (refine wpList_store_blk rfl 44 _ _ rfl wr.heap.size 44 #[Value.int .i64 0, .int .i64 0, .int .i64 0, .int .i64 0] (ints y) rfl rfl (blk_new wr _ _) HYS.out HYZ.out HYO.out ?_; intro w2 n0 n1; have B2 := hid (below_grown B1.out n1 (by have := B.out.size; simp; omega) B.out.size); have S2 := hid (blk_grown S1.out n1 (fun e => by injection e with e; omega)); clear n1 B1 S1) | (refine wpList_load_blk (by rfl) 44 _ rfl wr.heap.size rfl 44 (ints y) _ n0 Tryz.underlying44 rfl HYZ.out ?_))
    refine (cf _).mono ?_
    rintro e w3 ⟨rfl, B3⟩
    have B4 := hid (bnext B2.out B3)
    have S4 := hid (blk_below S2.out B3 (blk_lt S2.out))
    clear hx n0 cf B3 B2 S2
    go_wp2_with fail
    go_roundg (8 - (b + 1))
    case measure => omega
    case rel => exact ⟨b + 1, by omega, by omega, by go_num, B4.out, S4.out⟩
  · obtain rfl : b = 8 := by omega
    have R8 := hid (shp_sides S.out HOK.out)
    go_wp2_with (first | (refine wpList_load_mid rfl 42 _ rfl w.heap.size 0 rfl _ _ R8.out Tryz.underlying42 rfl HSS.out ?_))
    refine (cr _).mono ?_
    rintro e w3 ⟨rfl, B3⟩
    have B4 := hid (bnext B.out B3)
    clear B3 cr
    go_wp2_with fail
    go_ret
    exact ⟨rfl, B4.out⟩

def bandsL (o : Nat) : List Int := (List.range 7).map fun i => if i < o then (i : Int) else (i : Int) + 1
def bandsTo (o n : Nat) : List Int := (List.range 7).map fun i => if i < n then (if i < o then (i : Int) else (i : Int) + 1) else 0
theorem bandsL_get (o : Nat) {i : Nat} (hi : i < 7) : (bandsL o).getD i 0 = if i < o then (i : Int) else (i : Int) + 1 := by
 rw [bandsL, List.getD_eq_getElem?_getD, List.getElem?_map, List.getElem?_range hi]; rfl
theorem bandsTo_succ (o n : Nat) {v : Int} (hv : v = if n < o then (n : Int) else (n : Int) + 1) : (bandsTo o n).set n v = bandsTo o (n + 1) := by
 apply List.ext_getElem (by simp [bandsTo])
 intro i h1 h2
 rw [List.getElem_set]
 simp only [bandsTo, List.getElem_map, List.getElem_range]
 by_cases e : n = i
 · subst e
   rw [if_pos rfl, if_pos (by omega), hv]
 · rw [if_neg e]
   by_cases h : i < n
   · simp only [if_pos h, if_pos (show i < n + 1 by omega)]
   · simp only [if_neg h, if_neg (show ¬ i < n + 1 by omega)]
theorem bandsTo_all (o : Nat) : bandsTo o 7 = bandsL o := by
 unfold bandsTo bandsL
 apply List.map_congr_left
 intro i hi
 rw [if_pos (List.mem_range.1 hi)]

set_option maxRecDepth 20000 in
set_option maxHeartbeats 2000000 in
theorem bands_calls (kb : List UInt8) (n : Nat) (w : World) (hk : kb.length = 16) (hn : n ≤ 1000000) (hS : Signs w) :
 Calls Tryz.prog 90 #[.agg (bytesV kb), .int .i64 n] w fun e w' => e = .returned (.agg (ints (bandsL (bandI kb n).toNat))) ∧ Below w.heap.size w w' := by
 have k0 := blk_alloc (blk_new w 23 (bytesV kb)) (.cells #[Value.int .i64 0, .int .i64 0, .int .i64 0, .int .i64 0, .int .i64 0, .int .i64 0, .int .i64 0] 153)
 have r0 := blk_new (w.alloc (.cells (bytesV kb) 23)) 153 #[Value.int .i64 0, .int .i64 0, .int .i64 0, .int .i64 0, .int .i64 0, .int .i64 0, .int .i64 0]
 rw [World.size_alloc] at r0
 have b0 := ((Below.refl w.heap.size w).alloc (Nat.le_refl _) (.cells (bytesV kb) 23)).alloc (by simp) (.cells #[Value.int .i64 0, .int .i64 0, .int .i64 0, .int .i64 0, .int .i64 0, .int .i64 0, .int .i64 0] 153)
 have cb := band_calls kb n ((w.alloc (.cells (bytesV kb) 23)).alloc (.cells #[Value.int .i64 0, .int .i64 0, .int .i64 0, .int .i64 0, .int .i64 0, .int .i64 0, .int .i64 0] 153)) hk hn (signs_below hS b0 (signs_size hS))
 have K0 := hid k0
 have R0 := hid r0
 have B0 := hid b0
 have HKS := hid (key_size hk)
 obtain ⟨hb0, hb1⟩ := bandI_in kb n
 obtain ⟨o, ho⟩ : ∃ o : Nat, bandI kb n = o := ⟨(bandI kb n).toNat, by omega⟩
 have HO := hid (show bandsL (bandI kb n).toNat = bandsTo o 7 by rw [ho, bandsTo_all]; rfl)
 rw [ho] at cb hb0 hb1
 have HSZ := hid (fun q => show (Tryz.prog.info? 153).map (·.size) = some (ints (bandsTo o q)).size by rw [ints_size]; simp only [bandsTo, List.length_map, List.length_range]; kernel_rfl)
 have HSS := hid (fun q => show (ints (bandsTo o q)).size = (#[Value.int .i64 0, .int .i64 0, .int .i64 0, .int .i64 0, .int .i64 0, .int .i64 0, .int .i64 0] : Array Value).size by rw [ints_size]; simp [bandsTo])
 have HSO := hid (fun q => ints_one (bandsTo o q))
 have HZ : Hid ((#[Value.int .i64 0, .int .i64 0, .int .i64 0, .int .i64 0, .int .i64 0, .int .i64 0, .int .i64 0] : Array Value) = ints (bandsTo o 0)) := hid (by
  rw [show bandsTo o 0 = (List.range 7).map (fun _ => 0) from List.map_congr_left (fun i _ => by rw [if_neg (Nat.not_lt_zero i)])]
  rfl)
 have HL := hid (fun q => show (bandsTo o q).length = 7 by simp [bandsTo])
 have HG := hid (show w.heap.size + 1 < ((w.alloc (.cells (bytesV kb) 23)).alloc (.cells #[Value.int .i64 0, .int .i64 0, .int .i64 0, .int .i64 0, .int .i64 0, .int .i64 0, .int .i64 0] 153)).heap.size by simp)
 clear k0 r0 b0 hS hk hn ho
 go_enter Tryz.func90, Tryz.ntmps90
 go_wp2_with (first | (refine wpList_load_blk (by rfl) 23 _ rfl w.heap.size rfl 23 (bytesV kb) _ K0.out Tryz.underlying23 rfl HKS.out ?_))
 refine cb.mono ?_
 rintro e w2 ⟨rfl, B2⟩
 have R2 := hid (blk_alloc (blk_below R0.out B2 HG.out) (.cells #[Value.int .i64 0, .int .i64 0, .int .i64 0, .int .i64 0, .int .i64 0, .int .i64 0, .int .i64 0] 153))
 have BB := hid (bnext B0.out B2)
 have O2' := blk_new w2 153 #[Value.int .i64 0, .int .i64 0, .int .i64 0, .int .i64 0, .int .i64 0, .int .i64 0, .int .i64 0]
 rw [HZ.out] at O2'
 have HGR := hid (show w.heap.size + 1 < w2.heap.size by have := B2.size; have := HG.out; omega)
 have BB2 := hid (BB.out.alloc BB.out.size (.cells #[Value.int .i64 0, .int .i64 0, .int .i64 0, .int .i64 0, .int .i64 0, .int .i64 0, .int .i64 0] 153))
 have O2 : Hid (Blk (w2.alloc (.cells #[Value.int .i64 0, .int .i64 0, .int .i64 0, .int .i64 0, .int .i64 0, .int .i64 0, .int .i64 0] 153)) w2.heap.size 153 (ints (bandsTo o 0))) := hid (by rw [← HZ.out] at O2' ⊢; exact O2')
 clear cb B2 K0 R0 B0 BB O2' HG
 go_wp2_with fail
 generalize w2.alloc (.cells #[Value.int .i64 0, .int .i64 0, .int .i64 0, .int .i64 0, .int .i64 0, .int .i64 0, .int .i64 0] 153) = w3 at *
 generalize w2.heap.size = go at *
 go_loopg [7, 12] 8 (fun gg s7 s12 wr => ∃ k q : Nat, k ≤ 8 ∧ 8 - k ≤ gg ∧ s12 = .int .i64 k ∧ s7 = .int .i64 q ∧ Aside (q = if k ≤ o then k else k - 1) ∧ Aside (Below w.heap.size w wr) ∧ Aside (Blk wr (w.heap.size + 1) 153 #[Value.int .i64 0, .int .i64 0, .int .i64 0, .int .i64 0, .int .i64 0, .int .i64 0, .int .i64 0]) ∧ Aside (Blk wr go 153 (ints (bandsTo o q))))
 case atStart => exact ⟨0, 0, Nat.zero_le _, by omega, rfl, rfl, (by simp : (0 : Nat) = if 0 ≤ o then 0 else 0 - 1), BB2.out, R2.out, O2.out⟩
 case round =>
  clear BB2 R2 O2
  obtain ⟨k, q, hk, hgk, rfl, rfl, hq, BB, R, OO⟩ := hrel
  have hq := hq.out
  by_cases hlt : k < 8
  · have hkz : (k : Int) < 8 := by omega
    have hk0 : (0 : Int) ≤ k := by omega
    by_cases hko : k = o
    · have e1 : ((k : Int) == o) = true := by simp; omega
      have e2 := hid (show q = if k + 1 ≤ o then k + 1 else k + 1 - 1 by rw [hq, if_pos (by omega), if_neg (by omega)]; rfl)
      clear hq hko
      go_wp2_with fail
      go_roundg (8 - (k + 1))
      case measure => omega
      case rel => exact ⟨k + 1, q, by omega, by omega, by go_num, rfl, e2.out, BB.out, R.out, OO.out⟩
    · have e1 : ((k : Int) == o) = false := by simp; omega
      have hq7 : q < 7 := by rw [hq]; split <;> omega
      have hv : (k : Int) = if q < o then (q : Int) else (q : Int) + 1 := by
       rw [hq]
       by_cases h : k ≤ o
       · rw [if_pos h, if_pos (by omega)]
       · rw [if_neg h, if_neg (by omega)]; omega
      have e2 := hid (show q + 1 = if k + 1 ≤ o then k + 1 else k + 1 - 1 by
       rw [hq]
       by_cases h : k ≤ o
       · rw [if_pos h, if_pos (by omega)]
       · rw [if_neg h, if_neg (by omega)]; omega)
      have hqz : (q : Int) < 7 := by omega
      have hq0 : (0 : Int) ≤ q := by omega
      have cx := blk_int OO.out (i := q) (by rw [HL.out]; exact hq7)
      have fx := blk_free OO.out q
      have o4 := blk_set_int OO.out q k
      rw [bandsTo_succ o q hv] at o4
      have O4 := hid o4
      have R4 := hid (blk_far (b := go) (i := q) R.out (by have := HGR.out; omega) (.int .i64 k))
      have B4 := hid (below_set (i := q) BB.out (b := go) (by have := HGR.out; omega) (.int .i64 k))
      clear hq hko hv o4
      go_wp2_with fail
      go_roundg (8 - (k + 1))
      case measure => omega
      case rel => exact ⟨k + 1, q + 1, by omega, by omega, by go_num, by go_num, e2.out, B4.out, R4.out, O4.out⟩
  · obtain rfl : k = 8 := by omega
    have hq7 : q = 7 := by rw [hq, if_neg (by omega)]
    clear hq
    obtain rfl := hq7
    go_wp2_with (first | (refine wpList_load_blk (by rfl) 153 _ rfl go rfl 153 (ints (bandsTo o 7)) _ OO.out Tryz.underlying153 rfl (HSZ.out 7) ?_) | (refine wpList_store_blk rfl 153 _ _ rfl (w.heap.size + 1) 153 #[Value.int .i64 0, .int .i64 0, .int .i64 0, .int .i64 0, .int .i64 0, .int .i64 0, .int .i64 0] (ints (bandsTo o 7)) rfl rfl R.out (HSS.out 7) (HSZ.out 7) (HSO.out 7) ?_; intro w9 n0 n1))
    have B9 := hid (below_grown BB.out n1 (by have := BB.out.size; omega) (Nat.le_succ _))
    exact bodyPost_ret (results_cell_row rfl _ _ (w.heap.size + 1) 153 (ints (bandsTo o 7)) (0, 0) _ rfl n0 Tryz.underlying153 rfl (HSZ.out 7)) rfl ⟨by rw [HO.out], B9.out⟩
end Go.Proofs.YtiigipnfnfpepaaGreatDoor
namespace Go.Proofs.YtiigipnfnfpepaaGreatDoor
open Go.RowKit

def byteY (x : Int) : UInt8 := valB (x + 128)
def bytesY (y : List Int) (k : Nat) : List UInt8 := (y.take k).map byteY
theorem bytesY_succ (y : List Int) {k : Nat} (hk : k < y.length) : bytesY y (k + 1) = bytesY y k ++ [byteY (y.getD k 0)] := by
 unfold bytesY
 rw [List.take_add_one, List.getElem?_eq_getElem hk, List.getD_eq_getElem?_getD, List.getElem?_eq_getElem hk, List.map_append]
 rfl
theorem bytesY_len {y : List Int} (hl : y.length = 4) {k : Nat} (hk : k ≤ 4) : (bytesY y k).length = k := by simp [bytesY, hl]; omega

set_option maxRecDepth 20000 in
set_option maxHeartbeats 2000000 in
theorem bytes_calls (y : List Int) (w : World) (hy : PIn y) : Calls Tryz.prog 135 #[.agg (ints y)] w fun e w' => e = .returned (.string (str (bytesY y 4))) ∧ Below w.heap.size w w' := by
 obtain ⟨inf, hinf, hzr, hsz, hby⟩ := info_parts (P := Tryz.prog) (e := 5) (z := .int .u8 0) (size := 1) (bytes := 1) (by kernel_rfl)
 have HF := hid (And.intro hinf (And.intro hzr (And.intro hsz hby)))
 have Y0 := hid (blk_new w 44 (ints y))
 have B0 := hid ((Below.refl w.heap.size w).alloc (Nat.le_refl _) (.cells (ints y) 44))
 have HO := hid (show (w.alloc (.cells (ints y) 44)).ownsRow (w.heap.size + 1) 5 1 (.slice none 0 0) 0 ((bytesY y 0).map fun b => Value.int .u8 (b.toNat : Int)) from ⟨rfl, .inl ⟨rfl, rfl⟩⟩)
 have HYZ := hid (show (Tryz.prog.info? 44).map (·.size) = some (ints y).size by rw [ints_size, hy.len]; kernel_rfl)
 have hif := info_parts (P := Tryz.prog) (e := 3) (z := .int .i64 0) (size := 1) (bytes := 8) (by kernel_rfl)
 obtain ⟨infI, hinI, hzI, hsI, hbI⟩ := hif
 have HX := hid (fun (i : Nat) (h : i < 4) (W : World) => run_index_any (P := Tryz.prog) (t := 44) (e := 3) Tryz.underlying44 (by kernel_rfl) hinI hsI (ints y) (.int .i64 (y.getD i 0)) i (by rw [ints_get, List.getD_eq_getElem?_getD, List.getElem?_eq_getElem (by rw [hy.len]; exact h)]; rfl) h W)
 have HPG := hid (fun i (hi : i < 4) => pin_get hy hi)
 have HYL := hid hy.len
 clear hinI hzI hsI hbI hinf hzr hsz hby hy
 go_enter Tryz.func135, Tryz.ntmps135
 go_wp2_with (first | (refine wpList_load_blk (by rfl) 44 _ rfl w.heap.size rfl 44 (ints y) _ Y0.out Tryz.underlying44 rfl HYZ.out ?_))
 generalize w.alloc (.cells (ints y) 44) = w1 at *
 go_loopg [3, 7] 4 (fun gg s3 s7 wr => ∃ kk : Nat, kk ≤ 4 ∧ 4 - kk ≤ gg ∧ s7 = .int .i64 kk ∧ Aside (Below w.heap.size w wr) ∧ Aside (w.heap.size + 1 ≤ wr.heap.size) ∧ Aside (wr.ownsRow (w.heap.size + 1) 5 1 s3 kk ((bytesY y kk).map fun b => Value.int .u8 (b.toNat : Int))))
 case atStart => exact ⟨0, Nat.zero_le _, by omega, rfl, B0.out, blk_lt Y0.out, HO.out⟩
 case round =>
  clear B0 Y0 HO
  obtain ⟨kk, hkk, hgk, rfl, B, HZ, O⟩ := hrel
  by_cases hlt : kk < 4
  · have hltz : (kk : Int) < 4 := by omega
    have hk0 : (0 : Int) ≤ kk := by omega
    have hs := B.out.size
    have hkl := HZ.out
    have hx := fun W => HX.out kk hlt W
    obtain ⟨hp0, hp1⟩ := HPG.out kk hlt
    have HSU := hid (bytesY_succ y (k := kk) (by rw [HYL.out]; exact hlt))
    generalize y.getD kk 0 = x at *
    go_wp2_with (first | (at_builtin; refine wpList_append_own _ rfl _ _ 109 rfl (w.heap.size + 1) 5 inf (.int .u8 0) 1 1 Tryz.underlying109 HF.out.1 HF.out.2.1 HF.out.2.2.1 HF.out.2.2.2 rfl (by decide) _ kk _ rfl (O.out.alloc _) ⟨wr.heap.size, 0, none⟩ 1 1 [.int .u8 (x + 128)] rfl rfl (cell_one_new _ _ _) (by simp [Value.oneCell']) (by unfold maxLen; omega) (by omega) (by simp; omega) ?_; intro v' w5 hown' hgrow _))
    have hol := O.out.lt
    have B5 := hid ((B.out.alloc hs (.cells #[.int .u8 (x + 128)] 5)).grown hgrow (by simp; omega) (fun k e => by have := (hol k e).1; omega))
    rw [show [Value.int .u8 (x + 128)] = [byteY x].map (fun b => Value.int .u8 (b.toNat : Int)) by rw [List.map_cons, List.map_nil, byteY, valB_of (by omega) (by omega)], ← List.map_append, ← HSU.out] at hown'
    have O5 := hid hown'
    have HZ5 := hid (show w.heap.size + 1 ≤ w5.heap.size by have := hgrow.size; simp at this; omega)
    clear hown' hgrow hol O B hx HZ
    go_wp2_with fail
    go_roundg (4 - (kk + 1))
    case measure => omega
    case rel => exact ⟨kk + 1, by omega, by omega, by go_num, B5.out, HZ5.out, O5.out⟩
  · obtain rfl : kk = 4 := by omega
    have hc := conv_owns O.out (by omega)
    go_wp2_with fail
    go_ret
    exact ⟨rfl, B.out⟩

def oddS (y : List Int) (inn : List Bool) : Nat → Int
 | 0 => 0
 | k + 1 => if inn.getD k false then oddS y inn k + max (y.getD k 0) (-(y.getD k 0)) else oddS y inn k
def oddI (y : List Int) (inn : List Bool) : Int := oddS y inn 4 % 2
theorem oddS_in {y : List Int} (hy : PIn y) (inn : List Bool) : ∀ k : Nat, k ≤ 4 → 0 ≤ oddS y inn k ∧ oddS y inn k ≤ 12 * k
 | 0, _ => by simp [oddS]
 | k + 1, hk => by
  have h := oddS_in hy inn k (by omega)
  have := pin_get hy (i := k) (by omega)
  rw [oddS]
  split <;> omega
theorem oddI_in {y : List Int} (_hy : PIn y) (inn : List Bool) : 0 ≤ oddI y inn ∧ oddI y inn < 2 := by unfold oddI; omega

set_option maxRecDepth 20000 in
set_option maxHeartbeats 2000000 in
theorem odd_calls (y : List Int) (inn : List Bool) (w : World) (hy : PIn y) (hi4 : inn.length = 4) : Calls Tryz.prog 92 #[.agg (ints y), .agg (bools inn)] w fun e w' => e = .returned (.int .i64 (oddI y inn)) ∧ Below w.heap.size w w' := by
 have y0 := blk_alloc (blk_new w 44 (ints y)) (.cells (bools inn) 155)
 have c0 := blk_new (w.alloc (.cells (ints y) 44)) 155 (bools inn)
 rw [World.size_alloc] at c0
 have Y0 := hid y0
 have C0 := hid c0
 have B0 := hid (((Below.refl w.heap.size w).alloc (Nat.le_refl _) (.cells (ints y) 44)).alloc (by simp) (.cells (bools inn) 155))
 have HCZ := hid (show (Tryz.prog.info? 155).map (·.size) = some (bools inn).size by rw [bools_size, hi4]; kernel_rfl)
 have hif := info_parts (P := Tryz.prog) (e := 4) (z := .bool false) (size := 1) (bytes := 1) (by kernel_rfl)
 obtain ⟨infI, hinI, hzI, hsI, hbI⟩ := hif
 have HX := hid (fun (i : Nat) (h : i < 4) (W : World) => run_index_any (P := Tryz.prog) (t := 155) (e := 4) Tryz.underlying155 (by kernel_rfl) hinI hsI (bools inn) _ i (bools_get inn (by rw [hi4]; exact h)) h W)
 have HYL := hid hy.len
 have HSI := hid (oddS_in hy inn)
 have HPG := hid (fun i (hi : i < 4) => pin_get hy hi)
 have HI := hid hi4
 have HOI := hid (show oddI y inn = oddS y inn 4 % 2 from rfl)
 have HIN := hid (oddI_in hy inn)
 clear hinI hzI hsI hbI y0 c0 hy hi4
 go_enter Tryz.func92, Tryz.ntmps92
 go_wp2_with (first | (refine wpList_load_blk (by rfl) 155 _ rfl (w.heap.size + 1) rfl 155 (bools inn) _ C0.out Tryz.underlying155 rfl HCZ.out ?_))
 go_loopg [5, 9] 4 (fun gg s5 s9 wr => ∃ i : Nat, i ≤ 4 ∧ 4 - i ≤ gg ∧ s9 = .int .i64 i ∧ s5 = .int .i64 (oddS y inn i) ∧ Aside (Below w.heap.size w wr) ∧ Aside (Blk wr w.heap.size 44 (ints y)))
 case atStart => exact ⟨0, Nat.zero_le _, by omega, rfl, rfl, B0.out, Y0.out⟩
 case round =>
  clear B0 Y0 C0
  obtain ⟨i, hi, hgi, rfl, rfl, B, Y⟩ := hrel
  by_cases hlt : i < 4
  · have hiz : (i : Int) < 4 := by omega
    have hi0 : (0 : Int) ≤ i := by omega
    have hx := fun W => HX.out i hlt W
    have cy := blk_int Y.out (i := i) (by rw [HYL.out]; exact hlt)
    obtain ⟨hs0, hs1⟩ := HSI.out i hi
    obtain ⟨hm0, hm1⟩ := HPG.out i hlt
    have HST := hid (show oddS y inn (i + 1) = if inn.getD i false then oddS y inn i + max (y.getD i 0) (-(y.getD i 0)) else oddS y inn i from rfl)
    generalize inn.getD i false = bi at *
    generalize y.getD i 0 = x at *
    generalize hso : oddS y inn (i + 1) = s1 at *
    have HSO := hid hso
    clear hso
    generalize oddS y inn i = s0 at *
    cases bi with
    | true =>
     have hst : s1 = s0 + max x (-x) := HST.out
     have hw : IntKind.i64.wrap (s0 + max x (-x)) = s1 := by rw [hst]; exact IntWalk.i64_in _ (by omega)
     have hnx : IntKind.i64.wrap (-x) = -x := IntWalk.i64_in _ (by omega)
     clear hst HST
     go_wp2_with fail
     refine plain_region (S := (fun L W => W.cell? ⟨w.heap.size, i, none⟩ = some (.int .i64 x) ∧ W.cell? ⟨w.heap.size, i, none⟩ = some (.int .i64 x))) (by kernel_rfl) (⟨cy, cy⟩) (fun hHeld => ?_)
     clear hHeld
     refine aW 0 ⟨cy, cy⟩ ?_
     refine aW 1 ⟨cy, cy⟩ ?_
     refine aW 2 ⟨cy, cy⟩ ?_
     refine aL 3 8 (fun _ _ _ k => k.1) ⟨cy, cy⟩ ?_
     refine aW 4 ⟨cy, cy⟩ ?_
     refine aW 5 ⟨cy, cy⟩ ?_
     refine aL 6 7 (fun _ _ _ k => k.2) ⟨cy, cy⟩ ?_
     refine aW 7 ⟨cy, cy⟩ ?_
     refine aW 8 ⟨cy, cy⟩ ?_
     refine aW 9 ⟨cy, cy⟩ ?_
     refine aW 10 ⟨cy, cy⟩ ?_
     refine anyU_done (by kernel_rfl) ?_ _
     go_wp2_with fail
     go_roundg (4 - (i + 1))
     case measure => omega
     case rel => exact ⟨i + 1, by omega, by omega, by go_num, by rw [HSO.out], below_draws B.out 1, blk_draws Y.out 1⟩
    | false =>
     have hst : s1 = s0 := HST.out
     have HST := hid hst
     clear hst
     go_wp2_with fail
     go_roundg (4 - (i + 1))
     case measure => omega
     case rel => exact ⟨i + 1, by omega, by omega, by go_num, by rw [HSO.out, HST.out], B.out, Y.out⟩
  · obtain rfl : i = 4 := by omega
    have hs4 := HSI.out 4 (Nat.le_refl _)
    obtain ⟨hs0, hs1⟩ := hs4
    go_wp2_with fail
    go_ret
    exact ⟨ret_i64 HOI.out.symm, B.out⟩
end Go.Proofs.YtiigipnfnfpepaaGreatDoor
namespace Go.Proofs.YtiigipnfnfpepaaGreatDoor
open Go.RowKit

theorem listB4 {l : List Bool} (h : l.length = 4) : ∃ a b c d, l = [a, b, c, d] := by
 match l, h with
 | [a, b, c, d], _ => exact ⟨a, b, c, d, rfl⟩
theorem eq_bools (a b c d : Bool) (W : World) : (Op.equalIn 10000 155 (.agg (bools [a, b, c, d])) (.agg #[.bool true, .bool true, .bool true, .bool true])).run Tryz.prog W = .ok (a && b && c && d) W := by
 cases a <;> cases b <;> cases c <;> cases d <;> kernel_rfl
def canB (y : List Int) (inn : List Bool) : Bool := decide (0 < sumA y) && !(inn.all id)
set_option maxRecDepth 20000 in
set_option maxHeartbeats 2000000 in
theorem parity_calls (kb : List UInt8) (n b : Nat) (y : List Int) (w : World) (hk : kb.length = 16) (hn : n ≤ 1000000) (hb8 : b < 8) (hS : Signs w) (hl : y.length = 4) (hs : sumA y ≤ 12) :
 Calls Tryz.prog 49 #[.agg (bytesV kb), .int .i64 n, .int .i64 b, .agg (ints y)] w fun e w' => e = .returned (.tuple #[.int .i64 (oddI y (subsetL kb n b)), .bool (canB y (subsetL kb n b))]) ∧ Below w.heap.size w w' := by
 have hy := sumA_pin hl rfl hs
 have hp := pulsesI_sum hl hs
 have k0 := blk_alloc (blk_new w 23 (bytesV kb)) (.cells (ints y) 44)
 have y0 := blk_new (w.alloc (.cells (bytesV kb) 23)) 44 (ints y)
 rw [World.size_alloc] at y0
 have b0 := ((Below.refl w.heap.size w).alloc (Nat.le_refl _) (.cells (bytesV kb) 23)).alloc (by simp) (.cells (ints y) 44)
 have cf := few_calls y ((w.alloc (.cells (bytesV kb) 23)).alloc (.cells (ints y) 44)) hl hs
 have K0 := hid k0
 have Y0 := hid y0
 have B0 := hid b0
 have HKS := hid (key_size hk)
 have HYZ := hid (show (Tryz.prog.info? 44).map (·.size) = some (ints y).size by rw [ints_size, hl]; kernel_rfl)
 have cs := fun W hS => subset_calls kb n b W hk hn hb8 hS
 have hil : (subsetL kb n b).length = 4 := by simp [subsetL]
 have HIZ := hid (show (Tryz.prog.info? 155).map (·.size) = some (bools (subsetL kb n b)).size by rw [bools_size, hil]; kernel_rfl)
 have HIS := hid (show (bools (subsetL kb n b)).size = (#[.bool false, .bool false, .bool false, .bool false] : Array Value).size by rw [bools_size, hil]; rfl)
 have HIO := hid (bools_one (subsetL kb n b))
 have co := fun W => odd_calls y (subsetL kb n b) W hy hil
 have HP := hid hp
 have HL := hid hl
 have HG := hid hS
 have HIL := hid hil
 have HC := hid (show canB y (subsetL kb n b) = (decide (0 < sumA y) && !((subsetL kb n b).all id)) from rfl)
 generalize subsetL kb n b = inn at *
 have hbz : (b : Int) < 8 := by omega
 have hb0 : (0 : Int) ≤ b := by omega
 have d1 : decide ((b : Int) < 0) = false := by simp
 have d2 : decide (8 ≤ (b : Int)) = false := by simp; omega
 have HW := hid (show w.heap.size + 1 < ((w.alloc (.cells (bytesV kb) 23)).alloc (.cells (ints y) 44)).heap.size by simp)
 clear hy hp k0 y0 b0 hk hn hl hs hS hil
 go_enter Tryz.func49, Tryz.ntmps49
 go_wp2_with (first | (refine wpList_load_blk (by rfl) 44 _ rfl (w.heap.size + 1) rfl 44 (ints y) _ Y0.out Tryz.underlying44 rfl HYZ.out ?_))
 refine cf.mono ?_
 rintro e w1 ⟨rfl, B1⟩
 have K1 := hid (blk_below K0.out B1 (by have := HW.out; omega))
 have Y1 := hid (blk_below Y0.out B1 HW.out)
 have BB1 := hid (bnext B0.out B1)
 have HW1 := hid (show w.heap.size + 1 < w1.heap.size by have := B1.size; have := HW.out; omega)
 clear cf B1 K0 Y0 B0 HW
 have cs1 := cs w1 (signs_below HG.out BB1.out (signs_size HG.out))
 clear cs
 go_wp2_with (first | (refine wpList_load_blk (by rfl) 23 _ rfl w.heap.size rfl 23 (bytesV kb) _ K1.out Tryz.underlying23 rfl HKS.out ?_))
 refine cs1.mono ?_
 rintro e w2 ⟨rfl, B2⟩
 have Y2 := hid (blk_alloc (blk_below Y1.out B2 HW1.out) (.cells #[.bool false, .bool false, .bool false, .bool false] 155))
 have BB2 := bnext BB1.out B2
 have BB2' := hid (BB2.alloc BB2.size (.cells #[.bool false, .bool false, .bool false, .bool false] 155))
 have HW2 := hid (show w.heap.size + 1 < w2.heap.size by have := B2.size; have := HW1.out; omega)
 clear cs1 B2 K1 Y1 BB1 HW1 BB2
 go_wp2_with (first | (refine wpList_store_blk rfl 155 _ _ rfl w2.heap.size 155 _ (bools inn) rfl rfl (blk_new w2 _ _) HIS.out HIZ.out HIO.out ?_; intro w3 n0 n1; have I3 := hid n0; have Y3 := hid (blk_grown Y2.out n1 (fun e => by injection e with e; have := HW2.out; omega)); have BB3 := hid (below_grown BB2'.out n1 (by have := HW2.out; simp; omega) (by have := HW2.out; omega)); clear n0 n1 Y2 BB2'))
 generalize w2.heap.size = gi at *
 have y3 := Y3.out
 have i3 := I3.out
 have hpr : Row w3 (w.heap.size + 1) y := row_blk Y3.out
 by_cases h0 : 0 < sumA y
 · have HCB := hid (show canB y inn = !(inn.all id) by rw [HC.out, decide_eq_true h0, Bool.true_and])
   obtain ⟨i0, i1, i2, i3', hinn⟩ := listB4 HIL.out
   subst hinn
   have eb := eq_bools i0 i1 i2 i3'
   refine plain_region (S := (fun L W => (L.getD 2 true = true ∨ Blk W (w.heap.size + 1) 44 (ints y)) ∧ (L.getD 2 true = true ∨ Blk W gi 155 (bools [i0, i1, i2, i3'])) ∧ Blk W gi 155 (bools [i0, i1, i2, i3']))) (by kernel_rfl) (⟨Or.inr y3, Or.inr i3, i3⟩) (fun hHeld => ?_)
   clear hHeld
   refine aB 0 2 rfl (fun _ _ h k => rL k.1 h) (yields_blk (by rfl) 44 _ rfl (w.heap.size + 1) rfl 44 (ints y) _ (fun _ h => h) Tryz.underlying44 rfl HYZ.out) ⟨Or.inr y3, Or.inr i3, i3⟩ ?_
   refine aB 1 2 rfl (fun _ _ h k => rL k.2.1 h) (yields_blk (by rfl) 155 _ rfl gi rfl 155 (bools [i0, i1, i2, i3']) _ (fun _ h => h) Tryz.underlying155 rfl HIZ.out) ⟨Or.inr y3, Or.inr i3, i3⟩ ?_
   refine aW 3 ⟨Or.inr y3, Or.inr i3, i3⟩ ?_
   refine aR 2 (fun K hK => ?_)
   go_simp
   refine (co _).mono ?_
   rintro e w4 ⟨rfl, B4⟩
   have Y4 := hid (blk_below (blk_drew Y3.out) B4 (blk_lt Y3.out))
   have i3 := blk_below (blk_drew I3.out) B4 (blk_lt I3.out)
   have BB4 := hid (bnext (below_draws BB3.out 1) B4)
   have cp := pulses_calls y (w.heap.size + 1) 4 w4 (by rw [HL.out]; decide) (row_blk Y4.out)
   rw [HL.out, HP.out] at cp
   clear B4
   refine hK.out _ _ (⟨Or.inl (by rfl), Or.inl (by rfl), i3⟩) (fun hHeld => ?_)
   clear hK K
   try simp only [Act.put, tA, tB, tC]
   clear hHeld
   refine aR 4 (fun K hK => ?_)
   go_simp
   refine cp.mono ?_
   rintro e w5 ⟨rfl, rfl⟩
   refine hK.out _ _ (⟨Or.inl (by rfl), Or.inl (by rfl), i3⟩) (fun hHeld => ?_)
   clear hK K
   try simp only [Act.put, tA, tB, tC]
   clear hHeld
   refine aW 5 ⟨Or.inl (by rfl), Or.inl (by rfl), i3⟩ ?_
   refine aW 6 ⟨Or.inl (by rfl), Or.inl (by rfl), i3⟩ ?_
   refine aB 7 9 rfl (fun _ _ _ k => k.2.2) (yields_blk (by rfl) 155 _ rfl gi rfl 155 (bools [i0, i1, i2, i3']) _ (fun _ h => h) Tryz.underlying155 rfl HIZ.out) ⟨Or.inl (by rfl), Or.inl (by rfl), i3⟩ ?_
   refine aW 8 ⟨Or.inl (by rfl), Or.inl (by rfl), i3⟩ ?_
   refine aW 9 ⟨Or.inl (by rfl), Or.inl (by rfl), i3⟩ ?_
   refine aW 10 ⟨Or.inl (by rfl), Or.inl (by rfl), i3⟩ ?_
   refine aW 11 ⟨Or.inl (by rfl), Or.inl (by rfl), i3⟩ ?_
   refine aW 12 ⟨Or.inl (by rfl), Or.inl (by rfl), i3⟩ ?_
   refine anyU_done (by kernel_rfl) ?_ _
   clear eb
   go_wp2_with fail
   go_ret2
   exact ⟨by rw [HCB.out]; simp [Bool.or_assoc], BB4.out⟩
 · have HCB := hid (show canB y inn = false by rw [HC.out, decide_eq_false h0, Bool.false_and])
   have e0 : decide (0 < sumA y) = false := decide_eq_false h0
   clear h0
   refine plain_region (S := (fun L W => (L.getD 2 true = true ∨ Blk W (w.heap.size + 1) 44 (ints y)) ∧ (L.getD 2 true = true ∨ Blk W gi 155 (bools inn)))) (by kernel_rfl) (⟨Or.inr y3, Or.inr i3⟩) (fun hHeld => ?_)
   clear hHeld
   refine aB 0 2 rfl (fun _ _ h k => rL k.1 h) (yields_blk (by rfl) 44 _ rfl (w.heap.size + 1) rfl 44 (ints y) _ (fun _ h => h) Tryz.underlying44 rfl HYZ.out) ⟨Or.inr y3, Or.inr i3⟩ ?_
   refine aB 1 2 rfl (fun _ _ h k => rL k.2 h) (yields_blk (by rfl) 155 _ rfl gi rfl 155 (bools inn) _ (fun _ h => h) Tryz.underlying155 rfl HIZ.out) ⟨Or.inr y3, Or.inr i3⟩ ?_
   refine aW 3 ⟨Or.inr y3, Or.inr i3⟩ ?_
   refine aR 2 (fun K hK => ?_)
   go_simp
   refine (co _).mono ?_
   rintro e w4 ⟨rfl, B4⟩
   have Y4 := hid (blk_below (blk_drew Y3.out) B4 (blk_lt Y3.out))
   have i3 := blk_below (blk_drew I3.out) B4 (blk_lt I3.out)
   have BB4 := hid (bnext (below_draws BB3.out 1) B4)
   have cp := pulses_calls y (w.heap.size + 1) 4 w4 (by rw [HL.out]; decide) (row_blk Y4.out)
   rw [HL.out, HP.out] at cp
   clear B4
   refine hK.out _ _ (⟨Or.inl (by rfl), Or.inl (by rfl)⟩) (fun hHeld => ?_)
   clear hK K
   try simp only [Act.put, tA, tB, tC]
   clear hHeld
   refine aR 4 (fun K hK => ?_)
   go_simp
   refine cp.mono ?_
   rintro e w5 ⟨rfl, rfl⟩
   refine hK.out _ _ (⟨Or.inl (by rfl), Or.inl (by rfl)⟩) (fun hHeld => ?_)
   clear hK K
   try simp only [Act.put, tA, tB, tC]
   clear hHeld
   refine aW 5 ⟨Or.inl (by rfl), Or.inl (by rfl)⟩ ?_
   refine aW 6 ⟨Or.inl (by rfl), Or.inl (by rfl)⟩ ?_
   refine aS 7 ⟨Or.inl (by rfl), Or.inl (by rfl)⟩ ?_
   refine aS 8 ⟨Or.inl (by rfl), Or.inl (by rfl)⟩ ?_
   refine aS 9 ⟨Or.inl (by rfl), Or.inl (by rfl)⟩ ?_
   refine aW 10 ⟨Or.inl (by rfl), Or.inl (by rfl)⟩ ?_
   refine aW 11 ⟨Or.inl (by rfl), Or.inl (by rfl)⟩ ?_
   refine aW 12 ⟨Or.inl (by rfl), Or.inl (by rfl)⟩ ?_
   refine anyU_done (by kernel_rfl) ?_ _
   go_wp2_with fail
   go_ret2
   exact ⟨by rw [HCB.out]; rfl, BB4.out⟩
end Go.Proofs.YtiigipnfnfpepaaGreatDoor
