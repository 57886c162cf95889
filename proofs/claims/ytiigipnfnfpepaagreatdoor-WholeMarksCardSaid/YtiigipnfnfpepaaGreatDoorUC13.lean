/- A frame's bit (layer 18): Put's walk. -/
import Derived.Test.YtiigipnfnfpepaaGreatDoorUC12
import Derived.Test.YtiigipnfnfpepaaGreatDoorUA
namespace Go.Proofs.YtiigipnfnfpepaaGreatDoor
open Go.RowKit

theorem build_search {y c : List Int} (hy : y.length = 4) (hc : c.length = 4) (m : Int) {a : Act} {op : Oper} (x1 x2 x3 x4 : Operand) (ho : op.op = .build 84 #[(0, x1), (1, x2), (2, x3), (4, x4)]) (h1 : a.eval x1 = .agg (ints y)) (h2 : a.eval x2 = .agg (ints c)) (h3 : a.eval x3 = .int .i64 m) (h4 : a.eval x4 = .int .i64 (-1)) (W : World) :
 (execOp a.eval op).run Tryz.prog W = .ok (.value (.agg (ints (srL y c m [0, 0, 0, 0] (-1))))) W := by
 obtain ⟨a0, a1, a2, a3, rfl⟩ := list4 hy
 obtain ⟨c0, c1, c2, c3, rfl⟩ := list4 hc
 unfold execOp
 simp only [ho, h1, h2, h3, h4, List.map_toArray, List.map_cons, List.map_nil]
 kernel_rfl

theorem wpList_store_list {P : Program} {ops : Array Oper} {rest : List Oper} {op : Oper} {a : Act} {w : World} {Q : Exit → Act → World → Prop} (hgd : op.guard = none) (ty : TypeId) (x y : Operand) (ho : op.op = .store ty x y)
 (b o : Nat) (cells : List Value) (hx : a.eval x = .pointer (some ⟨b, o, none⟩)) (hy : a.eval y = .agg cells.toArray)
 (ht : w.there b o cells.length) (hi : (P.info? ty).map (·.size) = some cells.length) (h1 : ∀ v ∈ cells, v.oneCell' = true)
 (h : wpList P ops Q rest (a.put op.dst undef) (w.setCells b o cells)) : wpList P ops Q (op :: rest) a w :=
 wpList_store_mid hgd ty x y ho b o cells.toArray hx hy (by simpa using ht) (by simpa using hi) (all_oneCell_toArray h1) (by simpa using h)
def negTo (c : List Int) (i : Nat) : List Int := negC (c.take i) ++ c.drop i
theorem neg_step {y c b : List Int} (hy : y.length = 4) (hc : c.length = 4) (m f : Int) {i : Nat} (hi : i < 4) :
 (srL y (negTo c i) m b f).set (4 + i) (-(c.getD i 0)) = srL y (negTo c (i + 1)) m b f ∧ (srL y (negTo c i) m b f)[4 + i]? = some (c.getD i 0) := by
 obtain ⟨a0, a1, a2, a3, rfl⟩ := list4 hy
 obtain ⟨c0, c1, c2, c3, rfl⟩ := list4 hc
 match i, hi with
 | 0, _ => exact ⟨rfl, rfl⟩
 | 1, _ => exact ⟨rfl, rfl⟩
 | 2, _ => exact ⟨rfl, rfl⟩
 | 3, _ => exact ⟨rfl, rfl⟩
theorem negTo_all {c : List Int} (hc : c.length = 4) : negTo c 4 = negC c := by
 unfold negTo
 rw [List.take_of_length_le (by omega), List.drop_of_length_le (by omega), List.append_nil]

set_option maxRecDepth 20000 in
set_option maxHeartbeats 4000000 in
theorem mput_calls (kb : List UInt8) (n : Nat) (bit : Bool) (s : Shp) (w : World) (hk : kb.length = 16) (hn : n ≤ 1000000) (hS : Signs w) (h : SK s) :
 Calls Tryz.prog 13 #[.agg (bytesV kb), .int .i64 n, .bool bit, .agg (shV s)] w fun e w' => e = .returned (.tuple #[.agg (shV (mputL kb n bit s).1), .bool (mputL kb n bit s).2]) ∧ Below w.heap.size w w' := by
 let w1 := ((w.alloc (.cells (bytesV kb) 23)).alloc (.cells (shV s) 47)).alloc (.cells #[Value.int .i64 0, .int .i64 0, .int .i64 0, .int .i64 0, .int .i64 0, .int .i64 0, .int .i64 0, .int .i64 0, .int .i64 0, .int .i64 0, .int .i64 0, .int .i64 0, .int .i64 0, .int .i64 0, .int .i64 0, .int .i64 0, .int .i64 0, .int .i64 0, .int .i64 0, .int .i64 0, .int .i64 0, .int .i64 0, .int .i64 0, .int .i64 0, .int .i64 0, .int .i64 0, .int .i64 0, .int .i64 0, .int .i64 0, .int .i64 0, .int .i64 0, .int .i64 0, .int .i64 0, .int .i64 0, .int .i64 0, .int .i64 0, .int .i64 0, .int .i64 0, .int .i64 0, .int .i64 0] 47)
 have b1 : Below w.heap.size w w1 := (((Below.refl w.heap.size w).alloc (Nat.le_refl _) _).alloc (by simp) _).alloc (by simp; omega) _
 have k1 : Blk w1 w.heap.size 23 (bytesV kb) := blk_alloc (blk_alloc (blk_new w 23 (bytesV kb)) _) _
 have s1 : Blk w1 (w.heap.size + 1) 47 (shV s) := by
  have := blk_alloc (blk_new (w.alloc (.cells (bytesV kb) 23)) 47 (shV s)) (.cells #[Value.int .i64 0, .int .i64 0, .int .i64 0, .int .i64 0, .int .i64 0, .int .i64 0, .int .i64 0, .int .i64 0, .int .i64 0, .int .i64 0, .int .i64 0, .int .i64 0, .int .i64 0, .int .i64 0, .int .i64 0, .int .i64 0, .int .i64 0, .int .i64 0, .int .i64 0, .int .i64 0, .int .i64 0, .int .i64 0, .int .i64 0, .int .i64 0, .int .i64 0, .int .i64 0, .int .i64 0, .int .i64 0, .int .i64 0, .int .i64 0, .int .i64 0, .int .i64 0, .int .i64 0, .int .i64 0, .int .i64 0, .int .i64 0, .int .i64 0, .int .i64 0, .int .i64 0, .int .i64 0] 47)
  rw [World.size_alloc] at this
  exact this
 have r1 : Blk w1 (w.heap.size + 1 + 1) 47 #[Value.int .i64 0, .int .i64 0, .int .i64 0, .int .i64 0, .int .i64 0, .int .i64 0, .int .i64 0, .int .i64 0, .int .i64 0, .int .i64 0, .int .i64 0, .int .i64 0, .int .i64 0, .int .i64 0, .int .i64 0, .int .i64 0, .int .i64 0, .int .i64 0, .int .i64 0, .int .i64 0, .int .i64 0, .int .i64 0, .int .i64 0, .int .i64 0, .int .i64 0, .int .i64 0, .int .i64 0, .int .i64 0, .int .i64 0, .int .i64 0, .int .i64 0, .int .i64 0, .int .i64 0, .int .i64 0, .int .i64 0, .int .i64 0, .int .i64 0, .int .i64 0, .int .i64 0, .int .i64 0] := by
  have := blk_new ((w.alloc (.cells (bytesV kb) 23)).alloc (.cells (shV s) 47)) 47 #[Value.int .i64 0, .int .i64 0, .int .i64 0, .int .i64 0, .int .i64 0, .int .i64 0, .int .i64 0, .int .i64 0, .int .i64 0, .int .i64 0, .int .i64 0, .int .i64 0, .int .i64 0, .int .i64 0, .int .i64 0, .int .i64 0, .int .i64 0, .int .i64 0, .int .i64 0, .int .i64 0, .int .i64 0, .int .i64 0, .int .i64 0, .int .i64 0, .int .i64 0, .int .i64 0, .int .i64 0, .int .i64 0, .int .i64 0, .int .i64 0, .int .i64 0, .int .i64 0, .int .i64 0, .int .i64 0, .int .i64 0, .int .i64 0, .int .i64 0, .int .i64 0, .int .i64 0, .int .i64 0]
  rw [World.size_alloc, World.size_alloc] at this
  exact this
 have ch := mHeld_calls s w1 (sk_in h)
 have HKS := hid (key_size hk)
 have HSZ := hid (shp_size h.ok)
 have K1 := hid k1
 have S1 := hid s1
 have R1 := hid r1
 have B1 := hid b1
 have HS := hid h
 have HG := hid hS
 have HK := hid hk
 have HN := hid hn
 have HW := hid (show w1.heap.size = w.heap.size + 1 + 1 + 1 by simp [w1])
 clear k1 s1 r1 b1 h hS hk hn
 go_enter Tryz.func13, Tryz.ntmps13
 go_wp2_with (first | (refine wpList_load_blk (by rfl) 47 _ rfl (w.heap.size + 1) rfl 47 (shV s) _ S1.out Tryz.underlying47 rfl HSZ.out ?_))
 refine ch.mono ?_
 rintro e w2 ⟨rfl, B2⟩
 have hw := HW.out
 have K2 := hid (blk_below K1.out B2 (by omega))
 have S2 := hid (blk_below S1.out B2 (by omega))
 have R2 := hid (blk_below R1.out B2 (by omega))
 have BB2 := hid (bnext B1.out B2)
 have hz2 := hid (show w.heap.size + 1 + 1 < w2.heap.size by have := B2.size; omega)
 have cb := band_calls kb n w2 HK.out HN.out (signs_below HG.out BB2.out (signs_size HG.out))
 clear ch B2 K1 S1 R1 B1 HW hw w1
 go_wp2_with (first | (refine wpList_load_blk (by rfl) 23 _ rfl w.heap.size rfl 23 (bytesV kb) _ K2.out Tryz.underlying23 rfl HKS.out ?_))
 refine cb.mono ?_
 rintro e w3 ⟨rfl, B3⟩
 have hz := hz2.out
 have K3 := hid (blk_below K2.out B3 (by omega))
 have S3 := hid (blk_below S2.out B3 (by omega))
 have R3 := hid (blk_below R2.out B3 (by omega))
 have BB3 := hid (bnext BB2.out B3)
 have hz3 := hid (show w.heap.size + 1 + 1 < w3.heap.size by have := B3.size; omega)
 clear cb B3 K2 S2 R2 BB2 hz2 hz
 obtain ⟨hb0, hb1⟩ := bandI_in kb n
 obtain ⟨b, hbb⟩ : ∃ b : Nat, bandI kb n = b := ⟨(bandI kb n).toNat, by omega⟩
 have HM := hid (show mputL kb n bit s = (if 2 ≤ sumC (s.ys.getD b []) (chipsB kb n bit) 4 ∨ movesL s.sd b = 0 then (s, decide (2 ≤ sumC (s.ys.getD b []) (chipsB kb n bit) 4)) else if (lookS (s.ys.getD b []) (chipsB kb n bit) (movesL s.sd b) ([0, 0, 0, 0], -1) (eachL (sumA (s.ys.getD b [])).toNat)).2 < 0 then (s, false) else (s.put b (lookS (s.ys.getD b []) (chipsB kb n bit) (movesL s.sd b) ([0, 0, 0, 0], -1) (eachL (sumA (s.ys.getD b [])).toNat)).1, true)) by unfold mputL; rw [hbb]; rfl)
 rw [hbb] at hb0 hb1 ⊢
 have hb8 : b < 8 := by omega
 clear hbb
 have HYL := hid (shp_ylen HS.out.ok hb8)
 have cc := fun W hS => chips_calls kb n W HK.out HN.out hS
 have cm := fun W => moves_calls s.sd b W HS.out.ok.sl (by
  unfold rightB
  rw [Bool.not_eq_true', List.any_eq_false]
  intro z hz
  have := HS.out.ok.s15 z hz
  simp only [Bool.or_eq_true, decide_eq_true_eq]
  omega) hb8
 have HCL := hid (chipsL_in kb n)
 have HCB := hid (show chipsB kb n bit = if bit then negC (chipsL kb n) else chipsL kb n from rfl)
 have y3 := shp_range S3.out HS.out.ok hb8
 have d3 := shp_sides S3.out HS.out.ok
 have HSS := hid (side_size HS.out.ok.sl)
 have HPU := hid (pul_size HYL.out)
 have HB8 := hid hb8
 generalize movesL s.sd b = m at *
 generalize chipsL kb n = c0 at *
 generalize chipsB kb n bit = c at *
 obtain ⟨y, hy⟩ : ∃ y, s.ys.getD b [] = y := ⟨_, rfl⟩
 rw [hy] at HM HYL y3 HPU
 have HY := hid hy
 clear hy
 have k3 := K3.out
 go_wp2_with fail
 refine plain_region (S := (fun L W => W.rangeAt (w.heap.size + 1) (8 + b * 4) (y.map (Value.int .i64)) ∧ (L.getD 6 true = true ∨ Blk W w.heap.size 23 (bytesV kb)) ∧ (L.getD 10 true = true ∨ W.rangeAt (w.heap.size + 1) 0 (s.sd.map (Value.int .i64))))) (by kernel_rfl) (⟨y3, Or.inr k3, Or.inr d3⟩) (fun hHeld => ?_)
 clear hHeld
 refine aW 0 ⟨y3, Or.inr k3, Or.inr d3⟩ ?_
 refine aW 1 ⟨y3, Or.inr k3, Or.inr d3⟩ ?_
 refine aW 2 ⟨y3, Or.inr k3, Or.inr d3⟩ ?_
 refine aB 3 11 rfl (fun _ _ _ k => k.1) (yieldsIf_load_mid (by rfl) 44 _ rfl (w.heap.size + 1) (8 + b * 4) rfl _ _ (fun _ h => h) Tryz.underlying44 rfl HPU.out) ⟨y3, Or.inr k3, Or.inr d3⟩ ?_
 refine aB 4 6 rfl (fun _ _ h k => rL k.2.1 h) (yields_blk (by rfl) 23 _ rfl w.heap.size rfl 23 (bytesV kb) _ (fun _ h => h) Tryz.underlying23 rfl HKS.out) ⟨y3, Or.inr k3, Or.inr d3⟩ ?_
 refine aW 5 ⟨y3, Or.inr k3, Or.inr d3⟩ ?_
 refine aW 7 ⟨y3, Or.inr k3, Or.inr d3⟩ ?_
 refine aB 8 10 rfl (fun _ _ h k => rL k.2.2 h) (yieldsIf_load_mid (by rfl) 42 _ rfl (w.heap.size + 1) 0 rfl _ _ (fun _ h => h) Tryz.underlying42 rfl HSS.out) ⟨y3, Or.inr k3, Or.inr d3⟩ ?_
 refine aW 9 ⟨y3, Or.inr k3, Or.inr d3⟩ ?_
 refine aR 6 (fun K hK => ?_)
 go_simp
 refine (cc _ (show Signs w3.drew from signs_below HG.out (below_draws BB3.out 1) (signs_size HG.out))).mono ?_
 rintro e w4 ⟨rfl, B4⟩
 have S4 := hid (blk_below (blk_drew S3.out) B4 (blk_lt S3.out))
 have R4 := hid (blk_below (blk_drew R3.out) B4 (blk_lt R3.out))
 have BB4 := hid (bnext (below_draws BB3.out 1) B4)
 clear B4
 have y3 : w4.rangeAt (w.heap.size + 1) (8 + b * 4) (y.map (Value.int .i64)) := HY.out ▸ shp_range S4.out HS.out.ok HB8.out
 have d3 := shp_sides S4.out HS.out.ok
 refine hK.out _ _ (⟨y3, Or.inl (by rfl), Or.inr d3⟩) (fun hHeld => ?_)
 clear hK K
 try simp only [Act.put, tA, tB, tC]
 clear hHeld
 refine aR 10 (fun K hK => ?_)
 go_simp
 refine (cm _).mono ?_
 rintro e w5 ⟨rfl, B5⟩
 have S5 := hid (blk_below S4.out B5 (blk_lt S4.out))
 have R5 := hid (blk_below R4.out B5 (blk_lt R4.out))
 have BB5 := hid (bnext BB4.out B5)
 clear B5
 have y3 : w5.rangeAt (w.heap.size + 1) (8 + b * 4) (y.map (Value.int .i64)) := HY.out ▸ shp_range S5.out HS.out.ok HB8.out
 refine hK.out _ _ (⟨y3, Or.inl (by rfl), Or.inl (by rfl)⟩) (fun hHeld => ?_)
 clear hK K
 try simp only [Act.put, tA, tB, tC]
 clear hHeld
 refine aZ 11 (v := (.agg (ints (srL y c0 m [0, 0, 0, 0] (-1))))) rfl (Or.inl ⟨by rfl, fun W _ => build_search HYL.out HCL.out.len m (.tmp 24) (.tmp 27) (.tmp 31) (.const (.int .i64 (-1))) rfl rfl rfl rfl rfl W⟩) ⟨y3, Or.inl (by rfl), Or.inl (by rfl)⟩ ?_
 refine aR 12 (fun K hK => ?_)
 go_simp
 have S6 := hid (blk_alloc S5.out (.cells (ints (srL y c0 m [0, 0, 0, 0] (-1))) 84))
 have y3 : (w5.alloc (.cells (ints (srL y c0 m [0, 0, 0, 0] (-1))) 84)).rangeAt (w.heap.size + 1) (8 + b * 4) (y.map (Value.int .i64)) := HY.out ▸ shp_range S6.out HS.out.ok HB8.out
 refine hK.out _ _ (⟨y3, Or.inl (by rfl), Or.inl (by rfl)⟩) (fun hHeld => ?_)
 clear hK K
 try simp only [Act.put, tA, tB, tC]
 clear hHeld
 refine aW 13 ⟨y3, Or.inl (by rfl), Or.inl (by rfl)⟩ ?_
 refine anyU_done (by kernel_rfl) ?_ _
 have R6 := hid (blk_alloc R5.out (.cells (ints (srL y c0 m [0, 0, 0, 0] (-1))) 84))
 have BB6 := hid (BB5.out.alloc BB5.out.size (.cells (ints (srL y c0 m [0, 0, 0, 0] (-1))) 84))
 have Q6 := hid (show Blk (w5.alloc (.cells (ints (srL y c0 m [0, 0, 0, 0] (-1))) 84)) w5.heap.size ST84 (ints (srL y c0 m [0, 0, 0, 0] (-1))) from blk_new w5 _ _)
 have HGS := hid (show w.heap.size + 1 + 1 < w5.heap.size from blk_lt R5.out)
 have hpy := pulsesI_sum HYL.out (getD_all HS.out.sum (i := b) (by rw [HS.out.ok.yl]; exact HB8.out) [] |> fun h => by rw [HY.out] at h; exact h)
 have hs12 : sumA y ≤ 12 := getD_all HS.out.sum (i := b) (by rw [HS.out.ok.yl]; exact HB8.out) [] |> fun h => by rw [HY.out] at h; exact h
 have hs0 := (sumA_ge y 0).2
 obtain ⟨k, hkk⟩ : ∃ k : Nat, sumA y = k := ⟨(sumA y).toNat, by omega⟩
 rw [hkk, Int.toNat_natCast] at HM
 have HPIN := hid (sumA_pin HYL.out hkk (by omega))
 have HPK := hid (hpy.trans hkk)
 have HK12 := hid (show k ≤ 12 by omega)
 have hk12 : ¬ (12 : Int) < k := by omega
 have HRZ := hid (show (shV s).size = (#[Value.int .i64 0, .int .i64 0, .int .i64 0, .int .i64 0, .int .i64 0, .int .i64 0, .int .i64 0, .int .i64 0, .int .i64 0, .int .i64 0, .int .i64 0, .int .i64 0, .int .i64 0, .int .i64 0, .int .i64 0, .int .i64 0, .int .i64 0, .int .i64 0, .int .i64 0, .int .i64 0, .int .i64 0, .int .i64 0, .int .i64 0, .int .i64 0, .int .i64 0, .int .i64 0, .int .i64 0, .int .i64 0, .int .i64 0, .int .i64 0, .int .i64 0, .int .i64 0, .int .i64 0, .int .i64 0, .int .i64 0, .int .i64 0, .int .i64 0, .int .i64 0, .int .i64 0, .int .i64 0] : Array Value).size by rw [ints_size, shp_len HS.out.ok]; rfl)
 have HSO := hid (ints_one s.flat)
 clear S3 R3 BB3 S4 R4 BB4 S5 R5 BB5 y3 d3 k3 K3 hz3 hpy hs12 hs0 hkk cc cm
 generalize hgs : w5.heap.size = gs at *
 clear hgs
 generalize w5.alloc (.cells (ints (srL y c0 m [0, 0, 0, 0] (-1))) 84) = w6 at *
 cases bit with
 | false =>
  have hc : c = c0 := HCB.out
  subst hc
  have HCI := HCL
  clear HCB
  go_wp2_with fail
  have HCP := hid (show (Tryz.prog.info? 43).map (·.size) = some (c.map (Value.int .i64)).length by rw [List.length_map, HCI.out.len]; kernel_rfl)
  have cp := pulses_calls y gs 4 w6 (by rw [HYL.out]; decide) (fun i hi => by
   have := sr_y Q6.out HYL.out i (.int .i64 (y.getD i 0)) (by rw [List.getElem?_map, List.getElem?_eq_getElem hi, List.getD_eq_getElem?_getD, List.getElem?_eq_getElem hi]; rfl)
   rwa [Nat.zero_add] at this)
  rw [HYL.out, HPK.out] at cp
  have cs := fun W => mSum_calls y c W HPIN.out HCI.out
  have y6 := sr_y Q6.out HYL.out
  have c6 := sr_c Q6.out HYL.out HCI.out.len
  have m6 := sr_m Q6.out HYL.out HCI.out.len
  generalize hsm : sumC y c 4 = sm at *
  clear hsm
  go_wp2_with fail
  refine cp.mono ?_
  rintro e w7 ⟨rfl, rfl⟩
  clear cp
  by_cases h1 : 2 ≤ sm
  · have HX := hid (show mputL kb n false s = (s, true) by rw [HM.out, if_pos (Or.inl h1), decide_eq_true h1])
    clear HM
    go_wp2_with fail
    refine plain_region (S := (fun L W => (L.getD 8 true = true ∨ W.rangeAt gs 0 (y.map (Value.int .i64))) ∧ (L.getD 8 true = true ∨ W.rangeAt gs 4 (c.map (Value.int .i64))))) (by kernel_rfl) (⟨Or.inr y6, Or.inr c6⟩) (fun hHeld => ?_)
    clear hHeld
    refine aW 0 ⟨Or.inr y6, Or.inr c6⟩ ?_
    refine aW 1 ⟨Or.inr y6, Or.inr c6⟩ ?_
    refine aW 2 ⟨Or.inr y6, Or.inr c6⟩ ?_
    refine aB 3 8 rfl (fun _ _ h k => rL k.1 h) (yieldsIf_load_mid (by rfl) 44 _ rfl gs 0 rfl _ _ (fun _ h => h) Tryz.underlying44 rfl HPU.out) ⟨Or.inr y6, Or.inr c6⟩ ?_
    refine aW 4 ⟨Or.inr y6, Or.inr c6⟩ ?_
    refine aW 5 ⟨Or.inr y6, Or.inr c6⟩ ?_
    refine aW 6 ⟨Or.inr y6, Or.inr c6⟩ ?_
    refine aB 7 8 rfl (fun _ _ h k => rL k.2 h) (yieldsIf_load_mid (by rfl) 43 _ rfl gs 4 rfl _ _ (fun _ h => h) Tryz.underlying43 rfl HCP.out) ⟨Or.inr y6, Or.inr c6⟩ ?_
    refine aR 8 (fun K hK => ?_)
    go_simp
    refine (cs _).mono ?_
    rintro e w7 ⟨rfl, B7⟩
    have Q7 := hid (blk_below (blk_drew Q6.out) B7 (blk_lt Q6.out))
    have R7 := hid (blk_below (blk_drew R6.out) B7 (blk_lt R6.out))
    have S7 := hid (blk_below (blk_drew S6.out) B7 (blk_lt S6.out))
    have BB7 := hid (bnext (below_draws BB6.out 1) B7)
    have m6 := sr_m Q7.out HYL.out HCI.out.len
    clear B7
    refine hK.out _ _ (⟨Or.inl (by rfl), Or.inl (by rfl)⟩) (fun hHeld => ?_)
    clear hK K
    try simp only [Act.put, tA, tB, tC]
    clear hHeld
    refine aW 9 ⟨Or.inl (by rfl), Or.inl (by rfl)⟩ ?_
    refine aW 10 ⟨Or.inl (by rfl), Or.inl (by rfl)⟩ ?_
    refine aS 11 ⟨Or.inl (by rfl), Or.inl (by rfl)⟩ ?_
    refine aS 12 ⟨Or.inl (by rfl), Or.inl (by rfl)⟩ ?_
    refine aS 13 ⟨Or.inl (by rfl), Or.inl (by rfl)⟩ ?_
    refine aS 14 ⟨Or.inl (by rfl), Or.inl (by rfl)⟩ ?_
    refine aS 15 ⟨Or.inl (by rfl), Or.inl (by rfl)⟩ ?_
    refine aW 16 ⟨Or.inl (by rfl), Or.inl (by rfl)⟩ ?_
    refine aW 17 ⟨Or.inl (by rfl), Or.inl (by rfl)⟩ ?_
    refine aS 18 ⟨Or.inl (by rfl), Or.inl (by rfl)⟩ ?_
    refine aS 19 ⟨Or.inl (by rfl), Or.inl (by rfl)⟩ ?_
    refine aW 20 ⟨Or.inl (by rfl), Or.inl (by rfl)⟩ ?_
    refine anyU_done (by kernel_rfl) ?_ _
    clear y6 c6 m6
    go_wp2_with fail
    have y8 := sr_y Q7.out HYL.out
    have c8 := sr_c Q7.out HYL.out HCI.out.len
    have s8 := S7.out
    have cs2 := cs
    refine plain_region (S := (fun L W => (L.getD 11 true = true ∨ Blk W (w.heap.size + 1) 47 (shV s)) ∧ (L.getD 9 true = true ∨ W.rangeAt gs 0 (y.map (Value.int .i64))) ∧ (L.getD 9 true = true ∨ W.rangeAt gs 4 (c.map (Value.int .i64))))) (by kernel_rfl) (⟨Or.inr s8, Or.inr y8, Or.inr c8⟩) (fun hHeld => ?_)
    clear hHeld
    refine aB 0 11 rfl (fun _ _ h k => rL k.1 h) (yields_blk (by rfl) 47 _ rfl (w.heap.size + 1) rfl 47 (shV s) _ (fun _ h => h) Tryz.underlying47 rfl HSZ.out) ⟨Or.inr s8, Or.inr y8, Or.inr c8⟩ ?_
    refine aW 1 ⟨Or.inr s8, Or.inr y8, Or.inr c8⟩ ?_
    refine aW 2 ⟨Or.inr s8, Or.inr y8, Or.inr c8⟩ ?_
    refine aW 3 ⟨Or.inr s8, Or.inr y8, Or.inr c8⟩ ?_
    refine aB 4 9 rfl (fun _ _ h k => rL k.2.1 h) (yieldsIf_load_mid (by rfl) 44 _ rfl gs 0 rfl _ _ (fun _ h => h) Tryz.underlying44 rfl HPU.out) ⟨Or.inr s8, Or.inr y8, Or.inr c8⟩ ?_
    refine aW 5 ⟨Or.inr s8, Or.inr y8, Or.inr c8⟩ ?_
    refine aW 6 ⟨Or.inr s8, Or.inr y8, Or.inr c8⟩ ?_
    refine aW 7 ⟨Or.inr s8, Or.inr y8, Or.inr c8⟩ ?_
    refine aB 8 9 rfl (fun _ _ h k => rL k.2.2 h) (yieldsIf_load_mid (by rfl) 43 _ rfl gs 4 rfl _ _ (fun _ h => h) Tryz.underlying43 rfl HCP.out) ⟨Or.inr s8, Or.inr y8, Or.inr c8⟩ ?_
    refine aR 9 (fun K hK => ?_)
    go_simp
    refine (cs2 _).mono ?_
    rintro e w8 ⟨rfl, B8⟩
    have R8 := hid (blk_below (blk_drew R7.out) B8 (blk_lt R7.out))
    have s8 := blk_below (blk_drew S7.out) B8 (blk_lt S7.out)
    have BB8 := hid (bnext (below_draws BB7.out 1) B8)
    clear B8
    refine hK.out _ _ (⟨Or.inr s8, Or.inl (by rfl), Or.inl (by rfl)⟩) (fun hHeld => ?_)
    clear hK K
    try simp only [Act.put, tA, tB, tC]
    clear hHeld
    refine aW 10 ⟨Or.inr s8, Or.inl (by rfl), Or.inl (by rfl)⟩ ?_
    refine aR 11 (fun K hK => ?_)
    obtain ⟨qq1, qq2⟩ := setCells_whole (new := shV s) R8.out HRZ.out
    have R9 := hid qq1
    have BB9 := hid (below_grown BB8.out qq2 BB8.out.size (by omega))
    refine stepU_store (by rfl) 47 _ _ rfl (w.heap.size + 1 + 1) 0 (shV s).toList rfl (by rw [Array.toArray_toList]; rfl) (by rw [Array.length_toList, HRZ.out]; exact blk_there R8.out) (by rw [Array.length_toList]; exact HSZ.out) (fun v hv => Array.all_eq_true_iff_forall_mem.1 HSO.out v (by simpa using hv)) ?_
    refine hK.out _ _ (⟨Or.inl (by rfl), Or.inl (by rfl), Or.inl (by rfl)⟩) (fun hHeld => ?_)
    clear hK K
    try simp only [Act.put]
    clear hHeld
    refine aW 12 ⟨Or.inl (by rfl), Or.inl (by rfl), Or.inl (by rfl)⟩ ?_
    refine anyU_done (by kernel_rfl) ?_ _
    generalize w8.setCells (w.heap.size + 1 + 1) 0 (shV s).toList = w9 at *
    go_wp2_with fail
    exact bodyPost_ret (results_row_slot rfl _ _ (w.heap.size + 1 + 1) 47 (shV s) (0, 0) _ _ rfl rfl R9.out Tryz.underlying47 rfl HSZ.out) rfl ⟨by rw [HX.out]; rfl, BB9.out⟩
  · have e1 : decide (2 ≤ sm) = false := decide_eq_false h1
    by_cases h2 : m = 0
    · have e2 : (m == 0) = true := by simpa using h2
      have HX := hid (show mputL kb n false s = (s, false) by rw [HM.out, if_pos (Or.inr h2), e1])
      clear HM h1 h2
      go_wp2_with fail
      refine plain_region (S := (fun L W => (L.getD 8 true = true ∨ W.rangeAt gs 0 (y.map (Value.int .i64))) ∧ (L.getD 8 true = true ∨ W.rangeAt gs 4 (c.map (Value.int .i64))) ∧ W.cell? ⟨gs, 8, none⟩ = some (.int .i64 m))) (by kernel_rfl) (⟨Or.inr y6, Or.inr c6, m6⟩) (fun hHeld => ?_)
      clear hHeld
      refine aW 0 ⟨Or.inr y6, Or.inr c6, m6⟩ ?_
      refine aW 1 ⟨Or.inr y6, Or.inr c6, m6⟩ ?_
      refine aW 2 ⟨Or.inr y6, Or.inr c6, m6⟩ ?_
      refine aB 3 8 rfl (fun _ _ h k => rL k.1 h) (yieldsIf_load_mid (by rfl) 44 _ rfl gs 0 rfl _ _ (fun _ h => h) Tryz.underlying44 rfl HPU.out) ⟨Or.inr y6, Or.inr c6, m6⟩ ?_
      refine aW 4 ⟨Or.inr y6, Or.inr c6, m6⟩ ?_
      refine aW 5 ⟨Or.inr y6, Or.inr c6, m6⟩ ?_
      refine aW 6 ⟨Or.inr y6, Or.inr c6, m6⟩ ?_
      refine aB 7 8 rfl (fun _ _ h k => rL k.2.1 h) (yieldsIf_load_mid (by rfl) 43 _ rfl gs 4 rfl _ _ (fun _ h => h) Tryz.underlying43 rfl HCP.out) ⟨Or.inr y6, Or.inr c6, m6⟩ ?_
      refine aR 8 (fun K hK => ?_)
      go_simp
      refine (cs _).mono ?_
      rintro e w7 ⟨rfl, B7⟩
      have Q7 := hid (blk_below (blk_drew Q6.out) B7 (blk_lt Q6.out))
      have R7 := hid (blk_below (blk_drew R6.out) B7 (blk_lt R6.out))
      have S7 := hid (blk_below (blk_drew S6.out) B7 (blk_lt S6.out))
      have BB7 := hid (bnext (below_draws BB6.out 1) B7)
      have m6 := sr_m Q7.out HYL.out HCI.out.len
      clear B7
      refine hK.out _ _ (⟨Or.inl (by rfl), Or.inl (by rfl), m6⟩) (fun hHeld => ?_)
      clear hK K
      try simp only [Act.put, tA, tB, tC]
      clear hHeld
      refine aW 9 ⟨Or.inl (by rfl), Or.inl (by rfl), m6⟩ ?_
      refine aW 10 ⟨Or.inl (by rfl), Or.inl (by rfl), m6⟩ ?_
      refine aW 11 ⟨Or.inl (by rfl), Or.inl (by rfl), m6⟩ ?_
      refine aW 12 ⟨Or.inl (by rfl), Or.inl (by rfl), m6⟩ ?_
      refine aW 13 ⟨Or.inl (by rfl), Or.inl (by rfl), m6⟩ ?_
      refine aL 14 15 (fun _ _ _ k => k.2.2) ⟨Or.inl (by rfl), Or.inl (by rfl), m6⟩ ?_
      refine aW 15 ⟨Or.inl (by rfl), Or.inl (by rfl), m6⟩ ?_
      refine aW 16 ⟨Or.inl (by rfl), Or.inl (by rfl), m6⟩ ?_
      refine aW 17 ⟨Or.inl (by rfl), Or.inl (by rfl), m6⟩ ?_
      refine aS 18 ⟨Or.inl (by rfl), Or.inl (by rfl), m6⟩ ?_
      refine aS 19 ⟨Or.inl (by rfl), Or.inl (by rfl), m6⟩ ?_
      refine aW 20 ⟨Or.inl (by rfl), Or.inl (by rfl), m6⟩ ?_
      refine anyU_done (by kernel_rfl) ?_ _
      clear y6 c6 m6
      go_wp2_with fail
      have y8 := sr_y Q7.out HYL.out
      have c8 := sr_c Q7.out HYL.out HCI.out.len
      have s8 := S7.out
      have cs2 := cs
      refine plain_region (S := (fun L W => (L.getD 11 true = true ∨ Blk W (w.heap.size + 1) 47 (shV s)) ∧ (L.getD 9 true = true ∨ W.rangeAt gs 0 (y.map (Value.int .i64))) ∧ (L.getD 9 true = true ∨ W.rangeAt gs 4 (c.map (Value.int .i64))))) (by kernel_rfl) (⟨Or.inr s8, Or.inr y8, Or.inr c8⟩) (fun hHeld => ?_)
      clear hHeld
      refine aB 0 11 rfl (fun _ _ h k => rL k.1 h) (yields_blk (by rfl) 47 _ rfl (w.heap.size + 1) rfl 47 (shV s) _ (fun _ h => h) Tryz.underlying47 rfl HSZ.out) ⟨Or.inr s8, Or.inr y8, Or.inr c8⟩ ?_
      refine aW 1 ⟨Or.inr s8, Or.inr y8, Or.inr c8⟩ ?_
      refine aW 2 ⟨Or.inr s8, Or.inr y8, Or.inr c8⟩ ?_
      refine aW 3 ⟨Or.inr s8, Or.inr y8, Or.inr c8⟩ ?_
      refine aB 4 9 rfl (fun _ _ h k => rL k.2.1 h) (yieldsIf_load_mid (by rfl) 44 _ rfl gs 0 rfl _ _ (fun _ h => h) Tryz.underlying44 rfl HPU.out) ⟨Or.inr s8, Or.inr y8, Or.inr c8⟩ ?_
      refine aW 5 ⟨Or.inr s8, Or.inr y8, Or.inr c8⟩ ?_
      refine aW 6 ⟨Or.inr s8, Or.inr y8, Or.inr c8⟩ ?_
      refine aW 7 ⟨Or.inr s8, Or.inr y8, Or.inr c8⟩ ?_
      refine aB 8 9 rfl (fun _ _ h k => rL k.2.2 h) (yieldsIf_load_mid (by rfl) 43 _ rfl gs 4 rfl _ _ (fun _ h => h) Tryz.underlying43 rfl HCP.out) ⟨Or.inr s8, Or.inr y8, Or.inr c8⟩ ?_
      refine aR 9 (fun K hK => ?_)
      go_simp
      refine (cs2 _).mono ?_
      rintro e w8 ⟨rfl, B8⟩
      have R8 := hid (blk_below (blk_drew R7.out) B8 (blk_lt R7.out))
      have s8 := blk_below (blk_drew S7.out) B8 (blk_lt S7.out)
      have BB8 := hid (bnext (below_draws BB7.out 1) B8)
      clear B8
      refine hK.out _ _ (⟨Or.inr s8, Or.inl (by rfl), Or.inl (by rfl)⟩) (fun hHeld => ?_)
      clear hK K
      try simp only [Act.put, tA, tB, tC]
      clear hHeld
      refine aW 10 ⟨Or.inr s8, Or.inl (by rfl), Or.inl (by rfl)⟩ ?_
      refine aR 11 (fun K hK => ?_)
      obtain ⟨qq1, qq2⟩ := setCells_whole (new := shV s) R8.out HRZ.out
      have R9 := hid qq1
      have BB9 := hid (below_grown BB8.out qq2 BB8.out.size (by omega))
      refine stepU_store (by rfl) 47 _ _ rfl (w.heap.size + 1 + 1) 0 (shV s).toList rfl (by rw [Array.toArray_toList]; rfl) (by rw [Array.length_toList, HRZ.out]; exact blk_there R8.out) (by rw [Array.length_toList]; exact HSZ.out) (fun v hv => Array.all_eq_true_iff_forall_mem.1 HSO.out v (by simpa using hv)) ?_
      refine hK.out _ _ (⟨Or.inl (by rfl), Or.inl (by rfl), Or.inl (by rfl)⟩) (fun hHeld => ?_)
      clear hK K
      try simp only [Act.put]
      clear hHeld
      refine aW 12 ⟨Or.inl (by rfl), Or.inl (by rfl), Or.inl (by rfl)⟩ ?_
      refine anyU_done (by kernel_rfl) ?_ _
      generalize w8.setCells (w.heap.size + 1 + 1) 0 (shV s).toList = w9 at *
      go_wp2_with fail
      exact bodyPost_ret (results_row_slot rfl _ _ (w.heap.size + 1 + 1) 47 (shV s) (0, 0) _ _ rfl rfl R9.out Tryz.underlying47 rfl HSZ.out) rfl ⟨by rw [HX.out]; rfl, BB9.out⟩
    · have e2 : (m == 0) = false := by simpa using h2
      have hx := HM.out
      rw [if_neg (fun h => h.elim h1 h2)] at hx
      have HX := hid hx
      clear HM hx h1 h2
      go_wp2_with fail
      refine plain_region (S := (fun L W => (L.getD 8 true = true ∨ W.rangeAt gs 0 (y.map (Value.int .i64))) ∧ (L.getD 8 true = true ∨ W.rangeAt gs 4 (c.map (Value.int .i64))) ∧ W.cell? ⟨gs, 8, none⟩ = some (.int .i64 m))) (by kernel_rfl) (⟨Or.inr y6, Or.inr c6, m6⟩) (fun hHeld => ?_)
      clear hHeld
      refine aW 0 ⟨Or.inr y6, Or.inr c6, m6⟩ ?_
      refine aW 1 ⟨Or.inr y6, Or.inr c6, m6⟩ ?_
      refine aW 2 ⟨Or.inr y6, Or.inr c6, m6⟩ ?_
      refine aB 3 8 rfl (fun _ _ h k => rL k.1 h) (yieldsIf_load_mid (by rfl) 44 _ rfl gs 0 rfl _ _ (fun _ h => h) Tryz.underlying44 rfl HPU.out) ⟨Or.inr y6, Or.inr c6, m6⟩ ?_
      refine aW 4 ⟨Or.inr y6, Or.inr c6, m6⟩ ?_
      refine aW 5 ⟨Or.inr y6, Or.inr c6, m6⟩ ?_
      refine aW 6 ⟨Or.inr y6, Or.inr c6, m6⟩ ?_
      refine aB 7 8 rfl (fun _ _ h k => rL k.2.1 h) (yieldsIf_load_mid (by rfl) 43 _ rfl gs 4 rfl _ _ (fun _ h => h) Tryz.underlying43 rfl HCP.out) ⟨Or.inr y6, Or.inr c6, m6⟩ ?_
      refine aR 8 (fun K hK => ?_)
      go_simp
      refine (cs _).mono ?_
      rintro e w7 ⟨rfl, B7⟩
      have Q7 := hid (blk_below (blk_drew Q6.out) B7 (blk_lt Q6.out))
      have R7 := hid (blk_below (blk_drew R6.out) B7 (blk_lt R6.out))
      have S7 := hid (blk_below (blk_drew S6.out) B7 (blk_lt S6.out))
      have BB7 := hid (bnext (below_draws BB6.out 1) B7)
      have m6 := sr_m Q7.out HYL.out HCI.out.len
      clear B7
      refine hK.out _ _ (⟨Or.inl (by rfl), Or.inl (by rfl), m6⟩) (fun hHeld => ?_)
      clear hK K
      try simp only [Act.put, tA, tB, tC]
      clear hHeld
      refine aW 9 ⟨Or.inl (by rfl), Or.inl (by rfl), m6⟩ ?_
      refine aW 10 ⟨Or.inl (by rfl), Or.inl (by rfl), m6⟩ ?_
      refine aW 11 ⟨Or.inl (by rfl), Or.inl (by rfl), m6⟩ ?_
      refine aW 12 ⟨Or.inl (by rfl), Or.inl (by rfl), m6⟩ ?_
      refine aW 13 ⟨Or.inl (by rfl), Or.inl (by rfl), m6⟩ ?_
      refine aL 14 15 (fun _ _ _ k => k.2.2) ⟨Or.inl (by rfl), Or.inl (by rfl), m6⟩ ?_
      refine aW 15 ⟨Or.inl (by rfl), Or.inl (by rfl), m6⟩ ?_
      refine aW 16 ⟨Or.inl (by rfl), Or.inl (by rfl), m6⟩ ?_
      refine aW 17 ⟨Or.inl (by rfl), Or.inl (by rfl), m6⟩ ?_
      refine aW 18 ⟨Or.inl (by rfl), Or.inl (by rfl), m6⟩ ?_
      refine aW 19 ⟨Or.inl (by rfl), Or.inl (by rfl), m6⟩ ?_
      refine aW 20 ⟨Or.inl (by rfl), Or.inl (by rfl), m6⟩ ?_
      refine anyU_done (by kernel_rfl) ?_ _
      clear y6 c6 m6
      clear e1 e2
      have ce := each_calls y c m k gs ([0, 0, 0, 0], -1) (w7.drewN 0) HPIN.out HCI.out HK12.out rfl Q7.out
      rw [show w7.drewN 0 = w7 from rfl] at ce
      generalize lookS y c m ([0, 0, 0, 0], -1) (eachL k) = st at *
      obtain ⟨best, far⟩ := st
      dsimp only at ce
      go_wp2_with fail
      refine ce.mono ?_
      rintro e w8 ⟨rfl, q8, hbl, g8⟩
      have Q8 := hid q8
      have HBL := hid (show best.length = 4 from hbl)
      have S8 := hid (blk_grown S7.out g8 (fun e => by injection e with e; have := HGS.out; omega))
      have R8 := hid (blk_grown R7.out g8 (fun e => by injection e with e; have := HGS.out; omega))
      have BB8 := hid (below_grown BB7.out g8 BB7.out.size (by have := HGS.out; omega))
      have f8 := sr_f q8 HYL.out HCI.out.len hbl
      clear ce q8 hbl g8 S7 R7 BB7 Q7
      by_cases h3 : far < 0
      · have hx := HX.out
        rw [if_pos h3] at hx
        have HX := hid hx
        clear hx
        go_wp2_with (first | (refine wpList_load_blk (by rfl) 47 _ rfl (w.heap.size + 1) rfl 47 (shV s) _ S8.out Tryz.underlying47 rfl HSZ.out ?_) | (refine wpList_store_blk rfl 47 _ _ rfl (w.heap.size + 1 + 1) 47 #[Value.int .i64 0, .int .i64 0, .int .i64 0, .int .i64 0, .int .i64 0, .int .i64 0, .int .i64 0, .int .i64 0, .int .i64 0, .int .i64 0, .int .i64 0, .int .i64 0, .int .i64 0, .int .i64 0, .int .i64 0, .int .i64 0, .int .i64 0, .int .i64 0, .int .i64 0, .int .i64 0, .int .i64 0, .int .i64 0, .int .i64 0, .int .i64 0, .int .i64 0, .int .i64 0, .int .i64 0, .int .i64 0, .int .i64 0, .int .i64 0, .int .i64 0, .int .i64 0, .int .i64 0, .int .i64 0, .int .i64 0, .int .i64 0, .int .i64 0, .int .i64 0, .int .i64 0, .int .i64 0] (shV s) rfl rfl R8.out HRZ.out HSZ.out HSO.out ?_; intro w9 n0 n1))
        have BB9 := hid (below_grown BB8.out n1 BB8.out.size (by omega))
        exact bodyPost_ret (results_row_slot rfl _ _ (w.heap.size + 1 + 1) 47 (shV s) (0, 0) _ _ rfl rfl n0 Tryz.underlying47 rfl HSZ.out) rfl ⟨by rw [HX.out]; rfl, BB9.out⟩
      · have hx := HX.out
        rw [if_neg h3] at hx
        have HX := hid hx
        clear hx
        obtain ⟨s9, g9⟩ := shp_store S8.out HS.out.ok HB8.out HBL.out
        have S9 := hid s9
        have R9 := hid (blk_grown R8.out g9 (fun e => by injection e with e; omega))
        have BB9 := hid (below_grown BB8.out g9 BB8.out.size (by omega))
        have T8 := hid (shp_there S8.out HS.out.ok HB8.out)
        have ok9 := sok_put HS.out.ok b HBL.out
        have HSZ9 := hid (shp_size ok9)
        have HRZ9 := hid (show (shV (s.put b best)).size = (#[Value.int .i64 0, .int .i64 0, .int .i64 0, .int .i64 0, .int .i64 0, .int .i64 0, .int .i64 0, .int .i64 0, .int .i64 0, .int .i64 0, .int .i64 0, .int .i64 0, .int .i64 0, .int .i64 0, .int .i64 0, .int .i64 0, .int .i64 0, .int .i64 0, .int .i64 0, .int .i64 0, .int .i64 0, .int .i64 0, .int .i64 0, .int .i64 0, .int .i64 0, .int .i64 0, .int .i64 0, .int .i64 0, .int .i64 0, .int .i64 0, .int .i64 0, .int .i64 0, .int .i64 0, .int .i64 0, .int .i64 0, .int .i64 0, .int .i64 0, .int .i64 0, .int .i64 0, .int .i64 0] : Array Value).size by rw [ints_size, shp_len ok9]; rfl)
        have HSO9 := hid (ints_one (s.put b best).flat)
        have HBP := hid (pul_size HBL.out)
        have RB := hid (sr_b Q8.out HYL.out HCI.out.len HBL.out)
        clear s9 g9 ok9
        go_wp2_with (first | (refine wpList_load_mid rfl 44 _ rfl gs 9 rfl _ _ RB.out Tryz.underlying44 rfl HBP.out ?_) | (refine wpList_store_list rfl 44 _ _ rfl (w.heap.size + 1) (8 + b * 4) (best.map (Value.int .i64)) rfl rfl (by rw [List.length_map, HBL.out]; exact T8.out) HBP.out (ints_one1 _) ?_) | (refine wpList_load_blk (by rfl) 47 _ rfl (w.heap.size + 1) rfl 47 (shV (s.put b best)) _ S9.out Tryz.underlying47 rfl HSZ9.out ?_) | (refine wpList_store_blk rfl 47 _ _ rfl (w.heap.size + 1 + 1) 47 #[Value.int .i64 0, .int .i64 0, .int .i64 0, .int .i64 0, .int .i64 0, .int .i64 0, .int .i64 0, .int .i64 0, .int .i64 0, .int .i64 0, .int .i64 0, .int .i64 0, .int .i64 0, .int .i64 0, .int .i64 0, .int .i64 0, .int .i64 0, .int .i64 0, .int .i64 0, .int .i64 0, .int .i64 0, .int .i64 0, .int .i64 0, .int .i64 0, .int .i64 0, .int .i64 0, .int .i64 0, .int .i64 0, .int .i64 0, .int .i64 0, .int .i64 0, .int .i64 0, .int .i64 0, .int .i64 0, .int .i64 0, .int .i64 0, .int .i64 0, .int .i64 0, .int .i64 0, .int .i64 0] (shV (s.put b best)) rfl rfl R9.out HRZ9.out HSZ9.out HSO9.out ?_; intro w9 n0 n1))
        have BB10 := hid (below_grown BB9.out n1 BB9.out.size (by omega))
        exact bodyPost_ret (results_row_slot rfl _ _ (w.heap.size + 1 + 1) 47 (shV (s.put b best)) (0, 0) _ _ rfl rfl n0 Tryz.underlying47 rfl HSZ9.out) rfl ⟨by rw [HX.out]; rfl, BB10.out⟩
 | true =>
  have hc : c = negC c0 := HCB.out
  subst hc
  have HNA := hid (negTo_all HCL.out.len)
  have HCI := hid (negC_in HCL.out)
  clear HCB
  have Q6' : Hid (Blk w6 gs ST84 (ints (srL y (negTo c0 0) m [0, 0, 0, 0] (-1)))) := Q6
  clear Q6
  go_wp2_with fail
  go_loopg [35] 4 (fun gg s35 wr => ∃ i : Nat, i ≤ 4 ∧ 4 - i ≤ gg ∧ s35 = .int .i64 i ∧ Aside (Below w.heap.size w wr) ∧ Aside (Blk wr (w.heap.size + 1) 47 (shV s)) ∧ Aside (Blk wr (w.heap.size + 1 + 1) 47 #[Value.int .i64 0, .int .i64 0, .int .i64 0, .int .i64 0, .int .i64 0, .int .i64 0, .int .i64 0, .int .i64 0, .int .i64 0, .int .i64 0, .int .i64 0, .int .i64 0, .int .i64 0, .int .i64 0, .int .i64 0, .int .i64 0, .int .i64 0, .int .i64 0, .int .i64 0, .int .i64 0, .int .i64 0, .int .i64 0, .int .i64 0, .int .i64 0, .int .i64 0, .int .i64 0, .int .i64 0, .int .i64 0, .int .i64 0, .int .i64 0, .int .i64 0, .int .i64 0, .int .i64 0, .int .i64 0, .int .i64 0, .int .i64 0, .int .i64 0, .int .i64 0, .int .i64 0, .int .i64 0]) ∧ Aside (Blk wr gs ST84 (ints (srL y (negTo c0 i) m [0, 0, 0, 0] (-1)))))
  case atStart => exact ⟨0, Nat.zero_le _, by omega, rfl, BB6.out, S6.out, R6.out, Q6'.out⟩
  case round =>
   clear BB6 S6 R6 Q6'
   obtain ⟨i, hi, hgi, rfl, BB6, S6, R6, Q6⟩ := hrel
   by_cases hlt : i < 4
   · have hiz : (i : Int) < 4 := by omega
     have hi0 : (0 : Int) ≤ i := by omega
     obtain ⟨hn1, hn2⟩ := neg_step (b := [0, 0, 0, 0]) HYL.out HCL.out.len m (-1) hlt
     have cx : wr.cell? ⟨gs, 4 + i, none⟩ = some (.int .i64 (c0.getD i 0)) := by rw [blk_cell Q6.out, ints_get, hn2]; rfl
     have fx := blk_free Q6.out (4 + i)
     have hci := chin_get HCL.out hlt
     obtain ⟨hci0, hci1⟩ := hci
     have q7 := blk_draws (blk_set_int Q6.out (4 + i) (-(c0.getD i 0))) 1
     rw [hn1] at q7
     have Q7 := hid q7
     have S7 := hid (blk_draws (blk_far (b := gs) (i := 4 + i) S6.out (by have := HGS.out; omega) (.int .i64 (-(c0.getD i 0)))) 1)
     have R7 := hid (blk_draws (blk_far (b := gs) (i := 4 + i) R6.out (by have := HGS.out; omega) (.int .i64 (-(c0.getD i 0)))) 1)
     have BB7 := hid (below_draws (below_set (i := 4 + i) BB6.out (b := gs) (by have := HGS.out; omega) (.int .i64 (-(c0.getD i 0)))) 1)
     clear q7 hn1 hn2
     generalize c0.getD i 0 = ci at *
     go_wp2_with fail
     refine plain_region (S := (fun L W => (L.getD 12 true = true ∨ W.cell? ⟨gs, 4 + i, none⟩ = some (.int .i64 ci)))) (by kernel_rfl) (Or.inr cx) (fun hHeld => ?_)
     clear hHeld
     refine aW 0 (Or.inr cx) ?_
     refine aW 1 (Or.inr cx) ?_
     refine aW 2 (Or.inr cx) ?_
     refine aW 3 (Or.inr cx) ?_
     refine aW 4 (Or.inr cx) ?_
     refine aW 5 (Or.inr cx) ?_
     refine aW 6 (Or.inr cx) ?_
     refine aL 7 12 (fun _ _ h k => rL k h) (Or.inr cx) ?_
     refine aW 8 (Or.inr cx) ?_
     refine aW 9 (Or.inr cx) ?_
     refine aW 10 (Or.inr cx) ?_
     refine aW 11 (Or.inr cx) ?_
     refine aR 12 (fun K hK => ?_)
     go_simp
     skip
     refine hK.out _ _ (Or.inl (by rfl)) (fun hHeld => ?_)
     clear hK K
     try simp only [Act.put, tA, tB, tC]
     clear hHeld
     refine anyU_done (by kernel_rfl) ?_ _
     have Q8 : Hid (Blk (wr.setCell ⟨gs, 4 + i, none⟩ (.int .i64 (-ci))).drew gs ST84 (ints (srL y (negTo c0 (i + 1)) m [0, 0, 0, 0] (-1)))) := Q7
     have S8 : Hid (Blk (wr.setCell ⟨gs, 4 + i, none⟩ (.int .i64 (-ci))).drew (w.heap.size + 1) 47 (shV s)) := S7
     have R8 : Hid (Blk (wr.setCell ⟨gs, 4 + i, none⟩ (.int .i64 (-ci))).drew (w.heap.size + 1 + 1) 47 #[Value.int .i64 0, .int .i64 0, .int .i64 0, .int .i64 0, .int .i64 0, .int .i64 0, .int .i64 0, .int .i64 0, .int .i64 0, .int .i64 0, .int .i64 0, .int .i64 0, .int .i64 0, .int .i64 0, .int .i64 0, .int .i64 0, .int .i64 0, .int .i64 0, .int .i64 0, .int .i64 0, .int .i64 0, .int .i64 0, .int .i64 0, .int .i64 0, .int .i64 0, .int .i64 0, .int .i64 0, .int .i64 0, .int .i64 0, .int .i64 0, .int .i64 0, .int .i64 0, .int .i64 0, .int .i64 0, .int .i64 0, .int .i64 0, .int .i64 0, .int .i64 0, .int .i64 0, .int .i64 0]) := R7
     have BB8 : Hid (Below w.heap.size w (wr.setCell ⟨gs, 4 + i, none⟩ (.int .i64 (-ci))).drew) := BB7
     clear Q7 S7 R7 BB7 cx fx
     go_wp2_with fail
     go_roundg (4 - (i + 1))
     case measure => omega
     case rel => exact ⟨i + 1, by omega, by omega, by go_num, BB8.out, S8.out, R8.out, Q8.out⟩
   · obtain rfl : i = 4 := by omega
     have q6 := Q6.out
     rw [HNA.out] at q6
     clear Q6
     have Q6 := hid q6
     clear q6
     generalize negC c0 = c at *
     have HCP := hid (show (Tryz.prog.info? 43).map (·.size) = some (c.map (Value.int .i64)).length by rw [List.length_map, HCI.out.len]; kernel_rfl)
     have cp := pulses_calls y gs 4 wr (by rw [HYL.out]; decide) (fun i hi => by
      have := sr_y Q6.out HYL.out i (.int .i64 (y.getD i 0)) (by rw [List.getElem?_map, List.getElem?_eq_getElem hi, List.getD_eq_getElem?_getD, List.getElem?_eq_getElem hi]; rfl)
      rwa [Nat.zero_add] at this)
     rw [HYL.out, HPK.out] at cp
     have cs := fun W => mSum_calls y c W HPIN.out HCI.out
     have y6 := sr_y Q6.out HYL.out
     have c6 := sr_c Q6.out HYL.out HCI.out.len
     have m6 := sr_m Q6.out HYL.out HCI.out.len
     generalize hsm : sumC y c 4 = sm at *
     clear hsm
     go_wp2_with fail
     refine cp.mono ?_
     rintro e w7 ⟨rfl, rfl⟩
     clear cp
     by_cases h1 : 2 ≤ sm
     · have HX := hid (show mputL kb n true s = (s, true) by rw [HM.out, if_pos (Or.inl h1), decide_eq_true h1])
       clear HM
       go_wp2_with fail
       refine plain_region (S := (fun L W => (L.getD 8 true = true ∨ W.rangeAt gs 0 (y.map (Value.int .i64))) ∧ (L.getD 8 true = true ∨ W.rangeAt gs 4 (c.map (Value.int .i64))))) (by kernel_rfl) (⟨Or.inr y6, Or.inr c6⟩) (fun hHeld => ?_)
       clear hHeld
       refine aW 0 ⟨Or.inr y6, Or.inr c6⟩ ?_
       refine aW 1 ⟨Or.inr y6, Or.inr c6⟩ ?_
       refine aW 2 ⟨Or.inr y6, Or.inr c6⟩ ?_
       refine aB 3 8 rfl (fun _ _ h k => rL k.1 h) (yieldsIf_load_mid (by rfl) 44 _ rfl gs 0 rfl _ _ (fun _ h => h) Tryz.underlying44 rfl HPU.out) ⟨Or.inr y6, Or.inr c6⟩ ?_
       refine aW 4 ⟨Or.inr y6, Or.inr c6⟩ ?_
       refine aW 5 ⟨Or.inr y6, Or.inr c6⟩ ?_
       refine aW 6 ⟨Or.inr y6, Or.inr c6⟩ ?_
       refine aB 7 8 rfl (fun _ _ h k => rL k.2 h) (yieldsIf_load_mid (by rfl) 43 _ rfl gs 4 rfl _ _ (fun _ h => h) Tryz.underlying43 rfl HCP.out) ⟨Or.inr y6, Or.inr c6⟩ ?_
       refine aR 8 (fun K hK => ?_)
       go_simp
       refine (cs _).mono ?_
       rintro e w7 ⟨rfl, B7⟩
       have Q7 := hid (blk_below (blk_drew Q6.out) B7 (blk_lt Q6.out))
       have R7 := hid (blk_below (blk_drew R6.out) B7 (blk_lt R6.out))
       have S7 := hid (blk_below (blk_drew S6.out) B7 (blk_lt S6.out))
       have BB7 := hid (bnext (below_draws BB6.out 1) B7)
       have m6 := sr_m Q7.out HYL.out HCI.out.len
       clear B7
       refine hK.out _ _ (⟨Or.inl (by rfl), Or.inl (by rfl)⟩) (fun hHeld => ?_)
       clear hK K
       try simp only [Act.put, tA, tB, tC]
       clear hHeld
       refine aW 9 ⟨Or.inl (by rfl), Or.inl (by rfl)⟩ ?_
       refine aW 10 ⟨Or.inl (by rfl), Or.inl (by rfl)⟩ ?_
       refine aS 11 ⟨Or.inl (by rfl), Or.inl (by rfl)⟩ ?_
       refine aS 12 ⟨Or.inl (by rfl), Or.inl (by rfl)⟩ ?_
       refine aS 13 ⟨Or.inl (by rfl), Or.inl (by rfl)⟩ ?_
       refine aS 14 ⟨Or.inl (by rfl), Or.inl (by rfl)⟩ ?_
       refine aS 15 ⟨Or.inl (by rfl), Or.inl (by rfl)⟩ ?_
       refine aW 16 ⟨Or.inl (by rfl), Or.inl (by rfl)⟩ ?_
       refine aW 17 ⟨Or.inl (by rfl), Or.inl (by rfl)⟩ ?_
       refine aS 18 ⟨Or.inl (by rfl), Or.inl (by rfl)⟩ ?_
       refine aS 19 ⟨Or.inl (by rfl), Or.inl (by rfl)⟩ ?_
       refine aW 20 ⟨Or.inl (by rfl), Or.inl (by rfl)⟩ ?_
       refine anyU_done (by kernel_rfl) ?_ _
       clear y6 c6 m6
       go_wp2_with fail
       have y8 := sr_y Q7.out HYL.out
       have c8 := sr_c Q7.out HYL.out HCI.out.len
       have s8 := S7.out
       have cs2 := cs
       refine plain_region (S := (fun L W => (L.getD 11 true = true ∨ Blk W (w.heap.size + 1) 47 (shV s)) ∧ (L.getD 9 true = true ∨ W.rangeAt gs 0 (y.map (Value.int .i64))) ∧ (L.getD 9 true = true ∨ W.rangeAt gs 4 (c.map (Value.int .i64))))) (by kernel_rfl) (⟨Or.inr s8, Or.inr y8, Or.inr c8⟩) (fun hHeld => ?_)
       clear hHeld
       refine aB 0 11 rfl (fun _ _ h k => rL k.1 h) (yields_blk (by rfl) 47 _ rfl (w.heap.size + 1) rfl 47 (shV s) _ (fun _ h => h) Tryz.underlying47 rfl HSZ.out) ⟨Or.inr s8, Or.inr y8, Or.inr c8⟩ ?_
       refine aW 1 ⟨Or.inr s8, Or.inr y8, Or.inr c8⟩ ?_
       refine aW 2 ⟨Or.inr s8, Or.inr y8, Or.inr c8⟩ ?_
       refine aW 3 ⟨Or.inr s8, Or.inr y8, Or.inr c8⟩ ?_
       refine aB 4 9 rfl (fun _ _ h k => rL k.2.1 h) (yieldsIf_load_mid (by rfl) 44 _ rfl gs 0 rfl _ _ (fun _ h => h) Tryz.underlying44 rfl HPU.out) ⟨Or.inr s8, Or.inr y8, Or.inr c8⟩ ?_
       refine aW 5 ⟨Or.inr s8, Or.inr y8, Or.inr c8⟩ ?_
       refine aW 6 ⟨Or.inr s8, Or.inr y8, Or.inr c8⟩ ?_
       refine aW 7 ⟨Or.inr s8, Or.inr y8, Or.inr c8⟩ ?_
       refine aB 8 9 rfl (fun _ _ h k => rL k.2.2 h) (yieldsIf_load_mid (by rfl) 43 _ rfl gs 4 rfl _ _ (fun _ h => h) Tryz.underlying43 rfl HCP.out) ⟨Or.inr s8, Or.inr y8, Or.inr c8⟩ ?_
       refine aR 9 (fun K hK => ?_)
       go_simp
       refine (cs2 _).mono ?_
       rintro e w8 ⟨rfl, B8⟩
       have R8 := hid (blk_below (blk_drew R7.out) B8 (blk_lt R7.out))
       have s8 := blk_below (blk_drew S7.out) B8 (blk_lt S7.out)
       have BB8 := hid (bnext (below_draws BB7.out 1) B8)
       clear B8
       refine hK.out _ _ (⟨Or.inr s8, Or.inl (by rfl), Or.inl (by rfl)⟩) (fun hHeld => ?_)
       clear hK K
       try simp only [Act.put, tA, tB, tC]
       clear hHeld
       refine aW 10 ⟨Or.inr s8, Or.inl (by rfl), Or.inl (by rfl)⟩ ?_
       refine aR 11 (fun K hK => ?_)
       obtain ⟨qq1, qq2⟩ := setCells_whole (new := shV s) R8.out HRZ.out
       have R9 := hid qq1
       have BB9 := hid (below_grown BB8.out qq2 BB8.out.size (by omega))
       refine stepU_store (by rfl) 47 _ _ rfl (w.heap.size + 1 + 1) 0 (shV s).toList rfl (by rw [Array.toArray_toList]; rfl) (by rw [Array.length_toList, HRZ.out]; exact blk_there R8.out) (by rw [Array.length_toList]; exact HSZ.out) (fun v hv => Array.all_eq_true_iff_forall_mem.1 HSO.out v (by simpa using hv)) ?_
       refine hK.out _ _ (⟨Or.inl (by rfl), Or.inl (by rfl), Or.inl (by rfl)⟩) (fun hHeld => ?_)
       clear hK K
       try simp only [Act.put]
       clear hHeld
       refine aW 12 ⟨Or.inl (by rfl), Or.inl (by rfl), Or.inl (by rfl)⟩ ?_
       refine anyU_done (by kernel_rfl) ?_ _
       generalize w8.setCells (w.heap.size + 1 + 1) 0 (shV s).toList = w9 at *
       go_wp2_with fail
       exact bodyPost_ret (results_row_slot rfl _ _ (w.heap.size + 1 + 1) 47 (shV s) (0, 0) _ _ rfl rfl R9.out Tryz.underlying47 rfl HSZ.out) rfl ⟨by rw [HX.out]; rfl, BB9.out⟩
     · have e1 : decide (2 ≤ sm) = false := decide_eq_false h1
       by_cases h2 : m = 0
       · have e2 : (m == 0) = true := by simpa using h2
         have HX := hid (show mputL kb n true s = (s, false) by rw [HM.out, if_pos (Or.inr h2), e1])
         clear HM h1 h2
         go_wp2_with fail
         refine plain_region (S := (fun L W => (L.getD 8 true = true ∨ W.rangeAt gs 0 (y.map (Value.int .i64))) ∧ (L.getD 8 true = true ∨ W.rangeAt gs 4 (c.map (Value.int .i64))) ∧ W.cell? ⟨gs, 8, none⟩ = some (.int .i64 m))) (by kernel_rfl) (⟨Or.inr y6, Or.inr c6, m6⟩) (fun hHeld => ?_)
         clear hHeld
         refine aW 0 ⟨Or.inr y6, Or.inr c6, m6⟩ ?_
         refine aW 1 ⟨Or.inr y6, Or.inr c6, m6⟩ ?_
         refine aW 2 ⟨Or.inr y6, Or.inr c6, m6⟩ ?_
         refine aB 3 8 rfl (fun _ _ h k => rL k.1 h) (yieldsIf_load_mid (by rfl) 44 _ rfl gs 0 rfl _ _ (fun _ h => h) Tryz.underlying44 rfl HPU.out) ⟨Or.inr y6, Or.inr c6, m6⟩ ?_
         refine aW 4 ⟨Or.inr y6, Or.inr c6, m6⟩ ?_
         refine aW 5 ⟨Or.inr y6, Or.inr c6, m6⟩ ?_
         refine aW 6 ⟨Or.inr y6, Or.inr c6, m6⟩ ?_
         refine aB 7 8 rfl (fun _ _ h k => rL k.2.1 h) (yieldsIf_load_mid (by rfl) 43 _ rfl gs 4 rfl _ _ (fun _ h => h) Tryz.underlying43 rfl HCP.out) ⟨Or.inr y6, Or.inr c6, m6⟩ ?_
         refine aR 8 (fun K hK => ?_)
         go_simp
         refine (cs _).mono ?_
         rintro e w7 ⟨rfl, B7⟩
         have Q7 := hid (blk_below (blk_drew Q6.out) B7 (blk_lt Q6.out))
         have R7 := hid (blk_below (blk_drew R6.out) B7 (blk_lt R6.out))
         have S7 := hid (blk_below (blk_drew S6.out) B7 (blk_lt S6.out))
         have BB7 := hid (bnext (below_draws BB6.out 1) B7)
         have m6 := sr_m Q7.out HYL.out HCI.out.len
         clear B7
         refine hK.out _ _ (⟨Or.inl (by rfl), Or.inl (by rfl), m6⟩) (fun hHeld => ?_)
         clear hK K
         try simp only [Act.put, tA, tB, tC]
         clear hHeld
         refine aW 9 ⟨Or.inl (by rfl), Or.inl (by rfl), m6⟩ ?_
         refine aW 10 ⟨Or.inl (by rfl), Or.inl (by rfl), m6⟩ ?_
         refine aW 11 ⟨Or.inl (by rfl), Or.inl (by rfl), m6⟩ ?_
         refine aW 12 ⟨Or.inl (by rfl), Or.inl (by rfl), m6⟩ ?_
         refine aW 13 ⟨Or.inl (by rfl), Or.inl (by rfl), m6⟩ ?_
         refine aL 14 15 (fun _ _ _ k => k.2.2) ⟨Or.inl (by rfl), Or.inl (by rfl), m6⟩ ?_
         refine aW 15 ⟨Or.inl (by rfl), Or.inl (by rfl), m6⟩ ?_
         refine aW 16 ⟨Or.inl (by rfl), Or.inl (by rfl), m6⟩ ?_
         refine aW 17 ⟨Or.inl (by rfl), Or.inl (by rfl), m6⟩ ?_
         refine aS 18 ⟨Or.inl (by rfl), Or.inl (by rfl), m6⟩ ?_
         refine aS 19 ⟨Or.inl (by rfl), Or.inl (by rfl), m6⟩ ?_
         refine aW 20 ⟨Or.inl (by rfl), Or.inl (by rfl), m6⟩ ?_
         refine anyU_done (by kernel_rfl) ?_ _
         clear y6 c6 m6
         go_wp2_with fail
         have y8 := sr_y Q7.out HYL.out
         have c8 := sr_c Q7.out HYL.out HCI.out.len
         have s8 := S7.out
         have cs2 := cs
         refine plain_region (S := (fun L W => (L.getD 11 true = true ∨ Blk W (w.heap.size + 1) 47 (shV s)) ∧ (L.getD 9 true = true ∨ W.rangeAt gs 0 (y.map (Value.int .i64))) ∧ (L.getD 9 true = true ∨ W.rangeAt gs 4 (c.map (Value.int .i64))))) (by kernel_rfl) (⟨Or.inr s8, Or.inr y8, Or.inr c8⟩) (fun hHeld => ?_)
         clear hHeld
         refine aB 0 11 rfl (fun _ _ h k => rL k.1 h) (yields_blk (by rfl) 47 _ rfl (w.heap.size + 1) rfl 47 (shV s) _ (fun _ h => h) Tryz.underlying47 rfl HSZ.out) ⟨Or.inr s8, Or.inr y8, Or.inr c8⟩ ?_
         refine aW 1 ⟨Or.inr s8, Or.inr y8, Or.inr c8⟩ ?_
         refine aW 2 ⟨Or.inr s8, Or.inr y8, Or.inr c8⟩ ?_
         refine aW 3 ⟨Or.inr s8, Or.inr y8, Or.inr c8⟩ ?_
         refine aB 4 9 rfl (fun _ _ h k => rL k.2.1 h) (yieldsIf_load_mid (by rfl) 44 _ rfl gs 0 rfl _ _ (fun _ h => h) Tryz.underlying44 rfl HPU.out) ⟨Or.inr s8, Or.inr y8, Or.inr c8⟩ ?_
         refine aW 5 ⟨Or.inr s8, Or.inr y8, Or.inr c8⟩ ?_
         refine aW 6 ⟨Or.inr s8, Or.inr y8, Or.inr c8⟩ ?_
         refine aW 7 ⟨Or.inr s8, Or.inr y8, Or.inr c8⟩ ?_
         refine aB 8 9 rfl (fun _ _ h k => rL k.2.2 h) (yieldsIf_load_mid (by rfl) 43 _ rfl gs 4 rfl _ _ (fun _ h => h) Tryz.underlying43 rfl HCP.out) ⟨Or.inr s8, Or.inr y8, Or.inr c8⟩ ?_
         refine aR 9 (fun K hK => ?_)
         go_simp
         refine (cs2 _).mono ?_
         rintro e w8 ⟨rfl, B8⟩
         have R8 := hid (blk_below (blk_drew R7.out) B8 (blk_lt R7.out))
         have s8 := blk_below (blk_drew S7.out) B8 (blk_lt S7.out)
         have BB8 := hid (bnext (below_draws BB7.out 1) B8)
         clear B8
         refine hK.out _ _ (⟨Or.inr s8, Or.inl (by rfl), Or.inl (by rfl)⟩) (fun hHeld => ?_)
         clear hK K
         try simp only [Act.put, tA, tB, tC]
         clear hHeld
         refine aW 10 ⟨Or.inr s8, Or.inl (by rfl), Or.inl (by rfl)⟩ ?_
         refine aR 11 (fun K hK => ?_)
         obtain ⟨qq1, qq2⟩ := setCells_whole (new := shV s) R8.out HRZ.out
         have R9 := hid qq1
         have BB9 := hid (below_grown BB8.out qq2 BB8.out.size (by omega))
         refine stepU_store (by rfl) 47 _ _ rfl (w.heap.size + 1 + 1) 0 (shV s).toList rfl (by rw [Array.toArray_toList]; rfl) (by rw [Array.length_toList, HRZ.out]; exact blk_there R8.out) (by rw [Array.length_toList]; exact HSZ.out) (fun v hv => Array.all_eq_true_iff_forall_mem.1 HSO.out v (by simpa using hv)) ?_
         refine hK.out _ _ (⟨Or.inl (by rfl), Or.inl (by rfl), Or.inl (by rfl)⟩) (fun hHeld => ?_)
         clear hK K
         try simp only [Act.put]
         clear hHeld
         refine aW 12 ⟨Or.inl (by rfl), Or.inl (by rfl), Or.inl (by rfl)⟩ ?_
         refine anyU_done (by kernel_rfl) ?_ _
         generalize w8.setCells (w.heap.size + 1 + 1) 0 (shV s).toList = w9 at *
         go_wp2_with fail
         exact bodyPost_ret (results_row_slot rfl _ _ (w.heap.size + 1 + 1) 47 (shV s) (0, 0) _ _ rfl rfl R9.out Tryz.underlying47 rfl HSZ.out) rfl ⟨by rw [HX.out]; rfl, BB9.out⟩
       · have e2 : (m == 0) = false := by simpa using h2
         have hx := HM.out
         rw [if_neg (fun h => h.elim h1 h2)] at hx
         have HX := hid hx
         clear HM hx h1 h2
         go_wp2_with fail
         refine plain_region (S := (fun L W => (L.getD 8 true = true ∨ W.rangeAt gs 0 (y.map (Value.int .i64))) ∧ (L.getD 8 true = true ∨ W.rangeAt gs 4 (c.map (Value.int .i64))) ∧ W.cell? ⟨gs, 8, none⟩ = some (.int .i64 m))) (by kernel_rfl) (⟨Or.inr y6, Or.inr c6, m6⟩) (fun hHeld => ?_)
         clear hHeld
         refine aW 0 ⟨Or.inr y6, Or.inr c6, m6⟩ ?_
         refine aW 1 ⟨Or.inr y6, Or.inr c6, m6⟩ ?_
         refine aW 2 ⟨Or.inr y6, Or.inr c6, m6⟩ ?_
         refine aB 3 8 rfl (fun _ _ h k => rL k.1 h) (yieldsIf_load_mid (by rfl) 44 _ rfl gs 0 rfl _ _ (fun _ h => h) Tryz.underlying44 rfl HPU.out) ⟨Or.inr y6, Or.inr c6, m6⟩ ?_
         refine aW 4 ⟨Or.inr y6, Or.inr c6, m6⟩ ?_
         refine aW 5 ⟨Or.inr y6, Or.inr c6, m6⟩ ?_
         refine aW 6 ⟨Or.inr y6, Or.inr c6, m6⟩ ?_
         refine aB 7 8 rfl (fun _ _ h k => rL k.2.1 h) (yieldsIf_load_mid (by rfl) 43 _ rfl gs 4 rfl _ _ (fun _ h => h) Tryz.underlying43 rfl HCP.out) ⟨Or.inr y6, Or.inr c6, m6⟩ ?_
         refine aR 8 (fun K hK => ?_)
         go_simp
         refine (cs _).mono ?_
         rintro e w7 ⟨rfl, B7⟩
         have Q7 := hid (blk_below (blk_drew Q6.out) B7 (blk_lt Q6.out))
         have R7 := hid (blk_below (blk_drew R6.out) B7 (blk_lt R6.out))
         have S7 := hid (blk_below (blk_drew S6.out) B7 (blk_lt S6.out))
         have BB7 := hid (bnext (below_draws BB6.out 1) B7)
         have m6 := sr_m Q7.out HYL.out HCI.out.len
         clear B7
         refine hK.out _ _ (⟨Or.inl (by rfl), Or.inl (by rfl), m6⟩) (fun hHeld => ?_)
         clear hK K
         try simp only [Act.put, tA, tB, tC]
         clear hHeld
         refine aW 9 ⟨Or.inl (by rfl), Or.inl (by rfl), m6⟩ ?_
         refine aW 10 ⟨Or.inl (by rfl), Or.inl (by rfl), m6⟩ ?_
         refine aW 11 ⟨Or.inl (by rfl), Or.inl (by rfl), m6⟩ ?_
         refine aW 12 ⟨Or.inl (by rfl), Or.inl (by rfl), m6⟩ ?_
         refine aW 13 ⟨Or.inl (by rfl), Or.inl (by rfl), m6⟩ ?_
         refine aL 14 15 (fun _ _ _ k => k.2.2) ⟨Or.inl (by rfl), Or.inl (by rfl), m6⟩ ?_
         refine aW 15 ⟨Or.inl (by rfl), Or.inl (by rfl), m6⟩ ?_
         refine aW 16 ⟨Or.inl (by rfl), Or.inl (by rfl), m6⟩ ?_
         refine aW 17 ⟨Or.inl (by rfl), Or.inl (by rfl), m6⟩ ?_
         refine aW 18 ⟨Or.inl (by rfl), Or.inl (by rfl), m6⟩ ?_
         refine aW 19 ⟨Or.inl (by rfl), Or.inl (by rfl), m6⟩ ?_
         refine aW 20 ⟨Or.inl (by rfl), Or.inl (by rfl), m6⟩ ?_
         refine anyU_done (by kernel_rfl) ?_ _
         clear y6 c6 m6
         clear e1 e2
         have ce := each_calls y c m k gs ([0, 0, 0, 0], -1) (w7.drewN 0) HPIN.out HCI.out HK12.out rfl Q7.out
         rw [show w7.drewN 0 = w7 from rfl] at ce
         generalize lookS y c m ([0, 0, 0, 0], -1) (eachL k) = st at *
         obtain ⟨best, far⟩ := st
         dsimp only at ce
         go_wp2_with fail
         refine ce.mono ?_
         rintro e w8 ⟨rfl, q8, hbl, g8⟩
         have Q8 := hid q8
         have HBL := hid (show best.length = 4 from hbl)
         have S8 := hid (blk_grown S7.out g8 (fun e => by injection e with e; have := HGS.out; omega))
         have R8 := hid (blk_grown R7.out g8 (fun e => by injection e with e; have := HGS.out; omega))
         have BB8 := hid (below_grown BB7.out g8 BB7.out.size (by have := HGS.out; omega))
         have f8 := sr_f q8 HYL.out HCI.out.len hbl
         clear ce q8 hbl g8 S7 R7 BB7 Q7
         by_cases h3 : far < 0
         · have hx := HX.out
           rw [if_pos h3] at hx
           have HX := hid hx
           clear hx
           go_wp2_with (first | (refine wpList_load_blk (by rfl) 47 _ rfl (w.heap.size + 1) rfl 47 (shV s) _ S8.out Tryz.underlying47 rfl HSZ.out ?_) | (refine wpList_store_blk rfl 47 _ _ rfl (w.heap.size + 1 + 1) 47 #[Value.int .i64 0, .int .i64 0, .int .i64 0, .int .i64 0, .int .i64 0, .int .i64 0, .int .i64 0, .int .i64 0, .int .i64 0, .int .i64 0, .int .i64 0, .int .i64 0, .int .i64 0, .int .i64 0, .int .i64 0, .int .i64 0, .int .i64 0, .int .i64 0, .int .i64 0, .int .i64 0, .int .i64 0, .int .i64 0, .int .i64 0, .int .i64 0, .int .i64 0, .int .i64 0, .int .i64 0, .int .i64 0, .int .i64 0, .int .i64 0, .int .i64 0, .int .i64 0, .int .i64 0, .int .i64 0, .int .i64 0, .int .i64 0, .int .i64 0, .int .i64 0, .int .i64 0, .int .i64 0] (shV s) rfl rfl R8.out HRZ.out HSZ.out HSO.out ?_; intro w9 n0 n1))
           have BB9 := hid (below_grown BB8.out n1 BB8.out.size (by omega))
           exact bodyPost_ret (results_row_slot rfl _ _ (w.heap.size + 1 + 1) 47 (shV s) (0, 0) _ _ rfl rfl n0 Tryz.underlying47 rfl HSZ.out) rfl ⟨by rw [HX.out]; rfl, BB9.out⟩
         · have hx := HX.out
           rw [if_neg h3] at hx
           have HX := hid hx
           clear hx
           obtain ⟨s9, g9⟩ := shp_store S8.out HS.out.ok HB8.out HBL.out
           have S9 := hid s9
           have R9 := hid (blk_grown R8.out g9 (fun e => by injection e with e; omega))
           have BB9 := hid (below_grown BB8.out g9 BB8.out.size (by omega))
           have T8 := hid (shp_there S8.out HS.out.ok HB8.out)
           have ok9 := sok_put HS.out.ok b HBL.out
           have HSZ9 := hid (shp_size ok9)
           have HRZ9 := hid (show (shV (s.put b best)).size = (#[Value.int .i64 0, .int .i64 0, .int .i64 0, .int .i64 0, .int .i64 0, .int .i64 0, .int .i64 0, .int .i64 0, .int .i64 0, .int .i64 0, .int .i64 0, .int .i64 0, .int .i64 0, .int .i64 0, .int .i64 0, .int .i64 0, .int .i64 0, .int .i64 0, .int .i64 0, .int .i64 0, .int .i64 0, .int .i64 0, .int .i64 0, .int .i64 0, .int .i64 0, .int .i64 0, .int .i64 0, .int .i64 0, .int .i64 0, .int .i64 0, .int .i64 0, .int .i64 0, .int .i64 0, .int .i64 0, .int .i64 0, .int .i64 0, .int .i64 0, .int .i64 0, .int .i64 0, .int .i64 0] : Array Value).size by rw [ints_size, shp_len ok9]; rfl)
           have HSO9 := hid (ints_one (s.put b best).flat)
           have HBP := hid (pul_size HBL.out)
           have RB := hid (sr_b Q8.out HYL.out HCI.out.len HBL.out)
           clear s9 g9 ok9
           go_wp2_with (first | (refine wpList_load_mid rfl 44 _ rfl gs 9 rfl _ _ RB.out Tryz.underlying44 rfl HBP.out ?_) | (refine wpList_store_list rfl 44 _ _ rfl (w.heap.size + 1) (8 + b * 4) (best.map (Value.int .i64)) rfl rfl (by rw [List.length_map, HBL.out]; exact T8.out) HBP.out (ints_one1 _) ?_) | (refine wpList_load_blk (by rfl) 47 _ rfl (w.heap.size + 1) rfl 47 (shV (s.put b best)) _ S9.out Tryz.underlying47 rfl HSZ9.out ?_) | (refine wpList_store_blk rfl 47 _ _ rfl (w.heap.size + 1 + 1) 47 #[Value.int .i64 0, .int .i64 0, .int .i64 0, .int .i64 0, .int .i64 0, .int .i64 0, .int .i64 0, .int .i64 0, .int .i64 0, .int .i64 0, .int .i64 0, .int .i64 0, .int .i64 0, .int .i64 0, .int .i64 0, .int .i64 0, .int .i64 0, .int .i64 0, .int .i64 0, .int .i64 0, .int .i64 0, .int .i64 0, .int .i64 0, .int .i64 0, .int .i64 0, .int .i64 0, .int .i64 0, .int .i64 0, .int .i64 0, .int .i64 0, .int .i64 0, .int .i64 0, .int .i64 0, .int .i64 0, .int .i64 0, .int .i64 0, .int .i64 0, .int .i64 0, .int .i64 0, .int .i64 0] (shV (s.put b best)) rfl rfl R9.out HRZ9.out HSZ9.out HSO9.out ?_; intro w9 n0 n1))
           have BB10 := hid (below_grown BB9.out n1 BB9.out.size (by omega))
           exact bodyPost_ret (results_row_slot rfl _ _ (w.heap.size + 1 + 1) 47 (shV (s.put b best)) (0, 0) _ _ rfl rfl n0 Tryz.underlying47 rfl HSZ9.out) rfl ⟨by rw [HX.out]; rfl, BB10.out⟩
end Go.Proofs.YtiigipnfnfpepaaGreatDoor
