/- The walk of WholeMarks. WholeMarks: what the row's list gives; what comes in. -/
import Derived.Test.YtiigipnfnfpepaaGreatDoorUK5
import Derived.Test.YtiigipnfnfpepaaGreatDoorRows
import Derived.ProofKit
import Derived.LaidMore
import Derived.OpenShut
import Derived.Test.YtiigipnfnfpepaaGreatDoorUA
namespace Go.Proofs.YtiigipnfnfpepaaGreatDoor
open Go.RowKit
attribute [local go_sem ↓] Go.wp_at_zero Go.wp_at_succ

set_option maxRecDepth 20000 in
set_option maxHeartbeats 8000000 in
theorem marks_walk (kb : List UInt8) (x8 y8 : Nat) (pay : Int) (a0 : Option Addr) (n0 c0 : Nat) (zs0 : List Int) (w : World) (hk : kb.length = 16) (hx8 : x8 < 256) (hy8 : y8 < 256)
 (l0 : zs0.length = n0) (m0 : n0 ≤ maxLen) (h0 : SlA w a0 zs0) (w0 : ∀ z ∈ zs0, -9223372036854775808 ≤ z ∧ z ≤ 9223372036854775807) (hG : Signs w) :
 Calls Tryz.prog 4 #[.agg (bytesV kb), .int .u8 x8, .int .u8 y8, .int .i64 pay, .slice a0 n0 c0] w (LawTrue w) := by
 obtain ⟨sz, hsz⟩ : ∃ sz, sz = 12 + x8 % 13 := ⟨_, rfl⟩
 obtain ⟨ch, hch⟩ : ∃ ch, ch = 1 + y8 % 2 := ⟨_, rfl⟩
 have hset : SetOk kb sz ch := ⟨hk, by omega, by omega, by omega⟩
 have c26 := fun W => set26_calls kb x8 y8 W hk hx8 hy8
 rw [← hsz, ← hch] at c26
 have HSET := hid hset
 have HS0 := hid (soundL_snd hset.c zs0)
 have cs0 := hid (fun W (hW : SlA W a0 zs0) => sound26_calls ch a0 n0 c0 zs0 W hset.c l0 m0 hW w0)
 obtain ⟨x, hx⟩ : ∃ x, x = soundL ch zs0 := ⟨_, rfl⟩
 rw [← hx] at cs0 HS0
 obtain ⟨nx, hnx⟩ : ∃ nx, nx = x.length := ⟨_, rfl⟩
 rw [← hnx] at cs0
 have hN4 : (frL ch x).length ≤ 4096 := by rw [frL_len hset.c]; exact cntN_le hset.c (by have := HS0.out.1; omega)
 have HNX := hid hnx
 have H0 := hid h0
 have HG := hid hG
 have HK := hid hk
 have HKS := hid (key_size hk)
 have HZ := hid (set_size kb sz ch hk)
 have HZS := hid (show (setV kb sz ch).size = ZS.size by rw [setV, Array.size_append, bytesV_size, hk]; rfl)
 have HZO := hid (show (setV kb sz ch).all (·.oneCell') = true by rw [setV, Array.all_append, bytesV_one]; simp [Value.oneCell'])
 have HSZ := hid (And.intro hset.lo hset.hi)
 have B0 := hid ((Below.refl w.heap.size w).alloc (Nat.le_refl _) (.cells (bytesV kb) 23))
 have K0 := hid (blk_new w 23 (bytesV kb))
 have HPK := hid (fun pm => packets_ok hset pm x)
 have HPP := hid (plain_ok hset x)
 have HPU := hid (fun pm i (hi : i < (frL ch x).length) => put_ok hset pm x hi)
 have HNP := hid (fun pm => packets_len kb sz ch pm x)
 have HNR := hid (plain_len sz ch x)
 obtain ⟨N, hN⟩ : ∃ N, N = (frL ch x).length := ⟨_, rfl⟩
 rw [← hN] at HPU HNP HNR hN4
 clear hnx hset hsz hch hx h0 hG hk hx8 hy8 l0 m0 w0 hN
 go_enter Tryz.func4, Tryz.ntmps4
 go_wp2_with fail
 refine (goes_calls _).mono ?_
 rintro e w1 ⟨rfl, B⟩
 have K1 := hid (blk_below K0.out B (blk_lt K0.out))
 have B1 := hid (bnext B0.out B)
 clear K0 B0 B
 go_wp2_with (first | (refine wpList_load_blk (by rfl) 23 _ rfl w.heap.size rfl 23 (bytesV kb) _ K1.out Tryz.underlying23 rfl HKS.out ?_))
 refine (c26 _).mono ?_
 rintro e w2 ⟨rfl, B⟩
 have K2 := hid (blk_alloc (blk_below K1.out B (blk_lt K1.out)) (.cells ZS 28))
 have B2 := hid ((bnext B1.out B).alloc (bnext B1.out B).size (.cells ZS 28))
 have HLE := hid (show w.heap.size < w2.heap.size from Nat.lt_of_lt_of_le (blk_lt K1.out) B.size)
 clear B K1 B1 c26
 go_wp2_with (first | (refine wpList_store_blk rfl 28 _ _ rfl w2.heap.size 28 ZS (setV kb sz ch) rfl rfl (blk_new w2 _ _) HZS.out HZ.out HZO.out ?_; intro w3 n0 n1; have S3 := hid n0; have K3 := hid (blk_grown K2.out n1 (fun e => by injection e with e; have := HLE.out; omega)); have B3 := hid (below_grown B2.out n1 B2.out.size (by have := HLE.out; omega)); have c3 := set_ch S3.out HK.out; clear n0 n1 B2 K2))
 obtain ⟨gs, hgs⟩ : ∃ gs, gs = w2.heap.size := ⟨_, rfl⟩
 rw [← hgs] at S3 c3 ⊢
 clear HLE hgs
 refine (cs0.out w3 (slA_below H0.out B3.out)).mono ?_
 rintro e w4 ⟨ax, cx, rfl, X4, B⟩
 have S4 := hid (blk_below S3.out B (blk_lt S3.out))
 have K4 := hid (blk_below K3.out B (blk_lt K3.out))
 have X4 := hid X4
 have B4 := hid (bnext B3.out B)
 clear B S3 K3 B3 c3 cs0 H0
 go_wp2_with (first | (refine wpList_load_blk (by rfl) 28 _ rfl gs rfl 28 (setV kb sz ch) _ S4.out Tryz.underlying28 rfl HZ.out ?_))
 have hpi := pay_in pay
 generalize bits BinOp.and IntKind.i64 pay 281474976710655 = pm at *
 have HPI := hid hpi
 clear hpi
 refine (send_calls kb sz ch pm ax nx cx x w4 HSET.out HPI.out.1 HPI.out.2 X4.out.len X4.out.sl X4.out.nil X4.out.lo X4.out.hi HS0.out.2 (signs_below HG.out B4.out (signs_size HG.out))).mono ?_
 rintro e w5 ⟨v5, rfl, O5, B⟩
 rw [HNP.out pm] at O5
 obtain ⟨aa, ca, rfl, hA⟩ := strC_row O5
 have A5 := hid hA
 have X5 := hid (slC_below X4.out B)
 have S5 := hid (blk_below S4.out B (blk_lt S4.out))
 have K5 := hid (blk_below K4.out B (blk_lt K4.out))
 have B5 := hid (bnext B4.out B)
 clear O5 hA B X4 S4 K4 B4
 go_wp2_with (first | (refine wpList_load_blk (by rfl) 28 _ rfl gs rfl 28 (setV kb sz ch) _ S5.out Tryz.underlying28 rfl HZ.out ?_))
 refine (plain_calls kb sz ch ax nx cx x w5 HSET.out X5.out.len X5.out.sl X5.out.nil X5.out.lo X5.out.hi HS0.out.2).mono ?_
 rintro e w6 ⟨v6, rfl, O6, B⟩
 rw [HNR.out] at O6
 obtain ⟨ab, cb, rfl, hB⟩ := strC_row O6
 have D6 := hid hB
 have A6 := hid (strC_below A5.out B)
 have S6 := hid (blk_below S5.out B (blk_lt S5.out))
 have K6 := hid (blk_below K5.out B (blk_lt K5.out))
 have B6 := hid (bnext B5.out B)
 clear O6 hB B A5 S5 K5 B5 X5
 go_wp2_with (first | (refine wpList_load_blk (by rfl) 23 _ rfl w.heap.size rfl 23 (bytesV kb) _ K6.out Tryz.underlying23 rfl HKS.out ?_))
 have ck := loadLay_calls kb pm w6 HK.out HPI.out.1 HPI.out.2 (signs_below HG.out B6.out (signs_size HG.out))
 have HBL := hid (payW_len kb pm)
 have HPU := hid (HPU.out pm)
 have HPK := hid (HPK.out pm)
 have HCA := hid (fun W (hW : StrC W aa N ca (packetsL kb sz ch pm x)) hG => carriers_calls kb sz ch pm aa N ca (packetsL kb sz ch pm x) (snI kb sz ch pm x) W HSET.out HPI.out.1 HPI.out.2 hW hN4 HPK.out hG)
 obtain ⟨bw, hbw⟩ : ∃ bw, bw = payW kb pm := ⟨_, rfl⟩
 rw [← hbw] at ck HBL HPU HCA
 have HBW := hid hbw
 clear hbw HNP HNR
 have HWZ := hid (show (Tryz.prog.info? 38).map (·.size) = some (bools bw).size by rw [bools_size, HBL.out]; kernel_rfl)
 have HWS := hid (show (bools bw).size = Tryz.zeroCells38.size by rw [show Tryz.zeroCells38 = bools (wTo 0 0) by kernel_rfl, bools_size, bools_size, HBL.out, wTo_len])
 refine ck.mono ?_
 rintro e w7 ⟨rfl, B⟩
 have S7 := hid (blk_alloc (blk_below S6.out B (blk_lt S6.out)) (.cells Tryz.zeroCells38 38))
 have K7 := hid (blk_alloc (blk_below K6.out B (blk_lt K6.out)) (.cells Tryz.zeroCells38 38))
 have B7 := hid ((bnext B6.out B).alloc (bnext B6.out B).size (.cells Tryz.zeroCells38 38))
 have BB7 := hid (((Below.refl w6.heap.size w6).trans B).alloc B.size (.cells Tryz.zeroCells38 38))
 have HL := hid B.size
 have HLS := hid (show gs < w7.heap.size from Nat.lt_of_lt_of_le (blk_lt S6.out) B.size)
 have HLK := hid (show w.heap.size < w7.heap.size from Nat.lt_of_lt_of_le (blk_lt K6.out) B.size)
 clear ck B
 go_wp2_with (first | (refine wpList_store_blk rfl 38 _ _ rfl w7.heap.size 38 Tryz.zeroCells38 (bools bw) rfl rfl (blk_new w7 _ _) HWS.out HWZ.out (bools_one bw) ?_; intro w8 n0 n1; have W8 := hid n0; have S8 := hid (blk_grown S7.out n1 (fun e => by injection e with e; have := HLS.out; omega)); have K8 := hid (blk_grown K7.out n1 (fun e => by injection e with e; have := HLK.out; omega)); have B8 := hid (below_grown B7.out n1 B7.out.size (by have := HLK.out; omega)); have BB8 := hid (below_grown BB7.out n1 BB7.out.size HL.out); clear n0 n1 S7 K7 B7 BB7))
 have A8 := hid (strC_below A6.out BB8.out)
 have D8 := hid (strC_below D6.out BB8.out)
 obtain ⟨gw, hgw⟩ : ∃ gw, gw = w7.heap.size := ⟨_, rfl⟩
 rw [← hgw] at W8
 have HGS := hid (blk_lt S8.out)
 have HGK := hid (blk_lt K8.out)
 have HGW := hid (blk_lt W8.out)
 have haca : (N : Int) ≤ ca := by have := A8.out.lo; omega
 have haca2 := A8.out.hi
 have hbcb : (N : Int) ≤ cb := by have := D8.out.lo; omega
 have hbcb2 := D8.out.hi
 have hN1 : (N : Int) ≤ 4096 := by omega
 have HN4 := hid hN4
 have HKS := hid (key_size HK.out)
 have HCN := hid (fun i => show cntB (okB kb bw (snI kb sz ch pm x)) (i + 1) = cntB (okB kb bw (snI kb sz ch pm x)) i + (if okB kb bw (snI kb sz ch pm x) i then 1 else 0) from rfl)
 have HOK := hid (fun i => show okB kb bw (snI kb sz ch pm x) i = ((bw.getD (placeI kb i).toNat false && decide (spkI kb i (snI kb sz ch pm x i) = -1)) || (!bw.getD (placeI kb i).toNat false && decide (spkI kb i (snI kb sz ch pm x i) = 1))) from rfl)
 have HPUT := hid (fun i => show putI kb sz ch pm x i = mputL kb i (bw.getD (placeI kb i).toNat false) (shI sz ch x i) by rw [HBW.out]; rfl)
 obtain ⟨S, hS⟩ : ∃ S, S = snI kb sz ch pm x := ⟨_, rfl⟩
 rw [← hS] at HPU HPK HCA HCN HOK
 obtain ⟨T, hT⟩ : ∃ T, T = shI sz ch x := ⟨_, rfl⟩
 rw [← hT] at HPP HPUT
 obtain ⟨P, hP⟩ : ∃ P, P = packetsL kb sz ch pm x := ⟨_, rfl⟩
 rw [← hP] at A8 HPK HCA
 obtain ⟨R, hR⟩ : ∃ R, R = plainL sz ch x := ⟨_, rfl⟩
 rw [← hR] at D8 HPP
 obtain ⟨U, hU⟩ : ∃ U, U = putI kb sz ch pm x := ⟨_, rfl⟩
 rw [← hU] at HPU HPUT
 clear A6 D6 BB8 HL HLS HLK S6 K6 B6 hS hT hP hR hU HBW HNX HS0 HPI HWZ HWS hN4
 go_wp2_with fail
 rw [← hgw]
 clear hgw
 go_loopg [19, 20] N (fun gg s19 s20 wr => ∃ i : Nat, i ≤ N ∧ N - i ≤ gg ∧ s20 = .int .i64 i ∧ s19 = .int .i64 (cntB (okB kb bw S) i) ∧ Aside (Below w.heap.size w wr) ∧ Aside (Below w8.heap.size w8 wr))
 case atStart => exact ⟨0, Nat.zero_le _, by omega, rfl, rfl, B8.out, Below.refl _ _⟩
 case round =>
  obtain ⟨i, hi, hgi, rfl, rfl, B, BW⟩ := hrel
  by_cases hlt : i < N
  · have hiz : (i : Int) < N := by omega
    have hi0 : (0 : Int) ≤ i := by omega
    have hi1 : (i : Int) ≤ 4096 := by omega
    have hi2 : i ≤ 5000 := by omega
    have hi3 : i ≤ 1000000 := by omega
    obtain ⟨ga, hga, hgl, cA⟩ := strC_at (strC_below A8.out BW.out) hlt
    obtain ⟨hpe, hsk, hgv⟩ := HPK.out i (by rw [A8.out.len]; exact hlt)
    obtain ⟨hqe, hskT, hgvT⟩ := HPP.out i (by rw [D8.out.len]; exact hlt)
    obtain ⟨hskU, hUo, hUc⟩ := HPU.out i hlt
    rw [HPUT.out i] at hskU hUo hUc
    have hpl := layL_len (n := i) hsk hgv (by omega) HSZ.out.1
    have hql := layL_len (n := i) hskT hgvT (by omega) HSZ.out.1
    rw [hpe] at cA
    have cr := fun W => read_calls i (S i) sz W hi2 hsk HSZ.out.1 HSZ.out.2 hgv
    have crT := fun W => read_calls i (T i) sz W hi2 hskT HSZ.out.1 HSZ.out.2 hgvT
    have hss := str_size (layL i (S i) sz)
    rw [hpl] at hss
    have hsT := str_size (layL i (T i) sz)
    rw [hql] at hsT
    have CD := hid (fun W (hW : Below w8.heap.size w8 W) => show ∃ gb, ab = some ⟨gb, 0, none⟩ ∧ W.cell? ⟨gb, i, none⟩ = some (.string (str (layL i (T i) sz))) from by
     obtain ⟨g, h1, _, h2⟩ := strC_at (strC_below D8.out hW) hlt
     rw [hqe] at h2
     exact ⟨g, h1, h2⟩)
    obtain ⟨ps, hps⟩ : ∃ ps, ps = str (layL i (S i) sz) := ⟨_, rfl⟩
    rw [← hps] at cA cr hss
    obtain ⟨qs, hqs⟩ : ∃ qs, qs = str (layL i (T i) sz) := ⟨_, rfl⟩
    rw [← hqs] at CD crT hsT
    have cs := hid (fun W hW => speaks_calls kb i (S i) W HK.out hi3 hW hsk)
    have cp := hid (fun W hW => place_calls kb i W HK.out hi3 hW)
    have hsp := spkI_is kb i (S i)
    have hplc := placeI_in kb i
    have hcn := HCN.out i
    have hok := HOK.out i
    obtain ⟨v, hv⟩ : ∃ v : Nat, placeI kb i = v := ⟨(placeI kb i).toNat, (Int.toNat_of_nonneg hplc.1).symm⟩
    rw [hv] at cp hplc hok hskU hUo hUc
    clear hv
    rw [Int.toNat_natCast] at hok hskU hUo hUc
    obtain ⟨bit, hbit⟩ : ∃ bit, bit = bw.getD v false := ⟨_, rfl⟩
    rw [← hbit] at hok hskU hUo hUc
    have cm := hid (fun W hW => mput_calls kb i bit (T i) W HK.out hi3 hW hskT)
    have HBIT := hid (show ∀ W, Below w8.heap.size w8 W → W.cell? ⟨gw, v, none⟩ = some (.bool bit) from fun W hb => by rw [blk_bool (blk_below W8.out hb HGW.out) (by rw [HBL.out]; omega), hbit])
    rw [hUo] at cm
    obtain ⟨ok, hok'⟩ : ∃ ok, ok = okB kb bw S i := ⟨_, rfl⟩
    rw [← hok'] at cm hcn hok
    obtain ⟨s1, hs1⟩ : ∃ s1, s1 = (mputL kb i bit (T i)).1 := ⟨_, rfl⟩
    rw [← hs1] at cm hskU hUc
    have cc1 := hid (fun W hW => corr_calls kb i s1 W HK.out hi3 hW hskU)
    have cc2 := hid (fun W hW => corr_calls kb i (S i) W HK.out hi3 hW hsk)
    rw [hUc] at cc2
    obtain ⟨co, hco⟩ : ∃ co, co = corrI kb i s1 := ⟨_, rfl⟩
    rw [← hco] at cc1 cc2
    obtain ⟨x, hx⟩ : ∃ x, x = spkI kb i (S i) := ⟨_, rfl⟩
    rw [← hx] at cs hsp hok
    obtain ⟨m, hm⟩ : ∃ m, m = cntB (okB kb bw S) i := ⟨_, rfl⟩
    have hcl : m ≤ i := by rw [hm]; exact cntB_le _ _
    rw [← hm] at hcn ⊢
    have hm0 : (0 : Int) ≤ m := by omega
    have hm1 : (m : Int) ≤ 4096 := by omega
    have hv0 : (0 : Int) ≤ v := by omega
    have hv1 : (v : Int) < 127 := by omega
    have HCNi := hid hcn
    have HOKi := hid hok
    have HSO := hid hsk.ok
    have HPS := hid (pk_size hsk.ok i)
    have HPW := hid (show (pkV i (S i)).size = (#[Value.int .i64 0, .int .i64 0, .int .i64 0, .int .i64 0, .int .i64 0, .int .i64 0, .int .i64 0, .int .i64 0, .int .i64 0, .int .i64 0, .int .i64 0, .int .i64 0, .int .i64 0, .int .i64 0, .int .i64 0, .int .i64 0, .int .i64 0, .int .i64 0, .int .i64 0, .int .i64 0, .int .i64 0, .int .i64 0, .int .i64 0, .int .i64 0, .int .i64 0, .int .i64 0, .int .i64 0, .int .i64 0, .int .i64 0, .int .i64 0, .int .i64 0, .int .i64 0, .int .i64 0, .int .i64 0, .int .i64 0, .int .i64 0, .int .i64 0, .int .i64 0, .int .i64 0, .int .i64 0, .int .i64 0] : Array Value).size by rw [ints_size, List.length_cons, shp_len hsk.ok]; rfl)
    have HTS := hid (pk_size hskT.ok i)
    have HTW := hid (show (pkV i (T i)).size = (#[Value.int .i64 0, .int .i64 0, .int .i64 0, .int .i64 0, .int .i64 0, .int .i64 0, .int .i64 0, .int .i64 0, .int .i64 0, .int .i64 0, .int .i64 0, .int .i64 0, .int .i64 0, .int .i64 0, .int .i64 0, .int .i64 0, .int .i64 0, .int .i64 0, .int .i64 0, .int .i64 0, .int .i64 0, .int .i64 0, .int .i64 0, .int .i64 0, .int .i64 0, .int .i64 0, .int .i64 0, .int .i64 0, .int .i64 0, .int .i64 0, .int .i64 0, .int .i64 0, .int .i64 0, .int .i64 0, .int .i64 0, .int .i64 0, .int .i64 0, .int .i64 0, .int .i64 0, .int .i64 0, .int .i64 0] : Array Value).size by rw [ints_size, List.length_cons, shp_len hskT.ok]; rfl)
    have HSL := hid (show (Tryz.prog.info? 47).map (·.size) = some (shV (S i)).toList.length by rw [Array.length_toList]; exact shp_size hsk.ok)
    have HTL := hid (show (Tryz.prog.info? 47).map (·.size) = some (shV (T i)).toList.length by rw [Array.length_toList]; exact shp_size hskT.ok)
    have HUZ := hid (shp_size hskU.ok)
    have HUW := hid (show (shV s1).size = (#[Value.int .i64 0, .int .i64 0, .int .i64 0, .int .i64 0, .int .i64 0, .int .i64 0, .int .i64 0, .int .i64 0, .int .i64 0, .int .i64 0, .int .i64 0, .int .i64 0, .int .i64 0, .int .i64 0, .int .i64 0, .int .i64 0, .int .i64 0, .int .i64 0, .int .i64 0, .int .i64 0, .int .i64 0, .int .i64 0, .int .i64 0, .int .i64 0, .int .i64 0, .int .i64 0, .int .i64 0, .int .i64 0, .int .i64 0, .int .i64 0, .int .i64 0, .int .i64 0, .int .i64 0, .int .i64 0, .int .i64 0, .int .i64 0, .int .i64 0, .int .i64 0, .int .i64 0, .int .i64 0] : Array Value).size by rw [ints_size, shp_len hskU.ok]; rfl)
    subst hga
    clear hpe hsk hgv hpl hps hplc hbit hgl hqe hskT hgvT hskU hUo hUc hql hqs hok' hs1 hco hx hm hcn hok
    go_wp2_with fail
    refine (cr wr).mono ?_
    rintro e w9 ⟨rfl, B9⟩
    have BX9 := hid ((bnext BW.out B9).alloc (bnext BW.out B9).size (.cells #[Value.int .i64 0, .int .i64 0, .int .i64 0, .int .i64 0, .int .i64 0, .int .i64 0, .int .i64 0, .int .i64 0, .int .i64 0, .int .i64 0, .int .i64 0, .int .i64 0, .int .i64 0, .int .i64 0, .int .i64 0, .int .i64 0, .int .i64 0, .int .i64 0, .int .i64 0, .int .i64 0, .int .i64 0, .int .i64 0, .int .i64 0, .int .i64 0, .int .i64 0, .int .i64 0, .int .i64 0, .int .i64 0, .int .i64 0, .int .i64 0, .int .i64 0, .int .i64 0, .int .i64 0, .int .i64 0, .int .i64 0, .int .i64 0, .int .i64 0, .int .i64 0, .int .i64 0, .int .i64 0, .int .i64 0] 49))
    have BB9 := hid ((bnext B.out B9).alloc (bnext B.out B9).size (.cells #[Value.int .i64 0, .int .i64 0, .int .i64 0, .int .i64 0, .int .i64 0, .int .i64 0, .int .i64 0, .int .i64 0, .int .i64 0, .int .i64 0, .int .i64 0, .int .i64 0, .int .i64 0, .int .i64 0, .int .i64 0, .int .i64 0, .int .i64 0, .int .i64 0, .int .i64 0, .int .i64 0, .int .i64 0, .int .i64 0, .int .i64 0, .int .i64 0, .int .i64 0, .int .i64 0, .int .i64 0, .int .i64 0, .int .i64 0, .int .i64 0, .int .i64 0, .int .i64 0, .int .i64 0, .int .i64 0, .int .i64 0, .int .i64 0, .int .i64 0, .int .i64 0, .int .i64 0, .int .i64 0, .int .i64 0] 49))
    have HX9 := hid (bnext BW.out B9).size
    have HB9 := hid (bnext B.out B9).size
    clear cr B9 cA
    go_wp2_with (first | (refine wpList_store_blk rfl 49 _ _ rfl w9.heap.size 49 #[Value.int .i64 0, .int .i64 0, .int .i64 0, .int .i64 0, .int .i64 0, .int .i64 0, .int .i64 0, .int .i64 0, .int .i64 0, .int .i64 0, .int .i64 0, .int .i64 0, .int .i64 0, .int .i64 0, .int .i64 0, .int .i64 0, .int .i64 0, .int .i64 0, .int .i64 0, .int .i64 0, .int .i64 0, .int .i64 0, .int .i64 0, .int .i64 0, .int .i64 0, .int .i64 0, .int .i64 0, .int .i64 0, .int .i64 0, .int .i64 0, .int .i64 0, .int .i64 0, .int .i64 0, .int .i64 0, .int .i64 0, .int .i64 0, .int .i64 0, .int .i64 0, .int .i64 0, .int .i64 0, .int .i64 0] (pkV i (S i)) rfl rfl (blk_new w9 _ _) HPW.out HPS.out (ints_one _) ?_; intro w10 n0 n1; have Q10 := hid n0; have BX10 := hid (below_grown BX9.out n1 BX9.out.size HX9.out); have BB10 := hid (below_grown BB9.out n1 BB9.out.size HB9.out); obtain ⟨gb, rfl, cB⟩ := CD.out w10 BX10.out; clear n0 n1 BX9 BB9 HX9 HB9))
    refine (crT w10).mono ?_
    rintro e w11 ⟨rfl, B11⟩
    have Q11 := hid (blk_alloc (blk_below Q10.out B11 (blk_lt Q10.out)) (.cells #[Value.int .i64 0, .int .i64 0, .int .i64 0, .int .i64 0, .int .i64 0, .int .i64 0, .int .i64 0, .int .i64 0, .int .i64 0, .int .i64 0, .int .i64 0, .int .i64 0, .int .i64 0, .int .i64 0, .int .i64 0, .int .i64 0, .int .i64 0, .int .i64 0, .int .i64 0, .int .i64 0, .int .i64 0, .int .i64 0, .int .i64 0, .int .i64 0, .int .i64 0, .int .i64 0, .int .i64 0, .int .i64 0, .int .i64 0, .int .i64 0, .int .i64 0, .int .i64 0, .int .i64 0, .int .i64 0, .int .i64 0, .int .i64 0, .int .i64 0, .int .i64 0, .int .i64 0, .int .i64 0, .int .i64 0] 49))
    have BX11 := hid ((bnext BX10.out B11).alloc (bnext BX10.out B11).size (.cells #[Value.int .i64 0, .int .i64 0, .int .i64 0, .int .i64 0, .int .i64 0, .int .i64 0, .int .i64 0, .int .i64 0, .int .i64 0, .int .i64 0, .int .i64 0, .int .i64 0, .int .i64 0, .int .i64 0, .int .i64 0, .int .i64 0, .int .i64 0, .int .i64 0, .int .i64 0, .int .i64 0, .int .i64 0, .int .i64 0, .int .i64 0, .int .i64 0, .int .i64 0, .int .i64 0, .int .i64 0, .int .i64 0, .int .i64 0, .int .i64 0, .int .i64 0, .int .i64 0, .int .i64 0, .int .i64 0, .int .i64 0, .int .i64 0, .int .i64 0, .int .i64 0, .int .i64 0, .int .i64 0, .int .i64 0] 49))
    have BB11 := hid ((bnext BB10.out B11).alloc (bnext BB10.out B11).size (.cells #[Value.int .i64 0, .int .i64 0, .int .i64 0, .int .i64 0, .int .i64 0, .int .i64 0, .int .i64 0, .int .i64 0, .int .i64 0, .int .i64 0, .int .i64 0, .int .i64 0, .int .i64 0, .int .i64 0, .int .i64 0, .int .i64 0, .int .i64 0, .int .i64 0, .int .i64 0, .int .i64 0, .int .i64 0, .int .i64 0, .int .i64 0, .int .i64 0, .int .i64 0, .int .i64 0, .int .i64 0, .int .i64 0, .int .i64 0, .int .i64 0, .int .i64 0, .int .i64 0, .int .i64 0, .int .i64 0, .int .i64 0, .int .i64 0, .int .i64 0, .int .i64 0, .int .i64 0, .int .i64 0, .int .i64 0] 49))
    have HX11 := hid (bnext BX10.out B11).size
    have HB11 := hid (bnext BB10.out B11).size
    have HQ11 := hid (show w9.heap.size < w11.heap.size from Nat.lt_of_lt_of_le (blk_lt Q10.out) B11.size)
    clear crT B11 cB CD Q10 BX10 BB10
    go_wp2_with (first | (refine wpList_store_blk rfl 49 _ _ rfl w11.heap.size 49 #[Value.int .i64 0, .int .i64 0, .int .i64 0, .int .i64 0, .int .i64 0, .int .i64 0, .int .i64 0, .int .i64 0, .int .i64 0, .int .i64 0, .int .i64 0, .int .i64 0, .int .i64 0, .int .i64 0, .int .i64 0, .int .i64 0, .int .i64 0, .int .i64 0, .int .i64 0, .int .i64 0, .int .i64 0, .int .i64 0, .int .i64 0, .int .i64 0, .int .i64 0, .int .i64 0, .int .i64 0, .int .i64 0, .int .i64 0, .int .i64 0, .int .i64 0, .int .i64 0, .int .i64 0, .int .i64 0, .int .i64 0, .int .i64 0, .int .i64 0, .int .i64 0, .int .i64 0, .int .i64 0, .int .i64 0] (pkV i (T i)) rfl rfl (blk_new w11 _ _) HTW.out HTS.out (ints_one _) ?_; intro w12 n0 n1; have T12 := hid n0; have Q12 := hid (blk_grown Q11.out n1 (fun e => by injection e with e; have := HQ11.out; omega)); have BX12 := hid (below_grown BX11.out n1 BX11.out.size HX11.out); have BB12 := hid (below_grown BB11.out n1 BB11.out.size HB11.out); have K12 := hid (blk_below K8.out BX12.out HGK.out); clear n0 n1 BX11 BB11 HX11 HB11 Q11) | (refine wpList_load_blk (by rfl) 23 _ rfl w.heap.size rfl 23 (bytesV kb) _ K12.out Tryz.underlying23 rfl HKS.out ?_))
    refine (cp.out w12 (signs_below HG.out BB12.out (signs_size HG.out))).mono ?_
    rintro e w13 ⟨rfl, B13⟩
    have Q13 := hid (blk_below Q12.out B13 (blk_lt Q12.out))
    have T13 := hid (blk_below T12.out B13 (blk_lt T12.out))
    have BX13 := hid (bnext BX12.out B13)
    have BB13 := hid (bnext BB12.out B13)
    have HQ13 := hid (blk_lt Q13.out)
    obtain ⟨gq, hgq⟩ : ∃ gq, gq = w9.heap.size := ⟨_, rfl⟩
    obtain ⟨gt, hgt⟩ : ∃ gt, gt = w11.heap.size := ⟨_, rfl⟩
    rw [← hgq] at Q13 HQ13
    rw [← hgt] at T13
    clear cp B13 Q12 T12 BX12 BB12 K12 HQ11
    go_upto_region 18 with (fail)
    rw [← hgq, ← hgt]
    clear hgq hgt
    go_cut [26, 27] from 102 to 112 (fun s26 s27 W => ∃ gk, s26 = .pointer (some ⟨gk, 0, none⟩) ∧ s27 = .bool ok ∧ Aside (Blk W gq 49 (pkV i (S i))) ∧ Aside (Blk W gk 47 (shV s1)) ∧ Aside (Below w.heap.size w W) ∧ Aside (Below w8.heap.size w8 W))
    case first =>
     have q0 := blk_drew Q13.out
     have t0 := blk_drew T13.out
     have b0 : Below w.heap.size w w13.drew := below_draws BB13.out 1
     have x0 : Below w8.heap.size w8 w13.drew := below_draws BX13.out 1
     have fac : ∀ {W : World}, Below w8.heap.size w8 W → Blk W gt 49 (pkV i (T i)) → Blk W w.heap.size 23 (bytesV kb) ∧ W.cell? ⟨gw, v, none⟩ = some (.bool bit) ∧ W.rangeAt gt 1 (shV (T i)).toList := fun hx ht => ⟨blk_below K8.out hx HGK.out, HBIT.out _ hx, pk_shape ht⟩
     clear Q13 T13 BB13 BX13
     refine plain_region (S := (fun L W => (L.getD 7 true = true ∨ (Blk W w.heap.size 23 (bytesV kb) ∧ W.cell? ⟨gw, v, none⟩ = some (.bool bit) ∧ W.rangeAt gt 1 (shV (T i)).toList)))) (by kernel_rfl) (Or.inr (fac x0 t0)) (fun hHeld => ?_)
     clear hHeld
     refine aB 0 7 rfl (fun _ _ h k => rL k h) (yields_blk (by rfl) 23 _ rfl w.heap.size rfl 23 (bytesV kb) _ (fun _ h => h.1) Tryz.underlying23 rfl HKS.out) (Or.inr (fac x0 t0)) ?_
     refine aW 1 (Or.inr (fac x0 t0)) ?_
     refine aW 2 (Or.inr (fac x0 t0)) ?_
     refine aW 3 (Or.inr (fac x0 t0)) ?_
     refine anyU_take (i := 4) (b := 7) (oi := ⟨_,_,_,_,_,_⟩) (ob := ⟨_,_,_,_,_,_⟩) (C := (fun W => Blk W w.heap.size 23 (bytesV kb) ∧ W.cell? ⟨gw, v, none⟩ = some (.bool bit) ∧ W.rangeAt gt 1 (shV (T i)).toList)) (v := ?_) rfl rfl (by kernel_rfl) (by kernel_rfl) (by kernel_rfl) (by kernel_rfl) (by kernel_rfl) (fun _ _ _ h => h) (fun L w => by simp only [gN 4 7]) (fun L V h k => k.resolve_left (by rw [h]; decide)) (Or.inl ⟨by rfl, ?_⟩) (Or.inr (fac x0 t0)) ?_
     rotate_left
     · intro W hSw
       have hc := hSw.2.1
       go_simp
       try with_reducible rfl
     try simp only [Act.put, tA, tB, tC]
     refine aW 5 (Or.inr (fac x0 t0)) ?_
     refine aB 6 7 rfl (fun _ _ h k => rL k h) (yieldsIf_load_mid (by rfl) 47 _ rfl gt 1 rfl _ _ (fun _ h => h.2.2) Tryz.underlying47 rfl HTL.out) (Or.inr (fac x0 t0)) ?_
     refine anyU_ready (rs := [7, 11]) (by kernel_rfl) (by simp) ?_
     refine readyU_cons (o := ⟨_,_,_,_,_,_⟩) rfl (fun K hK => ?_) (readyU_cons (o := ⟨_,_,_,_,_,_⟩) rfl (fun K hK => ?_) readyU_nil)
     focus
      go_simp
      refine (cm.out _ (signs_below HG.out b0 (signs_size HG.out))).mono ?_
      rintro e V ⟨rfl, BC⟩
      have qc := blk_below q0 BC (blk_lt q0)
      have bc := bnext b0 BC
      have xc := bnext x0 BC
      refine hK.out _ _ (Or.inl (by rfl)) (fun hHeld => ?_)
      clear hK K hHeld
      try simp only [Act.put, tA, tB, tC]
      refine aW 8 (Or.inl (by rfl)) ?_
      refine aW 9 (Or.inl (by rfl)) ?_
      refine aW 10 (Or.inl (by rfl)) ?_
      refine aR 11 (fun K hK => ?_)
      go_simp
      have qf := blk_alloc qc (.cells #[Value.int .i64 0, .int .i64 0, .int .i64 0, .int .i64 0, .int .i64 0, .int .i64 0, .int .i64 0, .int .i64 0, .int .i64 0, .int .i64 0, .int .i64 0, .int .i64 0, .int .i64 0, .int .i64 0, .int .i64 0, .int .i64 0, .int .i64 0, .int .i64 0, .int .i64 0, .int .i64 0, .int .i64 0, .int .i64 0, .int .i64 0, .int .i64 0, .int .i64 0, .int .i64 0, .int .i64 0, .int .i64 0, .int .i64 0, .int .i64 0, .int .i64 0, .int .i64 0, .int .i64 0, .int .i64 0, .int .i64 0, .int .i64 0, .int .i64 0, .int .i64 0, .int .i64 0, .int .i64 0] 47)
      have bf := bc.alloc bc.size (.cells #[Value.int .i64 0, .int .i64 0, .int .i64 0, .int .i64 0, .int .i64 0, .int .i64 0, .int .i64 0, .int .i64 0, .int .i64 0, .int .i64 0, .int .i64 0, .int .i64 0, .int .i64 0, .int .i64 0, .int .i64 0, .int .i64 0, .int .i64 0, .int .i64 0, .int .i64 0, .int .i64 0, .int .i64 0, .int .i64 0, .int .i64 0, .int .i64 0, .int .i64 0, .int .i64 0, .int .i64 0, .int .i64 0, .int .i64 0, .int .i64 0, .int .i64 0, .int .i64 0, .int .i64 0, .int .i64 0, .int .i64 0, .int .i64 0, .int .i64 0, .int .i64 0, .int .i64 0, .int .i64 0] 47)
      have xf := xc.alloc xc.size (.cells #[Value.int .i64 0, .int .i64 0, .int .i64 0, .int .i64 0, .int .i64 0, .int .i64 0, .int .i64 0, .int .i64 0, .int .i64 0, .int .i64 0, .int .i64 0, .int .i64 0, .int .i64 0, .int .i64 0, .int .i64 0, .int .i64 0, .int .i64 0, .int .i64 0, .int .i64 0, .int .i64 0, .int .i64 0, .int .i64 0, .int .i64 0, .int .i64 0, .int .i64 0, .int .i64 0, .int .i64 0, .int .i64 0, .int .i64 0, .int .i64 0, .int .i64 0, .int .i64 0, .int .i64 0, .int .i64 0, .int .i64 0, .int .i64 0, .int .i64 0, .int .i64 0, .int .i64 0, .int .i64 0] 47)
      have kf := blk_new V 47 #[Value.int .i64 0, .int .i64 0, .int .i64 0, .int .i64 0, .int .i64 0, .int .i64 0, .int .i64 0, .int .i64 0, .int .i64 0, .int .i64 0, .int .i64 0, .int .i64 0, .int .i64 0, .int .i64 0, .int .i64 0, .int .i64 0, .int .i64 0, .int .i64 0, .int .i64 0, .int .i64 0, .int .i64 0, .int .i64 0, .int .i64 0, .int .i64 0, .int .i64 0, .int .i64 0, .int .i64 0, .int .i64 0, .int .i64 0, .int .i64 0, .int .i64 0, .int .i64 0, .int .i64 0, .int .i64 0, .int .i64 0, .int .i64 0, .int .i64 0, .int .i64 0, .int .i64 0, .int .i64 0]
      have hl := BC.size
      refine hK.out _ _ (Or.inl (by rfl)) (fun hHeld => ?_)
      clear hK K hHeld
      try simp only [Act.put, tA, tB, tC]
      refine aR 12 (fun K hK => ?_)
      refine stepU_store_blk (by rfl) 47 _ _ rfl V.heap.size 47 #[Value.int .i64 0, .int .i64 0, .int .i64 0, .int .i64 0, .int .i64 0, .int .i64 0, .int .i64 0, .int .i64 0, .int .i64 0, .int .i64 0, .int .i64 0, .int .i64 0, .int .i64 0, .int .i64 0, .int .i64 0, .int .i64 0, .int .i64 0, .int .i64 0, .int .i64 0, .int .i64 0, .int .i64 0, .int .i64 0, .int .i64 0, .int .i64 0, .int .i64 0, .int .i64 0, .int .i64 0, .int .i64 0, .int .i64 0, .int .i64 0, .int .i64 0, .int .i64 0, .int .i64 0, .int .i64 0, .int .i64 0, .int .i64 0, .int .i64 0, .int .i64 0, .int .i64 0, .int .i64 0] (shV s1) rfl rfl kf HUW.out HUZ.out (ints_one s1.flat) ?_
      intro V2 n0 n1
      have qd := blk_grown qf n1 (fun e => by injection e with e; have := blk_lt q0; have := hl; omega)
      have bd := below_grown bf n1 bf.size (by have := b0.size; have := hl; omega)
      have xd := below_grown xf n1 xf.size (by have := x0.size; have := hl; omega)
      refine hK.out _ _ (Or.inl (by rfl)) (fun hHeld => ?_)
      clear hK K hHeld
      try simp only [Act.put]
      refine aW 13 (Or.inl (by rfl)) ?_
      refine anyU_done (by kernel_rfl) ?_ _
      go_wp2_with fail
      go_meet
      exact ⟨V.heap.size, rfl, rfl, qd, n0, bd, xd⟩
     focus
      go_simp
      have q1 := blk_alloc q0 (.cells #[Value.int .i64 0, .int .i64 0, .int .i64 0, .int .i64 0, .int .i64 0, .int .i64 0, .int .i64 0, .int .i64 0, .int .i64 0, .int .i64 0, .int .i64 0, .int .i64 0, .int .i64 0, .int .i64 0, .int .i64 0, .int .i64 0, .int .i64 0, .int .i64 0, .int .i64 0, .int .i64 0, .int .i64 0, .int .i64 0, .int .i64 0, .int .i64 0, .int .i64 0, .int .i64 0, .int .i64 0, .int .i64 0, .int .i64 0, .int .i64 0, .int .i64 0, .int .i64 0, .int .i64 0, .int .i64 0, .int .i64 0, .int .i64 0, .int .i64 0, .int .i64 0, .int .i64 0, .int .i64 0] 47)
      have b1 := b0.alloc b0.size (.cells #[Value.int .i64 0, .int .i64 0, .int .i64 0, .int .i64 0, .int .i64 0, .int .i64 0, .int .i64 0, .int .i64 0, .int .i64 0, .int .i64 0, .int .i64 0, .int .i64 0, .int .i64 0, .int .i64 0, .int .i64 0, .int .i64 0, .int .i64 0, .int .i64 0, .int .i64 0, .int .i64 0, .int .i64 0, .int .i64 0, .int .i64 0, .int .i64 0, .int .i64 0, .int .i64 0, .int .i64 0, .int .i64 0, .int .i64 0, .int .i64 0, .int .i64 0, .int .i64 0, .int .i64 0, .int .i64 0, .int .i64 0, .int .i64 0, .int .i64 0, .int .i64 0, .int .i64 0, .int .i64 0] 47)
      have x1 := x0.alloc x0.size (.cells #[Value.int .i64 0, .int .i64 0, .int .i64 0, .int .i64 0, .int .i64 0, .int .i64 0, .int .i64 0, .int .i64 0, .int .i64 0, .int .i64 0, .int .i64 0, .int .i64 0, .int .i64 0, .int .i64 0, .int .i64 0, .int .i64 0, .int .i64 0, .int .i64 0, .int .i64 0, .int .i64 0, .int .i64 0, .int .i64 0, .int .i64 0, .int .i64 0, .int .i64 0, .int .i64 0, .int .i64 0, .int .i64 0, .int .i64 0, .int .i64 0, .int .i64 0, .int .i64 0, .int .i64 0, .int .i64 0, .int .i64 0, .int .i64 0, .int .i64 0, .int .i64 0, .int .i64 0, .int .i64 0] 47)
      have k1 := blk_new w13.drew 47 #[Value.int .i64 0, .int .i64 0, .int .i64 0, .int .i64 0, .int .i64 0, .int .i64 0, .int .i64 0, .int .i64 0, .int .i64 0, .int .i64 0, .int .i64 0, .int .i64 0, .int .i64 0, .int .i64 0, .int .i64 0, .int .i64 0, .int .i64 0, .int .i64 0, .int .i64 0, .int .i64 0, .int .i64 0, .int .i64 0, .int .i64 0, .int .i64 0, .int .i64 0, .int .i64 0, .int .i64 0, .int .i64 0, .int .i64 0, .int .i64 0, .int .i64 0, .int .i64 0, .int .i64 0, .int .i64 0, .int .i64 0, .int .i64 0, .int .i64 0, .int .i64 0, .int .i64 0, .int .i64 0]
      have t1 := blk_alloc t0 (.cells #[Value.int .i64 0, .int .i64 0, .int .i64 0, .int .i64 0, .int .i64 0, .int .i64 0, .int .i64 0, .int .i64 0, .int .i64 0, .int .i64 0, .int .i64 0, .int .i64 0, .int .i64 0, .int .i64 0, .int .i64 0, .int .i64 0, .int .i64 0, .int .i64 0, .int .i64 0, .int .i64 0, .int .i64 0, .int .i64 0, .int .i64 0, .int .i64 0, .int .i64 0, .int .i64 0, .int .i64 0, .int .i64 0, .int .i64 0, .int .i64 0, .int .i64 0, .int .i64 0, .int .i64 0, .int .i64 0, .int .i64 0, .int .i64 0, .int .i64 0, .int .i64 0, .int .i64 0, .int .i64 0] 47)
      refine hK.out _ _ (Or.inr (fac x1 t1)) (fun hHeld => ?_)
      clear hK K hHeld
      try simp only [Act.put, tA, tB, tC]
      refine aR 7 (fun K hK => ?_)
      go_simp
      refine (cm.out _ (signs_below HG.out b1 (signs_size HG.out))).mono ?_
      rintro e V ⟨rfl, BC⟩
      have qc := blk_below q1 BC (blk_lt q1)
      have bc := bnext b1 BC
      have xc := bnext x1 BC
      have kc := blk_below k1 BC (blk_lt k1)
      have hl := Nat.le_refl w13.drew.heap.size
      refine hK.out _ _ (Or.inl (by rfl)) (fun hHeld => ?_)
      clear hK K hHeld
      try simp only [Act.put, tA, tB, tC]
      refine aW 8 (Or.inl (by rfl)) ?_
      refine aW 9 (Or.inl (by rfl)) ?_
      refine aW 10 (Or.inl (by rfl)) ?_
      refine aR 12 (fun K hK => ?_)
      refine stepU_store_blk (by rfl) 47 _ _ rfl w13.drew.heap.size 47 #[Value.int .i64 0, .int .i64 0, .int .i64 0, .int .i64 0, .int .i64 0, .int .i64 0, .int .i64 0, .int .i64 0, .int .i64 0, .int .i64 0, .int .i64 0, .int .i64 0, .int .i64 0, .int .i64 0, .int .i64 0, .int .i64 0, .int .i64 0, .int .i64 0, .int .i64 0, .int .i64 0, .int .i64 0, .int .i64 0, .int .i64 0, .int .i64 0, .int .i64 0, .int .i64 0, .int .i64 0, .int .i64 0, .int .i64 0, .int .i64 0, .int .i64 0, .int .i64 0, .int .i64 0, .int .i64 0, .int .i64 0, .int .i64 0, .int .i64 0, .int .i64 0, .int .i64 0, .int .i64 0] (shV s1) rfl rfl kc HUW.out HUZ.out (ints_one s1.flat) ?_
      intro V2 n0 n1
      have qd := blk_grown qc n1 (fun e => by injection e with e; have := blk_lt q0; have := hl; omega)
      have bd := below_grown bc n1 bc.size (by have := b0.size; have := hl; omega)
      have xd := below_grown xc n1 xc.size (by have := x0.size; have := hl; omega)
      refine hK.out _ _ (Or.inl (by rfl)) (fun hHeld => ?_)
      clear hK K hHeld
      try simp only [Act.put]
      refine aW 13 (Or.inl (by rfl)) ?_
      refine anyU_done (by kernel_rfl) ?_ _
      go_wp2_with fail
      go_meet
      exact ⟨w13.drew.heap.size, rfl, rfl, qd, n0, bd, xd⟩
    case rest =>
     obtain ⟨gk, rfl, rfl, Q, KB, BB, BX⟩ := hcut
     have K14 := hid (blk_below K8.out BX.out HGK.out)
     have PS14 := hid (pk_shape Q.out)
     go_wp2_with (first | (refine wpList_load_blk (by rfl) 23 _ rfl w.heap.size rfl 23 (bytesV kb) _ K14.out Tryz.underlying23 rfl HKS.out ?_) | (refine wpList_load_mid rfl 47 _ rfl gq 1 rfl _ _ PS14.out Tryz.underlying47 rfl HSL.out ?_))
     refine (cs.out _ (signs_below HG.out BB.out (signs_size HG.out))).mono ?_
     rintro e w15 ⟨rfl, B15⟩
     have Q15 := hid (blk_below Q.out B15 (blk_lt Q.out))
     have U15 := hid (blk_below KB.out B15 (blk_lt KB.out))
     have BX15 := hid (bnext BX.out B15)
     have BB15 := hid (bnext BB.out B15)
     clear cs B15 Q KB BB BX K14 PS14
     have hok := HOKi.out
     cases bit with
     | true =>
      have hsp2 : x = -1 ∨ x = 1 ∨ x = 0 := by omega
      rcases hsp2 with rfl | rfl | rfl
      · first | (replace hok : ok = false := hok) | (replace hok : ok = true := hok)
        subst hok
        go_wp2_with fail
        have kk := blk_below K8.out (below_draws BX15.out 1) HGK.out
        have ku := blk_drew U15.out
        have qz := blk_drew Q15.out
        have kp := pk_shape qz
        have xz : Below w8.heap.size w8 w15.drew := below_draws BX15.out 1
        have bz : Below w.heap.size w w15.drew := below_draws BB15.out 1
        have cb := HBIT.out _ xz
        refine plain_region (S := (fun L W => W.cell? ⟨gw, v, none⟩ = some (.bool true) ∧ (L.getD 23 true = true ∨ Blk W w.heap.size 23 (bytesV kb)) ∧ (L.getD 23 true = true ∨ Blk W gk 47 (shV s1)) ∧ (L.getD 28 true = true ∨ Blk W w.heap.size 23 (bytesV kb)) ∧ (L.getD 28 true = true ∨ W.rangeAt gq 1 (shV (S i)).toList))) (by kernel_rfl) (⟨cb, Or.inr kk, Or.inr ku, Or.inr kk, Or.inr kp⟩) (fun hHeld => ?_)
        clear hHeld
        refine aW 0 ⟨cb, Or.inr kk, Or.inr ku, Or.inr kk, Or.inr kp⟩ ?_
        refine aW 1 ⟨cb, Or.inr kk, Or.inr ku, Or.inr kk, Or.inr kp⟩ ?_
        refine aW 2 ⟨cb, Or.inr kk, Or.inr ku, Or.inr kk, Or.inr kp⟩ ?_
        refine aL 3 4 (fun _ _ _ k => k.1) ⟨cb, Or.inr kk, Or.inr ku, Or.inr kk, Or.inr kp⟩ ?_
        refine aW 4 ⟨cb, Or.inr kk, Or.inr ku, Or.inr kk, Or.inr kp⟩ ?_
        refine aW 5 ⟨cb, Or.inr kk, Or.inr ku, Or.inr kk, Or.inr kp⟩ ?_
        refine aW 6 ⟨cb, Or.inr kk, Or.inr ku, Or.inr kk, Or.inr kp⟩ ?_
        refine aW 7 ⟨cb, Or.inr kk, Or.inr ku, Or.inr kk, Or.inr kp⟩ ?_
        refine aW 8 ⟨cb, Or.inr kk, Or.inr ku, Or.inr kk, Or.inr kp⟩ ?_
        refine aS 9 ⟨cb, Or.inr kk, Or.inr ku, Or.inr kk, Or.inr kp⟩ ?_
        refine aS 10 ⟨cb, Or.inr kk, Or.inr ku, Or.inr kk, Or.inr kp⟩ ?_
        refine aS 11 ⟨cb, Or.inr kk, Or.inr ku, Or.inr kk, Or.inr kp⟩ ?_
        refine aS 12 ⟨cb, Or.inr kk, Or.inr ku, Or.inr kk, Or.inr kp⟩ ?_
        refine aS 13 ⟨cb, Or.inr kk, Or.inr ku, Or.inr kk, Or.inr kp⟩ ?_
        refine aS 14 ⟨cb, Or.inr kk, Or.inr ku, Or.inr kk, Or.inr kp⟩ ?_
        refine aS 15 ⟨cb, Or.inr kk, Or.inr ku, Or.inr kk, Or.inr kp⟩ ?_
        refine aS 16 ⟨cb, Or.inr kk, Or.inr ku, Or.inr kk, Or.inr kp⟩ ?_
        refine aW 17 ⟨cb, Or.inr kk, Or.inr ku, Or.inr kk, Or.inr kp⟩ ?_
        refine aW 18 ⟨cb, Or.inr kk, Or.inr ku, Or.inr kk, Or.inr kp⟩ ?_
        refine aW 19 ⟨cb, Or.inr kk, Or.inr ku, Or.inr kk, Or.inr kp⟩ ?_
        refine aB 20 23 rfl (fun _ _ h k => rL k.2.1 h) (yields_blk (by rfl) 23 _ rfl w.heap.size rfl 23 (bytesV kb) _ (fun _ h => h) Tryz.underlying23 rfl HKS.out) ⟨cb, Or.inr kk, Or.inr ku, Or.inr kk, Or.inr kp⟩ ?_
        refine aW 21 ⟨cb, Or.inr kk, Or.inr ku, Or.inr kk, Or.inr kp⟩ ?_
        refine aB 22 23 rfl (fun _ _ h k => rL k.2.2.1 h) (yields_blk (by rfl) 47 _ rfl gk rfl 47 (shV s1) _ (fun _ h => h) Tryz.underlying47 rfl HUZ.out) ⟨cb, Or.inr kk, Or.inr ku, Or.inr kk, Or.inr kp⟩ ?_
        refine aB 24 28 rfl (fun _ _ h k => rL k.2.2.2.1 h) (yields_blk (by rfl) 23 _ rfl w.heap.size rfl 23 (bytesV kb) _ (fun _ h => h) Tryz.underlying23 rfl HKS.out) ⟨cb, Or.inr kk, Or.inr ku, Or.inr kk, Or.inr kp⟩ ?_
        refine aW 25 ⟨cb, Or.inr kk, Or.inr ku, Or.inr kk, Or.inr kp⟩ ?_
        refine aW 26 ⟨cb, Or.inr kk, Or.inr ku, Or.inr kk, Or.inr kp⟩ ?_
        refine aB 27 28 rfl (fun _ _ h k => rL k.2.2.2.2 h) (yieldsIf_load_mid (by rfl) 47 _ rfl gq 1 rfl _ _ (fun _ h => h) Tryz.underlying47 rfl HSL.out) ⟨cb, Or.inr kk, Or.inr ku, Or.inr kk, Or.inr kp⟩ ?_
        refine aR 23 (fun K hK => ?_)
        go_simp
        refine (cc1.out _ (signs_below HG.out bz (signs_size HG.out))).mono ?_
        rintro e V1 ⟨rfl, BC⟩
        have xz := bnext xz BC
        have bz := bnext bz BC
        have kk := blk_below kk BC (blk_lt kk)
        have ku := blk_below ku BC (blk_lt ku)
        have qz := blk_below qz BC (blk_lt qz)
        have kp := pk_shape qz
        have cb := HBIT.out _ xz
        clear BC
        refine hK.out _ _ (⟨cb, Or.inl (by rfl), Or.inl (by rfl), Or.inr kk, Or.inr kp⟩) (fun hHeld => ?_)
        clear hK K
        try simp only [Act.put, tA, tB, tC]
        clear hHeld
        refine aR 28 (fun K hK => ?_)
        go_simp
        refine (cc2.out _ (signs_below HG.out bz (signs_size HG.out))).mono ?_
        rintro e V2 ⟨rfl, BC⟩
        have xz := bnext xz BC
        have bz := bnext bz BC
        have cb := HBIT.out _ xz
        clear BC
        refine hK.out _ _ (⟨cb, Or.inl (by rfl), Or.inl (by rfl), Or.inl (by rfl), Or.inl (by rfl)⟩) (fun hHeld => ?_)
        clear hK K
        try simp only [Act.put, tA, tB, tC]
        clear hHeld
        refine aW 29 ⟨cb, Or.inl (by rfl), Or.inl (by rfl), Or.inl (by rfl), Or.inl (by rfl)⟩ ?_
        refine aW 30 ⟨cb, Or.inl (by rfl), Or.inl (by rfl), Or.inl (by rfl), Or.inl (by rfl)⟩ ?_
        refine anyU_done (by kernel_rfl) ?_ _
        clear kk ku kp cb qz
        go_wp2_with fail
        go_roundg (N - (i + 1))
        case measure => omega
        case rel => exact ⟨i + 1, by omega, by omega, by go_num, by rw [HCNi.out]; rfl, bz, xz⟩
      all_goals
       first | (replace hok : ok = false := hok) | (replace hok : ok = true := hok)
       subst hok
       go_wp2_with fail
       have kk := blk_below K8.out (below_draws BX15.out 1) HGK.out
       have ku := blk_drew U15.out
       have qz := blk_drew Q15.out
       have kp := pk_shape qz
       have xz : Below w8.heap.size w8 w15.drew := below_draws BX15.out 1
       have bz : Below w.heap.size w w15.drew := below_draws BB15.out 1
       have cb := HBIT.out _ xz
       refine plain_region (S := (fun L W => W.cell? ⟨gw, v, none⟩ = some (.bool true) ∧ W.cell? ⟨gw, v, none⟩ = some (.bool true) ∧ (L.getD 23 true = true ∨ Blk W w.heap.size 23 (bytesV kb)) ∧ (L.getD 23 true = true ∨ Blk W gk 47 (shV s1)) ∧ (L.getD 28 true = true ∨ Blk W w.heap.size 23 (bytesV kb)) ∧ (L.getD 28 true = true ∨ W.rangeAt gq 1 (shV (S i)).toList))) (by kernel_rfl) (⟨cb, cb, Or.inr kk, Or.inr ku, Or.inr kk, Or.inr kp⟩) (fun hHeld => ?_)
       clear hHeld
       refine aW 0 ⟨cb, cb, Or.inr kk, Or.inr ku, Or.inr kk, Or.inr kp⟩ ?_
       refine aW 1 ⟨cb, cb, Or.inr kk, Or.inr ku, Or.inr kk, Or.inr kp⟩ ?_
       refine aW 2 ⟨cb, cb, Or.inr kk, Or.inr ku, Or.inr kk, Or.inr kp⟩ ?_
       refine aL 3 4 (fun _ _ _ k => k.1) ⟨cb, cb, Or.inr kk, Or.inr ku, Or.inr kk, Or.inr kp⟩ ?_
       refine aW 4 ⟨cb, cb, Or.inr kk, Or.inr ku, Or.inr kk, Or.inr kp⟩ ?_
       refine aW 5 ⟨cb, cb, Or.inr kk, Or.inr ku, Or.inr kk, Or.inr kp⟩ ?_
       refine aW 6 ⟨cb, cb, Or.inr kk, Or.inr ku, Or.inr kk, Or.inr kp⟩ ?_
       refine aW 7 ⟨cb, cb, Or.inr kk, Or.inr ku, Or.inr kk, Or.inr kp⟩ ?_
       refine aW 8 ⟨cb, cb, Or.inr kk, Or.inr ku, Or.inr kk, Or.inr kp⟩ ?_
       refine aW 9 ⟨cb, cb, Or.inr kk, Or.inr ku, Or.inr kk, Or.inr kp⟩ ?_
       refine aW 10 ⟨cb, cb, Or.inr kk, Or.inr ku, Or.inr kk, Or.inr kp⟩ ?_
       refine aL 11 12 (fun _ _ _ k => k.2.1) ⟨cb, cb, Or.inr kk, Or.inr ku, Or.inr kk, Or.inr kp⟩ ?_
       refine aW 12 ⟨cb, cb, Or.inr kk, Or.inr ku, Or.inr kk, Or.inr kp⟩ ?_
       refine aW 13 ⟨cb, cb, Or.inr kk, Or.inr ku, Or.inr kk, Or.inr kp⟩ ?_
       refine aS 14 ⟨cb, cb, Or.inr kk, Or.inr ku, Or.inr kk, Or.inr kp⟩ ?_
       refine aS 15 ⟨cb, cb, Or.inr kk, Or.inr ku, Or.inr kk, Or.inr kp⟩ ?_
       refine aW 16 ⟨cb, cb, Or.inr kk, Or.inr ku, Or.inr kk, Or.inr kp⟩ ?_
       refine aW 17 ⟨cb, cb, Or.inr kk, Or.inr ku, Or.inr kk, Or.inr kp⟩ ?_
       refine aW 18 ⟨cb, cb, Or.inr kk, Or.inr ku, Or.inr kk, Or.inr kp⟩ ?_
       refine aW 19 ⟨cb, cb, Or.inr kk, Or.inr ku, Or.inr kk, Or.inr kp⟩ ?_
       refine aB 20 23 rfl (fun _ _ h k => rL k.2.2.1 h) (yields_blk (by rfl) 23 _ rfl w.heap.size rfl 23 (bytesV kb) _ (fun _ h => h) Tryz.underlying23 rfl HKS.out) ⟨cb, cb, Or.inr kk, Or.inr ku, Or.inr kk, Or.inr kp⟩ ?_
       refine aW 21 ⟨cb, cb, Or.inr kk, Or.inr ku, Or.inr kk, Or.inr kp⟩ ?_
       refine aB 22 23 rfl (fun _ _ h k => rL k.2.2.2.1 h) (yields_blk (by rfl) 47 _ rfl gk rfl 47 (shV s1) _ (fun _ h => h) Tryz.underlying47 rfl HUZ.out) ⟨cb, cb, Or.inr kk, Or.inr ku, Or.inr kk, Or.inr kp⟩ ?_
       refine aB 24 28 rfl (fun _ _ h k => rL k.2.2.2.2.1 h) (yields_blk (by rfl) 23 _ rfl w.heap.size rfl 23 (bytesV kb) _ (fun _ h => h) Tryz.underlying23 rfl HKS.out) ⟨cb, cb, Or.inr kk, Or.inr ku, Or.inr kk, Or.inr kp⟩ ?_
       refine aW 25 ⟨cb, cb, Or.inr kk, Or.inr ku, Or.inr kk, Or.inr kp⟩ ?_
       refine aW 26 ⟨cb, cb, Or.inr kk, Or.inr ku, Or.inr kk, Or.inr kp⟩ ?_
       refine aB 27 28 rfl (fun _ _ h k => rL k.2.2.2.2.2 h) (yieldsIf_load_mid (by rfl) 47 _ rfl gq 1 rfl _ _ (fun _ h => h) Tryz.underlying47 rfl HSL.out) ⟨cb, cb, Or.inr kk, Or.inr ku, Or.inr kk, Or.inr kp⟩ ?_
       refine aR 23 (fun K hK => ?_)
       go_simp
       refine (cc1.out _ (signs_below HG.out bz (signs_size HG.out))).mono ?_
       rintro e V1 ⟨rfl, BC⟩
       have xz := bnext xz BC
       have bz := bnext bz BC
       have kk := blk_below kk BC (blk_lt kk)
       have ku := blk_below ku BC (blk_lt ku)
       have qz := blk_below qz BC (blk_lt qz)
       have kp := pk_shape qz
       have cb := HBIT.out _ xz
       clear BC
       refine hK.out _ _ (⟨cb, cb, Or.inl (by rfl), Or.inl (by rfl), Or.inr kk, Or.inr kp⟩) (fun hHeld => ?_)
       clear hK K
       try simp only [Act.put, tA, tB, tC]
       clear hHeld
       refine aR 28 (fun K hK => ?_)
       go_simp
       refine (cc2.out _ (signs_below HG.out bz (signs_size HG.out))).mono ?_
       rintro e V2 ⟨rfl, BC⟩
       have xz := bnext xz BC
       have bz := bnext bz BC
       have cb := HBIT.out _ xz
       clear BC
       refine hK.out _ _ (⟨cb, cb, Or.inl (by rfl), Or.inl (by rfl), Or.inl (by rfl), Or.inl (by rfl)⟩) (fun hHeld => ?_)
       clear hK K
       try simp only [Act.put, tA, tB, tC]
       clear hHeld
       refine aW 29 ⟨cb, cb, Or.inl (by rfl), Or.inl (by rfl), Or.inl (by rfl), Or.inl (by rfl)⟩ ?_
       refine aW 30 ⟨cb, cb, Or.inl (by rfl), Or.inl (by rfl), Or.inl (by rfl), Or.inl (by rfl)⟩ ?_
       refine anyU_done (by kernel_rfl) ?_ _
       clear kk ku kp cb qz
       go_wp2_with fail
       go_roundg (N - (i + 1))
       case measure => omega
       case rel => exact ⟨i + 1, by omega, by omega, by go_num, by rw [HCNi.out]; rfl, bz, xz⟩
     | false =>
      rcases hsp with rfl | rfl | rfl
      all_goals
       first | (replace hok : ok = false := hok) | (replace hok : ok = true := hok)
       subst hok
       go_wp2_with fail
       have kk := blk_below K8.out (below_draws BX15.out 1) HGK.out
       have ku := blk_drew U15.out
       have qz := blk_drew Q15.out
       have kp := pk_shape qz
       have xz : Below w8.heap.size w8 w15.drew := below_draws BX15.out 1
       have bz : Below w.heap.size w w15.drew := below_draws BB15.out 1
       have cb := HBIT.out _ xz
       refine plain_region (S := (fun L W => W.cell? ⟨gw, v, none⟩ = some (.bool false) ∧ W.cell? ⟨gw, v, none⟩ = some (.bool false) ∧ (L.getD 23 true = true ∨ Blk W w.heap.size 23 (bytesV kb)) ∧ (L.getD 23 true = true ∨ Blk W gk 47 (shV s1)) ∧ (L.getD 28 true = true ∨ Blk W w.heap.size 23 (bytesV kb)) ∧ (L.getD 28 true = true ∨ W.rangeAt gq 1 (shV (S i)).toList))) (by kernel_rfl) (⟨cb, cb, Or.inr kk, Or.inr ku, Or.inr kk, Or.inr kp⟩) (fun hHeld => ?_)
       clear hHeld
       refine aW 0 ⟨cb, cb, Or.inr kk, Or.inr ku, Or.inr kk, Or.inr kp⟩ ?_
       refine aW 1 ⟨cb, cb, Or.inr kk, Or.inr ku, Or.inr kk, Or.inr kp⟩ ?_
       refine aW 2 ⟨cb, cb, Or.inr kk, Or.inr ku, Or.inr kk, Or.inr kp⟩ ?_
       refine aL 3 4 (fun _ _ _ k => k.1) ⟨cb, cb, Or.inr kk, Or.inr ku, Or.inr kk, Or.inr kp⟩ ?_
       refine aW 4 ⟨cb, cb, Or.inr kk, Or.inr ku, Or.inr kk, Or.inr kp⟩ ?_
       refine aS 5 ⟨cb, cb, Or.inr kk, Or.inr ku, Or.inr kk, Or.inr kp⟩ ?_
       refine aS 6 ⟨cb, cb, Or.inr kk, Or.inr ku, Or.inr kk, Or.inr kp⟩ ?_
       refine aW 7 ⟨cb, cb, Or.inr kk, Or.inr ku, Or.inr kk, Or.inr kp⟩ ?_
       refine aW 8 ⟨cb, cb, Or.inr kk, Or.inr ku, Or.inr kk, Or.inr kp⟩ ?_
       refine aW 9 ⟨cb, cb, Or.inr kk, Or.inr ku, Or.inr kk, Or.inr kp⟩ ?_
       refine aW 10 ⟨cb, cb, Or.inr kk, Or.inr ku, Or.inr kk, Or.inr kp⟩ ?_
       refine aL 11 12 (fun _ _ _ k => k.2.1) ⟨cb, cb, Or.inr kk, Or.inr ku, Or.inr kk, Or.inr kp⟩ ?_
       refine aW 12 ⟨cb, cb, Or.inr kk, Or.inr ku, Or.inr kk, Or.inr kp⟩ ?_
       refine aW 13 ⟨cb, cb, Or.inr kk, Or.inr ku, Or.inr kk, Or.inr kp⟩ ?_
       refine aW 14 ⟨cb, cb, Or.inr kk, Or.inr ku, Or.inr kk, Or.inr kp⟩ ?_
       refine aW 15 ⟨cb, cb, Or.inr kk, Or.inr ku, Or.inr kk, Or.inr kp⟩ ?_
       refine aW 16 ⟨cb, cb, Or.inr kk, Or.inr ku, Or.inr kk, Or.inr kp⟩ ?_
       refine aW 17 ⟨cb, cb, Or.inr kk, Or.inr ku, Or.inr kk, Or.inr kp⟩ ?_
       refine aW 18 ⟨cb, cb, Or.inr kk, Or.inr ku, Or.inr kk, Or.inr kp⟩ ?_
       refine aW 19 ⟨cb, cb, Or.inr kk, Or.inr ku, Or.inr kk, Or.inr kp⟩ ?_
       refine aB 20 23 rfl (fun _ _ h k => rL k.2.2.1 h) (yields_blk (by rfl) 23 _ rfl w.heap.size rfl 23 (bytesV kb) _ (fun _ h => h) Tryz.underlying23 rfl HKS.out) ⟨cb, cb, Or.inr kk, Or.inr ku, Or.inr kk, Or.inr kp⟩ ?_
       refine aW 21 ⟨cb, cb, Or.inr kk, Or.inr ku, Or.inr kk, Or.inr kp⟩ ?_
       refine aB 22 23 rfl (fun _ _ h k => rL k.2.2.2.1 h) (yields_blk (by rfl) 47 _ rfl gk rfl 47 (shV s1) _ (fun _ h => h) Tryz.underlying47 rfl HUZ.out) ⟨cb, cb, Or.inr kk, Or.inr ku, Or.inr kk, Or.inr kp⟩ ?_
       refine aB 24 28 rfl (fun _ _ h k => rL k.2.2.2.2.1 h) (yields_blk (by rfl) 23 _ rfl w.heap.size rfl 23 (bytesV kb) _ (fun _ h => h) Tryz.underlying23 rfl HKS.out) ⟨cb, cb, Or.inr kk, Or.inr ku, Or.inr kk, Or.inr kp⟩ ?_
       refine aW 25 ⟨cb, cb, Or.inr kk, Or.inr ku, Or.inr kk, Or.inr kp⟩ ?_
       refine aW 26 ⟨cb, cb, Or.inr kk, Or.inr ku, Or.inr kk, Or.inr kp⟩ ?_
       refine aB 27 28 rfl (fun _ _ h k => rL k.2.2.2.2.2 h) (yieldsIf_load_mid (by rfl) 47 _ rfl gq 1 rfl _ _ (fun _ h => h) Tryz.underlying47 rfl HSL.out) ⟨cb, cb, Or.inr kk, Or.inr ku, Or.inr kk, Or.inr kp⟩ ?_
       refine aR 23 (fun K hK => ?_)
       go_simp
       refine (cc1.out _ (signs_below HG.out bz (signs_size HG.out))).mono ?_
       rintro e V1 ⟨rfl, BC⟩
       have xz := bnext xz BC
       have bz := bnext bz BC
       have kk := blk_below kk BC (blk_lt kk)
       have ku := blk_below ku BC (blk_lt ku)
       have qz := blk_below qz BC (blk_lt qz)
       have kp := pk_shape qz
       have cb := HBIT.out _ xz
       clear BC
       refine hK.out _ _ (⟨cb, cb, Or.inl (by rfl), Or.inl (by rfl), Or.inr kk, Or.inr kp⟩) (fun hHeld => ?_)
       clear hK K
       try simp only [Act.put, tA, tB, tC]
       clear hHeld
       refine aR 28 (fun K hK => ?_)
       go_simp
       refine (cc2.out _ (signs_below HG.out bz (signs_size HG.out))).mono ?_
       rintro e V2 ⟨rfl, BC⟩
       have xz := bnext xz BC
       have bz := bnext bz BC
       have cb := HBIT.out _ xz
       clear BC
       refine hK.out _ _ (⟨cb, cb, Or.inl (by rfl), Or.inl (by rfl), Or.inl (by rfl), Or.inl (by rfl)⟩) (fun hHeld => ?_)
       clear hK K
       try simp only [Act.put, tA, tB, tC]
       clear hHeld
       refine aW 29 ⟨cb, cb, Or.inl (by rfl), Or.inl (by rfl), Or.inl (by rfl), Or.inl (by rfl)⟩ ?_
       refine aW 30 ⟨cb, cb, Or.inl (by rfl), Or.inl (by rfl), Or.inl (by rfl), Or.inl (by rfl)⟩ ?_
       refine anyU_done (by kernel_rfl) ?_ _
       clear kk ku kp cb qz
       go_wp2_with fail
       go_roundg (N - (i + 1))
       case measure => omega
       case rel => exact ⟨i + 1, by omega, by omega, by go_num, by rw [HCNi.out]; rfl, bz, xz⟩
  · obtain rfl : N = i := by omega
    have S9 := hid (blk_below S8.out BW.out HGS.out)
    go_wp2_with (first | (refine wpList_load_blk (by rfl) 28 _ rfl gs rfl 28 (setV kb sz ch) _ S9.out Tryz.underlying28 rfl HZ.out ?_))
    refine (HCA.out wr (strC_below A8.out BW.out) (signs_below HG.out B.out (signs_size HG.out))).mono ?_
    rintro e w9 ⟨rfl, B9⟩
    have BE := hid (bnext B.out B9)
    generalize cntB (okB kb bw S) N = m at *
    go_wp2_with fail
    go_ret
    exact ⟨rfl, BE.out⟩
end Go.Proofs.YtiigipnfnfpepaaGreatDoor
namespace Go.Proofs.YtiigipnfnfpepaaGreatDoor
open Go.ChangeShapes Go.WideShapes Go.ChangeAt Go.RowKit

theorem wf_ints {zs : List Int} (h : ∀ z ∈ zs, (Lit.int .i64 z).wf = true) : ∀ z ∈ zs, -9223372036854775808 ≤ z ∧ z ≤ 9223372036854775807 := fun z hz => by
 have := h z hz
 simp [Lit.wf, IntKind.min, IntKind.max, IntKind.signed, IntKind.bits] at this
 omega
theorem gSigns : Tryz.prog.globalNamed "belfry/sip.signs" = some 0 := by kernel_rfl
theorem tSigns : (Tryz.prog.globals[0]?).map (·.type) = some 165 := by kernel_rfl
theorem cSigns : Tryz.prog.cellsOf 58 = 1 := by kernel_rfl
theorem c4Signs : Tryz.prog.cellsOf 165 = 4 := by kernel_rfl

theorem signs_of_laid {W : World} (h : laidMetH Tryz.prog [("belfry/sip.signs", Rows.laid_belfry_sip_signs)] W) : Signs W := by
 rw [MakeChecks.laidMetH_plain _ _ _ (by kernel_rfl)] at h
 obtain ⟨ps, ⟨g0, t0, cs0, f0, p0, q0, hg0, ht0, hv0, hd0, _, _⟩, _, _⟩ := h
 obtain rfl := Option.some.inj (gSigns.symm.trans hg0)
 obtain rfl := Option.some.inj (tSigns.symm.trans ht0)
 obtain ⟨xs, m1, rfl, hx1, hl, hn4, hel⟩ := DataW.trod_array Tryz.underlying165 hd0
 simp only [Prod.mk.injEq, Rows.laid_belfry_sip_signs, DataW.agg.injEq] at hx1
 have key : ∀ j (hj : j < 4) z, (xs.map (·.1))[j]? = some (.lit (.int .u64 z)) → W.cell? ⟨0, j, none⟩ = some (.int .u64 z) := fun j hj z hz => by
  have h0 := hel j hj
  rw [List.getElem?_eq_getElem (by omega)] at h0
  obtain ⟨z2, e1, e2, _⟩ := DataW.trod_int Tryz.underlying58 h0
  rw [List.getElem?_map, List.getElem?_eq_getElem (by omega), Option.map_some, Option.some.injEq, e2] at hz
  simp only [DataW.lit.injEq, Lit.int.injEq, true_and] at hz
  rw [cSigns, Nat.mul_one] at e1
  have h3 := congrArg (fun l : List Value => l[0]?) e1
  simp only [List.getElem?_take, List.getElem?_drop, Nat.add_zero, List.getElem?_cons_zero, Nat.lt_one_iff, if_true, Array.getElem?_toList] at h3
  have h4 := World.var?_cell hg0 hv0 j
  rw [h4, h3, hz]
 rw [← hx1.1] at key
 exact ⟨key 0 (by decide) _ rfl, key 1 (by decide) _ rfl, key 2 (by decide) _ rfl, key 3 (by decide) _ rfl⟩
end Go.Proofs.YtiigipnfnfpepaaGreatDoor
