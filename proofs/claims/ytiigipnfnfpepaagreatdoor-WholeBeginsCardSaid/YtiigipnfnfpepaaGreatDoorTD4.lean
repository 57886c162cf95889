/- The walk of WholeBegins. WholeBegins: what the row's list gives; what comes in. -/
import Derived.Test.YtiigipnfnfpepaaGreatDoorTD3
import Derived.Test.YtiigipnfnfpepaaGreatDoorRows
import Derived.ProofKit
import Derived.LaidMore
import Derived.OpenShut
import Derived.Test.YtiigipnfnfpepaaGreatDoorTA
namespace Go.Proofs.YtiigipnfnfpepaaGreatDoor
open Go.RowKit
attribute [local go_sem ↓] Go.wp_at_zero Go.wp_at_succ

set_option maxRecDepth 20000 in
set_option maxHeartbeats 4000000 in
theorem begins_walk (kb : List UInt8) (x8 y8 : Nat) (pay : Int) (a0 : Option Addr) (n0 c0 : Nat) (zs0 : List Int) (a1 : Option Addr) (n1 c1 : Nat) (zs1 : List Int) (cut : Nat) (w : World) (hk : kb.length = 16) (hx8 : x8 < 256) (hy8 : y8 < 256)
 (l0 : zs0.length = n0) (m0 : n0 ≤ maxLen) (h0 : SlA w a0 zs0) (w0 : ∀ z ∈ zs0, -9223372036854775808 ≤ z ∧ z ≤ 9223372036854775807)
 (l1 : zs1.length = n1) (m1 : n1 ≤ maxLen) (h1 : SlA w a1 zs1) (w1 : ∀ z ∈ zs1, -9223372036854775808 ≤ z ∧ z ≤ 9223372036854775807) (hcut : cut < 65536) (hG : Signs w) :
 Calls Tryz.prog 3 #[.agg (bytesV kb), .int .u8 x8, .int .u8 y8, .int .i64 pay, .slice a0 n0 c0, .slice a1 n1 c1, .int .u16 cut] w (LawTrue w) := by
 obtain ⟨sz, hsz⟩ : ∃ sz, sz = 12 + x8 % 13 := ⟨_, rfl⟩
 obtain ⟨ch, hch⟩ : ∃ ch, ch = 1 + y8 % 2 := ⟨_, rfl⟩
 have hset : SetOk kb sz ch := ⟨hk, by omega, by omega, by omega⟩
 have c26 := fun W => set26_calls kb x8 y8 W hk hx8 hy8
 rw [← hsz, ← hch] at c26
 have HSET := hid hset
 have HS0 := hid (soundL_snd hset.c zs0)
 have HS1 := hid (soundL_snd hset.c zs1)
 have cs0 := hid (fun W (hW : SlA W a0 zs0) => sound26_calls ch a0 n0 c0 zs0 W hset.c l0 m0 hW w0)
 have cs1 := hid (fun W (hW : SlA W a1 zs1) => sound26_calls ch a1 n1 c1 zs1 W hset.c l1 m1 hW w1)
 obtain ⟨x, hx⟩ : ∃ x, x = soundL ch zs0 := ⟨_, rfl⟩
 obtain ⟨z, hz⟩ : ∃ z, z = soundL ch zs1 := ⟨_, rfl⟩
 rw [← hx] at cs0 HS0
 rw [← hz] at cs1 HS1
 obtain ⟨nx, hnx⟩ : ∃ nx, nx = x.length := ⟨_, rfl⟩
 obtain ⟨nz, hnz⟩ : ∃ nz, nz = z.length := ⟨_, rfl⟩
 rw [← hnx] at cs0
 rw [← hnz] at cs1
 have hnx4 : nx ≤ 400 := by have := HS0.out.1; omega
 have hnz4 : nz ≤ 400 := by have := HS1.out.1; omega
 obtain ⟨r, hr1, hr2⟩ : ∃ r : Nat, (cut : Int) % ((nx : Int) + 1) = r ∧ r ≤ nx := ⟨cut % (nx + 1), by push_cast; rfl, by have := Nat.mod_lt cut (show 0 < nx + 1 by omega); omega⟩
 obtain ⟨q, hq1, hq2⟩ : ∃ q : Nat, (r : Int) / 2 = q ∧ 2 * q ≤ r := ⟨r / 2, by omega, by omega⟩
 have HNX := hid hnx
 have HNZ := hid hnz
 have H0 := hid h0
 have H1 := hid h1
 have HG := hid hG
 have HK := hid hk
 have HKS := hid (key_size hk)
 have HZ := hid (set_size kb sz ch hk)
 have HZS := hid (show (setV kb sz ch).size = ZS.size by rw [setV, Array.size_append, bytesV_size, hk]; rfl)
 have HZO := hid (show (setV kb sz ch).all (·.oneCell') = true by rw [setV, Array.all_append, bytesV_one]; simp [Value.oneCell'])
 have B0 := hid ((Below.refl w.heap.size w).alloc (Nat.le_refl _) (.cells (bytesV kb) 23))
 have K0 := hid (blk_new w 23 (bytesV kb))
 clear hnx hnz hset hsz hch hx hz h0 h1 hG hk hx8 hy8 l0 l1 m0 m1 w0 w1
 go_enter Tryz.func3, Tryz.ntmps3
 go_wp2_with fail
 refine (goes_calls _).mono ?_
 rintro e w1 ⟨rfl, B⟩
 have K1 := hid (blk_below K0.out B (blk_lt K0.out))
 have B1 := hid (bnext B0.out B)
 clear K0 B0 B
 go_wp2_with (first | (refine wpList_load_blk (by rfl) 23 _ rfl w.heap.size rfl 23 (bytesV kb) _ K1.out Tryz.underlying23 rfl HKS.out ?_))
 refine (c26 _).mono ?_
 rintro e w2 ⟨rfl, B⟩
 have B2 := hid ((bnext B1.out B).alloc (bnext B1.out B).size (.cells ZS 28))
 have HLE := hid (bnext B1.out B).size
 clear B K1 B1 c26
 go_wp2_with (first | (refine wpList_store_blk rfl 28 _ _ rfl w2.heap.size 28 ZS (setV kb sz ch) rfl rfl (blk_new w2 _ _) HZS.out HZ.out HZO.out ?_; intro w3 n0 n1; have S3 := hid n0; have B3 := hid (below_grown B2.out n1 B2.out.size HLE.out); have c3 := set_ch S3.out HK.out; clear n0 n1 B2))
 generalize w2.heap.size = gs at *
 refine (cs0.out w3 (slA_below H0.out B3.out)).mono ?_
 rintro e w4 ⟨ax, cx, rfl, X4, B⟩
 have S4 := hid (blk_below S3.out B (blk_lt S3.out))
 have X4 := hid X4
 have B4 := hid (bnext B3.out B)
 clear B S3 B3 c3 cs0 H0
 have hcx := X4.out.lo
 have hcx2 := X4.out.hi
 have hcut0 : (0 : Int) ≤ cut := by omega
 have hcut1 : (cut : Int) < 65536 := by omega
 have hnx0 : (0 : Int) ≤ nx := by omega
 have hnx1 : (nx : Int) ≤ 400 := by omega
 have hr0 : (0 : Int) ≤ r := by omega
 have hr3 : (r : Int) ≤ 400 := by omega
 have hq0 : (0 : Int) ≤ q := by omega
 have hq3 : (q : Int) ≤ 200 := by omega
 have hcxz : 2 * (q : Int) ≤ cx := by omega
 go_wp2_with fail
 obtain ⟨k, hk2⟩ : ∃ k : Nat, (q : Int) * 2 = k := ⟨q * 2, by omega⟩
 rw [hk2]
 have hkx : k ≤ nx := by omega
 have HKE := hid (show k % 2 = 0 by omega)
 have hk0 : (0 : Int) ≤ k := by omega
 have hkx1 : (k : Int) ≤ nx := by omega
 have hkcx : (k : Int) ≤ cx := by omega
 clear hq0 hq1 hq2 hq3 hr0 hr1 hr2 hr3 hcxz hk2 hcut0 hcut1 hcut
 have HGS := hid (blk_lt S4.out)
 have XK := hid (slC_take X4.out hkx)
 have BD := hid (below_draws (Below.refl w4.heap.size w4) 1)
 have BA := hid (BD.out.alloc BD.out.size (.cells #[] 3))
 have HE := World.ownsRow_lit (e := 3) (size := 1) (base := w4.heap.size) w4.drew #[] 0 (Nat.le_refl _) (by unfold maxLen; omega) rfl
 have hkl : (x.take k).length = k := XK.out.len
 obtain ⟨v5, w5, hr5, hO5, hG5⟩ := run_append_src2 (w4.drew.alloc (.cells #[] 3)) w4.heap.size _ 0 [] HE (.slice ax k cx) (x.take k) (slC_src (slC_below XK.out BA.out)) (by omega) BA.out.size
 rw [List.nil_append, Nat.zero_add, hkl] at hO5
 have HR5 := hid hr5
 have O5 := hid hO5
 have B5 := hid (BA.out.grown hG5 BA.out.size (fun k e => by cases e; exact Nat.le_refl _))
 have HKL := hid hkl
 clear HE hr5 hO5 hG5 hkl
 have c7 : w4.drew.cell? ⟨gs, 17, none⟩ = some (.int .i64 ch) := set_ch (blk_below S4.out BD.out HGS.out) HK.out
 refine plain_region (S := (fun L W => (L.getD 8 true = true ∨ W.cell? ⟨gs, 17, none⟩ = some (.int .i64 ch)))) (by kernel_rfl) (Or.inr c7) (fun hHeld => ?_)
 clear hHeld
 refine anyU_w (i := 1) (oi := ⟨_,_,_,_,_,_⟩) (v := ?_) rfl (by kernel_rfl) (fun L w => by simp only [gN 1 8]) (by rfl) ?_ (Or.inr c7) ?_; rotate_left; · intro W hSw; go_simp; try with_reducible rfl
 try simp only [Act.put, tA, tB, tC]
 refine anyU_w (i := 2) (oi := ⟨_,_,_,_,_,_⟩) (v := ?_) rfl (by kernel_rfl) (fun L w => by simp only [gN 2 8]) (by rfl) ?_ (Or.inr c7) ?_; rotate_left; · intro W hSw; go_simp; try with_reducible rfl
 try simp only [Act.put, tA, tB, tC]
 refine anyU_w (i := 3) (oi := ⟨_,_,_,_,_,_⟩) (v := ?_) rfl (by kernel_rfl) (fun L w => by simp only [gN 3 8]) (by rfl) ?_ (Or.inr c7) ?_; rotate_left; · intro W hSw; go_simp; try with_reducible rfl
 try simp only [Act.put, tA, tB, tC]
 refine anyU_w (i := 5) (oi := ⟨_,_,_,_,_,_⟩) (v := ?_) rfl (by kernel_rfl) (fun L w => by simp only [gN 5 8]) (by rfl) ?_ (Or.inr c7) ?_; rotate_left; · intro W hSw; go_simp; try with_reducible rfl
 try simp only [Act.put, tA, tB, tC]
 refine anyU_w (i := 6) (oi := ⟨_,_,_,_,_,_⟩) (v := ?_) rfl (by kernel_rfl) (fun L w => by simp only [gN 6 8]) (by rfl) ?_ (Or.inr c7) ?_; rotate_left; · intro W hSw; go_simp; try with_reducible rfl
 try simp only [Act.put, tA, tB, tC]
 refine anyU_tb (i := 7) (b := 8) (oi := ⟨_,_,_,_,_,_⟩) (ob := ⟨_,_,_,_,_,_⟩) (C := (fun W => W.cell? ⟨gs, 17, none⟩ = some (.int .i64 ch))) (v := ?_) rfl rfl (by kernel_rfl) (fun L w => by simp only [gN 7 8]) (fun L V h k => (k).resolve_left (by rw [h]; decide)) (Or.inl ⟨by rfl, ?_⟩) (Or.inr c7) ?_; rotate_left; · intro W hSw; go_simp; try with_reducible rfl
 try simp only [Act.put, tA, tB, tC]
 refine anyU_ready (rs := [0]) (by kernel_rfl) (by simp) ?_
 refine readyU_cons (o := ⟨_,_,_,_,_,_⟩) rfl (fun K hK => ?_) readyU_nil
 go_simp
 have c7 : (w4.drew.alloc (.cells #[] 3)).cell? ⟨gs, 17, none⟩ = some (.int .i64 ch) := set_ch (blk_below S4.out BA.out HGS.out) HK.out
 refine hK.out _ _ (Or.inr c7) (fun hHeld => ?_)
 clear hK K
 try simp only [Act.put, tA, tB, tC]
 clear hHeld
 refine anyU_ready (rs := [4]) (by kernel_rfl) (by simp) ?_
 refine readyU_cons (o := ⟨_,_,_,_,_,_⟩) rfl (fun K hK => ?_) readyU_nil
 refine stepU_append (by rfl) _ _ _ _ rfl _ _ rfl rfl v5 w5 HR5.out ?_
 have c7 : w5.cell? ⟨gs, 17, none⟩ = some (.int .i64 ch) := set_ch (blk_below S4.out B5.out HGS.out) HK.out
 refine hK.out _ _ (Or.inr c7) (fun hHeld => ?_)
 clear hK K
 try simp only [Act.put, tA, tB, tC]
 clear hHeld
 refine anyU_ready (rs := [8]) (by kernel_rfl) (by simp) ?_
 refine readyU_cons (o := ⟨_,_,_,_,_,_⟩) rfl (fun K hK => ?_) readyU_nil
 go_simp
 refine (cs1.out w5 (slA_below H1.out (bnext B4.out B5.out))).mono ?_
 rintro e w6 ⟨az, cz, rfl, Z6, B6⟩
 have Z6' := hid Z6
 have B6' := hid B6
 obtain ⟨v7, w7, hr7, hO7, hG7⟩ := run_append_src2 w6 w4.heap.size v5 k (x.take k) (owns_below O5.out B6 (Nat.le_refl _)) (.slice az nz cz) z (slC_src Z6) (by rw [← HNZ.out]; omega) (Nat.le_trans B5.out.size B6.size)
 have HR7 := hid hr7
 have O7 := hid hO7
 have B7 := hid ((bnext B5.out B6).grown hG7 (bnext B5.out B6).size (owns_ge O5.out))
 clear hr7 hO7 hG7 c7
 refine hK.out _ _ (Or.inl (by rfl)) (fun hHeld => ?_)
 clear hK K
 try simp only [Act.put, tA, tB, tC]
 clear hHeld
 refine anyU_ready (rs := [9]) (by kernel_rfl) (by simp) ?_
 refine readyU_cons (o := ⟨_,_,_,_,_,_⟩) rfl (fun K hK => ?_) readyU_nil
 refine stepU_append (by rfl) _ _ _ _ rfl _ _ rfl rfl v7 w7 HR7.out ?_
 refine hK.out _ _ (Or.inl (by rfl)) (fun hHeld => ?_)
 clear hK K
 try simp only [Act.put, tA, tB, tC]
 clear hHeld
 refine anyU_w (i := 10) (oi := ⟨_,_,_,_,_,_⟩) (v := ?_) rfl (by kernel_rfl) (fun L w => by simp only [gN 10 8]) (by rfl) ?_ (Or.inl (by rfl)) ?_; rotate_left; · intro W hSw; go_simp; try with_reducible rfl
 try simp only [Act.put, tA, tB, tC]
 refine anyU_done (by kernel_rfl) ?_ _
 have hO7 := O7.out
 rw [← HNZ.out] at hO7
 obtain ⟨ay, cy, rfl, hY7⟩ := slC_row hO7
 have hyg : ∀ q, q < k → x.getD q 0 = (x.take k ++ z).getD q 0 := fun q hq => by
  rw [List.getD_eq_getElem?_getD (l := x.take k ++ z), List.getElem?_append_left (by rw [HKL.out]; exact hq), List.getElem?_take_of_lt hq, List.getD_eq_getElem?_getD]
 have HYG := hid hyg
 have HSY := hid (show Snd ch (x.take k ++ z) from ⟨by rw [List.length_append, HKL.out, ← HNZ.out]; omega, by
  have h1 := HS1.out.2.mod
  have h2 := HKE.out
  rw [List.length_append, HKL.out, ← HNZ.out]
  rw [← HNZ.out] at h1
  rcases HSET.out.c with rfl | rfl <;> omega, fun v hv => by
  rcases List.mem_append.1 hv with hv | hv
  · exact HS0.out.2.le v (List.mem_of_mem_take hv)
  · exact HS1.out.2.le v hv⟩)
 obtain ⟨y, hy⟩ : ∃ y, y = x.take k ++ z := ⟨_, rfl⟩
 rw [← hy] at hY7 HYG HSY
 obtain ⟨ny, hny⟩ : ∃ ny, ny = k + nz := ⟨_, rfl⟩
 rw [← hny] at hY7
 have hkny := hid (show k ≤ ny by omega)
 rw [← hny]
 have Y7 := hid hY7
 have X7 := hid (slC_below X4.out B7.out)
 have S7 := hid (blk_below S4.out B7.out HGS.out)
 have BB7 := hid (bnext B4.out B7.out)
 have c17 := set_ch S7.out HK.out
 clear hO7 hY7 hyg hy hny O7 B7 HR7 B6 B6' Z6 Z6' HR5 O5 B5 BA BD XK X4 S4 B4 c7 cs1 H1 hkcx hcx hcx2 HKL
 go_wp2_with (first | (refine wpList_load_blk (by rfl) 28 _ rfl gs rfl 28 (setV kb sz ch) _ S7.out Tryz.underlying28 rfl HZ.out ?_))
 have hpi := pay_in pay
 generalize bits BinOp.and IntKind.i64 pay 281474976710655 = pm at *
 have HPI := hid hpi
 clear hpi
 refine (send_calls kb sz ch pm ax nx cx x w7 HSET.out HPI.out.1 HPI.out.2 X7.out.len X7.out.sl X7.out.nil X7.out.lo X7.out.hi HS0.out.2 (signs_below HG.out BB7.out (signs_size HG.out))).mono ?_
 rintro e w8 ⟨v8, rfl, O8, B⟩
 obtain ⟨aa, ca, rfl, hA⟩ := strC_row O8
 have A8 := hid hA
 have Y8 := hid (slC_below Y7.out B)
 have S8 := hid (blk_below S7.out B (blk_lt S7.out))
 have B8 := hid (bnext BB7.out B)
 clear O8 hA B X7 Y7 S7 BB7 c17
 go_wp2_with (first | (refine wpList_load_blk (by rfl) 28 _ rfl gs rfl 28 (setV kb sz ch) _ S8.out Tryz.underlying28 rfl HZ.out ?_))
 refine (send_calls kb sz ch pm ay ny cy y w8 HSET.out HPI.out.1 HPI.out.2 Y8.out.len Y8.out.sl Y8.out.nil Y8.out.lo Y8.out.hi HSY.out (signs_below HG.out B8.out (signs_size HG.out))).mono ?_
 rintro e w9 ⟨v9, rfl, O9, B⟩
 obtain ⟨ab, cb, rfl, hB⟩ := strC_row O9
 have D9 := hid hB
 have A9 := hid (strC_below A8.out B)
 have S9 := hid (blk_below S8.out B (blk_lt S8.out))
 have B9 := hid (bnext B8.out B)
 have HN := hid (fun i h1 h2 h3 => packets_near (kb := kb) (sz := sz) (pay := pm) (i := i) HSET.out.c (show k ≤ x.length by rw [← HNX.out]; exact hkx) (show k ≤ y.length by rw [Y8.out.len]; exact hkny.out) HYG.out h1 h2 h3)
 obtain ⟨P, hP⟩ : ∃ P, P = packetsL kb sz ch pm x := ⟨_, rfl⟩
 obtain ⟨R, hR⟩ : ∃ R, R = packetsL kb sz ch pm y := ⟨_, rfl⟩
 have hpa : P.length ≤ 4096 := by rw [hP, packetsL, pktsL_len, frL_len HSET.out.c]; exact cntN_le HSET.out.c (by have := HS0.out.1; omega)
 have hla := A9.out.len
 have hlb := D9.out.len
 have haca := A9.out.lo
 have hbcb := D9.out.lo
 have haca2 := A9.out.hi
 have hbcb2 := D9.out.hi
 rw [← hP] at A9 HN haca ⊢
 rw [← hR] at D9 HN hbcb ⊢
 obtain ⟨na, hna⟩ : ∃ na, na = P.length := ⟨_, rfl⟩
 obtain ⟨nb, hnb⟩ : ∃ nb, nb = R.length := ⟨_, rfl⟩
 rw [← hna] at A9 HN haca hpa ⊢
 rw [← hnb] at D9 HN hbcb ⊢
 clear hla hlb hP hR hna hnb O9 hB B A8 S8 B8 Y8 HYG
 go_wp2_with fail
 have C9 := hid (set_ch S9.out HK.out)
 have hna1 : (na : Int) ≤ 4096 := by omega
 have hch1 : (1 : Int) ≤ ch := by rcases HSET.out.c with h | h <;> omega
 have hch2 : (ch : Int) ≤ 2 := by rcases HSET.out.c with h | h <;> omega
 obtain ⟨m, hm, hmk⟩ : ∃ m : Nat, (k : Int) / (ch : Int) = m ∧ k / ch = m := ⟨k / ch, by rcases HSET.out.c with h | h <;> subst h <;> omega, rfl⟩
 have hm4 : (m : Int) ≤ 400 := by rcases HSET.out.c with h | h <;> subst h <;> omega
 have hm0 : (0 : Int) ≤ m := by omega
 have HMK := hid hmk
 clear hmk
 go_loopg [23] na (fun gg s23 wr => ∃ i : Nat, i ≤ na ∧ na - i ≤ gg ∧ s23 = .int .i64 i ∧ Aside (Below w.heap.size w wr) ∧ Aside (Below w9.heap.size w9 wr))
 case atStart => exact ⟨0, Nat.zero_le _, by omega, rfl, B9.out, Below.refl _ _⟩
 case round =>
  obtain ⟨i, hi, hgi, rfl, B, BW⟩ := hrel
  have c17 := set_ch (blk_below S9.out BW.out (blk_lt S9.out)) HK.out
  have hi0 : (0 : Int) ≤ i := by omega
  have hi1 : (i : Int) ≤ 4096 := by omega
  obtain ⟨u, hu, huk⟩ : ∃ u : Nat, (i : Int) / (ch : Int) = u ∧ i / ch = u := ⟨i / ch, by rcases HSET.out.c with h | h <;> subst h <;> omega, rfl⟩
  have hu0 : (0 : Int) ≤ u := by omega
  have hu1 : (u : Int) ≤ 4096 := by rcases HSET.out.c with h | h <;> subst h <;> omega
  have HUK := hid huk
  clear huk
  by_cases h1 : i < na
  · have d1 : decide ((i : Int) < na) = true := by simpa using h1
    have e1 : decide (i < na) = true := by simpa using h1
    have z1 : (i : Int) < na := by omega
    by_cases h2 : i < nb
    · have d2 : decide ((i : Int) < nb) = true := by simpa using h2
      have e2 : decide (i < nb) = true := by simpa using h2
      have z2 : (i : Int) < nb := by omega
      by_cases h3 : 32 * u + 48 ≤ m
      · have d3 : decide (32 * (u : Int) + 48 ≤ m) = true := by simp; omega
        have z3 : 32 * (u : Int) + 48 ≤ m := by omega
        have HNi := HN.out i (by rw [HUK.out, HMK.out]; exact h3) h1 h2
        obtain ⟨ga, hga, hgl, cA⟩ := strC_at (strC_below A9.out BW.out) h1
        obtain ⟨gb, hgb, hgl2, cB⟩ := strC_at (strC_below D9.out BW.out) h2
        rw [HNi] at cA
        generalize R.getD i [] = pk at *
        have haca' : (na : Int) ≤ ca := by omega
        have hbcb' : (nb : Int) ≤ cb := by omega
        subst hga
        subst hgb
        clear h2 h3 HNi hgl hgl2
        go_wp2_with fail
        go_quiet (fail)
        clear c17
        go_wp2_with fail
        go_quiet (fail)
        clear cA cB
        go_wp2_with fail
        go_roundg (na - (i + 1))
        case measure => omega
        case rel => exact ⟨i + 1, by omega, by omega, by go_num, below_draws B.out _, below_draws BW.out _⟩
      · have d3 : decide (32 * (u : Int) + 48 ≤ m) = false := by simp; omega
        have z3 : ¬ 32 * (u : Int) + 48 ≤ m := by omega
        have z3' : (m : Int) < 32 * (u : Int) + 48 := by omega
        clear h2 h3
        go_wp2_with fail
        go_quiet (fail)
        have BB := hid (below_draws B.out nq)
        clear B BW
        go_wp2_with fail
        go_ret
        exact ⟨rfl, BB.out⟩
    · have d2 : decide ((i : Int) < nb) = false := by simpa using h2
      have e2 : decide (i < nb) = false := by simpa using h2
      have z2 : ¬ (i : Int) < nb := by omega
      have z2' : (nb : Int) ≤ i := by omega
      clear h2
      go_wp2_with fail
      go_quiet (fail)
      have BB := hid (below_draws B.out nq)
      clear B BW
      go_wp2_with fail
      go_ret
      exact ⟨rfl, BB.out⟩
  · have d1 : decide ((i : Int) < na) = false := by simpa using h1
    have e1 : decide (i < na) = false := by simpa using h1
    have z1 : ¬ (i : Int) < na := by omega
    have z1' : (na : Int) ≤ i := by omega
    go_wp2_with fail
    go_quiet (fail)
    have BB := hid (below_draws B.out nq)
    clear B BW
    go_wp2_with fail
    go_ret
    exact ⟨rfl, BB.out⟩
end Go.Proofs.YtiigipnfnfpepaaGreatDoor
namespace Go.Proofs.YtiigipnfnfpepaaGreatDoor
open Go.ChangeShapes Go.WideShapes Go.ChangeAt Go.RowKit

theorem wf_ints {zs : List Int} (h : ∀ z ∈ zs, (Lit.int .i64 z).wf = true) : ∀ z ∈ zs, -9223372036854775808 ≤ z ∧ z ≤ 9223372036854775807 := fun z hz => by
 have := h z hz
 simp [Lit.wf, IntKind.min, IntKind.max, IntKind.signed, IntKind.bits] at this
 omega
theorem gSigns : Tryz.prog.globalNamed "belfry/sip.signs" = some 0 := by kernel_rfl
theorem tSigns : (Tryz.prog.globals[0]?).map (·.type) = some 165 := by kernel_rfl
theorem cSigns : Tryz.prog.cellsOf 58 = 1 := by kernel_rfl
theorem c4Signs : Tryz.prog.cellsOf 165 = 4 := by kernel_rfl

theorem signs_of_laid {W : World} (h : laidMetH Tryz.prog [("belfry/sip.signs", Rows.laid_belfry_sip_signs)] W) : Signs W := by
 rw [MakeChecks.laidMetH_plain _ _ _ (by kernel_rfl)] at h
 obtain ⟨ps, ⟨g0, t0, cs0, f0, p0, q0, hg0, ht0, hv0, hd0, _, _⟩, _, _⟩ := h
 obtain rfl := Option.some.inj (gSigns.symm.trans hg0)
 obtain rfl := Option.some.inj (tSigns.symm.trans ht0)
 obtain ⟨xs, m1, rfl, hx1, hl, hn4, hel⟩ := DataW.trod_array Tryz.underlying165 hd0
 simp only [Prod.mk.injEq, Rows.laid_belfry_sip_signs, DataW.agg.injEq] at hx1
 have key : ∀ j (hj : j < 4) z, (xs.map (·.1))[j]? = some (.lit (.int .u64 z)) → W.cell? ⟨0, j, none⟩ = some (.int .u64 z) := fun j hj z hz => by
  have h0 := hel j hj
  rw [List.getElem?_eq_getElem (by omega)] at h0
  obtain ⟨z2, e1, e2, _⟩ := DataW.trod_int Tryz.underlying58 h0
  rw [List.getElem?_map, List.getElem?_eq_getElem (by omega), Option.map_some, Option.some.injEq, e2] at hz
  simp only [DataW.lit.injEq, Lit.int.injEq, true_and] at hz
  rw [cSigns, Nat.mul_one] at e1
  have h3 := congrArg (fun l : List Value => l[0]?) e1
  simp only [List.getElem?_take, List.getElem?_drop, Nat.add_zero, List.getElem?_cons_zero, Nat.lt_one_iff, if_true, Array.getElem?_toList] at h3
  have h4 := World.var?_cell hg0 hv0 j
  rw [h4, h3, hz]
 rw [← hx1.1] at key
 exact ⟨key 0 (by decide) _ rfl, key 1 (by decide) _ rfl, key 2 (by decide) _ rfl, key 3 (by decide) _ rfl⟩
end Go.Proofs.YtiigipnfnfpepaaGreatDoor
