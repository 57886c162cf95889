/- What was put in speaks (layers 18, 20; plain). A frame's correlation, and for which bit it speaks (layer 18): walked. Towers: Plain. Towers: Carriers. What is sent, packet for packet (plain). -/
import Derived.Test.YtiigipnfnfpepaaGreatDoorUK4
import Derived.Test.YtiigipnfnfpepaaGreatDoorUD2
import Derived.Test.YtiigipnfnfpepaaGreatDoorUD3
import Derived.Test.YtiigipnfnfpepaaGreatDoorUA
namespace Go.Proofs.YtiigipnfnfpepaaGreatDoor

def corrI (kb : List UInt8) (n : Nat) (s : Shp) : Int := sumC (s.ys.getD (bandI kb n).toNat []) (chipsL kb n) 4
def spkI (kb : List UInt8) (n : Nat) (s : Shp) : Int := if 2 ≤ corrI kb n s then 1 else if corrI kb n s ≤ -2 then -1 else 0
theorem sumC_neg (y c : List Int) : ∀ k, sumC y (negC c) k = - sumC y c k
 | 0 => rfl
 | k + 1 => by
  have e : (negC c).getD k 0 = - c.getD k 0 := by
   rw [negC, List.getD_eq_getElem?_getD, List.getD_eq_getElem?_getD, List.getElem?_map]
   cases c[k]? <;> simp
  rw [sumC, sumC, sumC_neg y c k, e, Int.neg_mul]
  omega
theorem lookS_speaks {y c : List Int} {m : Int} : ∀ (zs : List (List Int)) (st : List Int × Int), (0 ≤ st.2 → 2 ≤ sumC st.1 c 4) → 0 ≤ (lookS y c m st zs).2 → 2 ≤ sumC (lookS y c m st zs).1 c 4
 | [], _, h, h0 => h h0
 | z :: zs, st, h, h0 => by
  refine lookS_speaks zs (lookF y c m st z) (fun h1 => ?_) h0
  unfold lookF at h1 ⊢
  split
  · rename_i hc; exact hc.1
  · rename_i hc
    rw [if_neg hc] at h1
    exact h h1
theorem mputL_speaks {kb : List UInt8} {n : Nat} {bit : Bool} {s : Shp} (h : SK s) : (mputL kb n bit s).2 = decide (2 ≤ sumC ((mputL kb n bit s).1.ys.getD (bandI kb n).toNat []) (chipsB kb n bit) 4) := by
 have hb := bandI_in kb n
 unfold mputL
 dsimp only
 split
 · rfl
 · rename_i hc
   split
   · have : ¬ 2 ≤ sumC (s.ys.getD (bandI kb n).toNat []) (chipsB kb n bit) 4 := fun h => hc (Or.inl h)
     exact (decide_eq_false this).symm
   · rename_i h2
     have h3 := lookS_speaks (y := s.ys.getD (bandI kb n).toNat []) (c := chipsB kb n bit) (m := movesL s.sd (bandI kb n).toNat) (eachL (sumA (s.ys.getD (bandI kb n).toNat [])).toNat) ([0, 0, 0, 0], -1) (fun h => absurd h (by decide)) (by omega)
     rw [Shp.put]
     dsimp only
     rw [List.getD_eq_getElem?_getD, List.getElem?_set_self (by rw [h.ok.yl]; omega), Option.getD_some]
     exact (decide_eq_true h3).symm
theorem speaks_of {kb : List UInt8} {n : Nat} {bit : Bool} {t : Shp} : decide (2 ≤ sumC (t.ys.getD (bandI kb n).toNat []) (chipsB kb n bit) 4) = ((bit && decide (spkI kb n t = -1)) || (!bit && decide (spkI kb n t = 1))) := by
 unfold spkI corrI chipsB
 cases bit with
 | true =>
  simp only [if_true, sumC_neg, Bool.true_and, Bool.not_true, Bool.false_and, Bool.or_false]
  generalize sumC (t.ys.getD (bandI kb n).toNat []) (chipsL kb n) 4 = x
  by_cases h1 : 2 ≤ x
  · rw [if_pos h1]; simp; omega
  · rw [if_neg h1]
    by_cases h2 : x ≤ -2
    · rw [if_pos h2]; simp; omega
    · rw [if_neg h2]; simp; omega
 | false =>
  simp only [Bool.false_eq_true, if_false, Bool.false_and, Bool.not_false, Bool.true_and, Bool.false_or]
  generalize sumC (t.ys.getD (bandI kb n).toNat []) (chipsL kb n) 4 = x
  by_cases h1 : 2 ≤ x
  · rw [if_pos h1]; simp [h1]
  · rw [if_neg h1]
    by_cases h2 : x ≤ -2
    · rw [if_pos h2]; simp; omega
    · rw [if_neg h2]; simp; omega
theorem tstep_band {kb : List UInt8} {n o : Nat} {s : Shp} {x : List Int} (hx : (x.getD 0 0).toNat ≠ o) : (tstep kb n s x).ys.getD o [] = s.ys.getD o [] := by
 unfold tstep
 dsimp only
 split
 · rfl
 · rw [Shp.put]
   dsimp only
   rw [List.getD_eq_getElem?_getD, List.getElem?_set_ne hx, List.getD_eq_getElem?_getD]
theorem tfold_band {kb : List UInt8} {n o : Nat} : ∀ (xs : List (List Int)) (s : Shp), (∀ x ∈ xs, (x.getD 0 0).toNat ≠ o) → (xs.foldl (tstep kb n) s).ys.getD o [] = s.ys.getD o []
 | [], _, _ => rfl
 | x :: xs, s, h => by
  rw [List.foldl_cons, tfold_band xs _ (fun y hy => h y (List.mem_cons_of_mem _ hy)), tstep_band (h x List.mem_cons_self)]
theorem wish_band {o : Nat} {own back : Int} : ∀ x ∈ wishL o own back, (x.getD 0 0).toNat ≠ o := fun x hx => by
 obtain ⟨i, hi, rfl⟩ := List.mem_map.1 hx
 have hi6 := List.mem_range.1 hi
 have e : (wishAt o own back i).getD 0 0 = (bandsL o).getD i 0 := rfl
 rw [e, bandsL_get _ (by omega)]
 split <;> omega
theorem tputL_band {kb : List UInt8} {n : Nat} {s : Shp} {p : List UInt8} : (tputL kb n s p).ys.getD (bandI kb n).toNat [] = s.ys.getD (bandI kb n).toNat [] := by
 unfold tputL
 exact tfold_band _ s wish_band
theorem corr_tput {kb : List UInt8} {n : Nat} {s : Shp} {p : List UInt8} : corrI kb n (tputL kb n s p) = corrI kb n s := by unfold corrI; rw [tputL_band]
theorem sent_speaks {kb : List UInt8} {n : Nat} {bit : Bool} {s : Shp} {p : List UInt8} (h : SK s) : (mputL kb n bit s).2 = ((bit && decide (spkI kb n (tputL kb n (mputL kb n bit s).1 p) = -1)) || (!bit && decide (spkI kb n (tputL kb n (mputL kb n bit s).1 p) = 1))) := by
 rw [mputL_speaks h, speaks_of]
 unfold spkI
 rw [corr_tput]
end Go.Proofs.YtiigipnfnfpepaaGreatDoor
namespace Go.Proofs.YtiigipnfnfpepaaGreatDoor
open Go.RowKit

theorem corrI_in {kb : List UInt8} {n : Nat} {s : Shp} (h : SK s) : PIn (s.ys.getD (bandI kb n).toNat []) := by
 have hb := bandI_in kb n
 have h1 := shp_ylen h.ok (b := (bandI kb n).toNat) (by omega)
 have h2 := getD_all h.sum (i := (bandI kb n).toNat) (by rw [h.ok.yl]; omega) []
 exact sumA_pin h1 rfl h2

set_option maxRecDepth 20000 in
set_option maxHeartbeats 4000000 in
theorem corr_calls (kb : List UInt8) (n : Nat) (s : Shp) (w : World) (hk : kb.length = 16) (hn : n ≤ 1000000) (hS : Signs w) (h : SK s) :
 Calls Tryz.prog 15 #[.agg (bytesV kb), .int .i64 n, .agg (shV s)] w fun e w' => e = .returned (.int .i64 (corrI kb n s)) ∧ Below w.heap.size w w' := by
 have hb := bandI_in kb n
 obtain ⟨o, ho⟩ : ∃ o : Nat, bandI kb n = o := ⟨(bandI kb n).toNat, by omega⟩
 have hpin := corrI_in (kb := kb) (n := n) h
 have HCI := hid (show corrI kb n s = sumC (s.ys.getD o []) (chipsL kb n) 4 by rw [corrI, ho, Int.toNat_natCast])
 rw [ho, Int.toNat_natCast] at hpin
 have cb := hid (fun W hW => band_calls kb n W hk hn hW)
 rw [ho] at cb hb
 have cc := hid (fun W hW => chips_calls kb n W hk hn hW)
 obtain ⟨y, hy⟩ : ∃ y, y = s.ys.getD o [] := ⟨_, rfl⟩
 rw [← hy] at hpin HCI
 have hch := chipsL_in kb n
 have cs := hid (fun W => mSum_calls y (chipsL kb n) W hpin hch)
 rw [← HCI.out] at cs
 have ch := fun W => mHeld_calls s W (sk_in h)
 have HS := hid h
 have HY := hid hy
 have HKS := hid (key_size hk)
 have HSS := hid (shp_size h.ok)
 have hyl : y.length = 4 := by rw [hy]; exact shp_ylen h.ok (by omega)
 have HYP := hid (pul_size hyl)
 have ho8 : (o : Int) < 8 := by omega
 have ho0 : (0 : Int) ≤ o := by omega
 have HO := hid (show o < 8 by omega)
 have HG := hid hS
 let w1 := (w.alloc (.cells (bytesV kb) 23)).alloc (.cells (shV s) 47)
 have B1 : Hid (Below w.heap.size w w1) := hid (((Below.refl w.heap.size w).alloc (Nat.le_refl _) _).alloc (by simp) _)
 have K1 : Hid (Blk w1 w.heap.size 23 (bytesV kb)) := hid (blk_alloc (blk_new w 23 (bytesV kb)) _)
 have S1 : Hid (Blk w1 (w.heap.size + 1) 47 (shV s)) := hid (by
  have := blk_new (w.alloc (.cells (bytesV kb) 23)) 47 (shV s)
  rw [World.size_alloc] at this
  exact this)
 clear hpin hch hy hk hn hS h hb ho hyl
 go_enter Tryz.func15, Tryz.ntmps15
 go_wp2_with (first | (refine wpList_load_blk (by rfl) 47 _ rfl (w.heap.size + 1) rfl 47 (shV s) _ S1.out Tryz.underlying47 rfl HSS.out ?_))
 refine (ch _).mono ?_
 rintro e w2 ⟨rfl, B⟩
 have K2 := hid (blk_below K1.out B (blk_lt K1.out))
 have S2 := hid (blk_below S1.out B (blk_lt S1.out))
 have B2 := hid (bnext B1.out B)
 clear ch B K1 S1 B1
 go_wp2_with fail
 have Kd := hid (blk_drew K2.out)
 have Sd := hid (blk_drew S2.out)
 have Bd := hid (show Below w.heap.size w w2.drew from below_draws B2.out 1)
 have k0 := Kd.out
 have k6 := Kd.out
 have y5 : w2.drew.rangeAt (w.heap.size + 1) (8 + o * 4) (y.map (Value.int .i64)) := HY.out ▸ shp_range Sd.out HS.out.ok HO.out
 have cb2 := cb.out w2.drew (signs_below HG.out Bd.out (signs_size HG.out))
 refine plain_region (S := (fun L W => (L.getD 2 true = true ∨ Blk W w.heap.size 23 (bytesV kb)) ∧ (L.getD 9 true = true ∨ W.rangeAt (w.heap.size + 1) (8 + o * 4) (y.map (Value.int .i64))) ∧ (L.getD 8 true = true ∨ Blk W w.heap.size 23 (bytesV kb)))) (by kernel_rfl) (⟨Or.inr k0, Or.inr y5, Or.inr k6⟩) (fun hHeld => ?_)
 clear hHeld
 refine aB 0 2 rfl (fun _ _ h k => rL k.1 h) (yields_blk (by rfl) 23 _ rfl w.heap.size rfl 23 (bytesV kb) _ (fun _ h => h) Tryz.underlying23 rfl HKS.out) ⟨Or.inr k0, Or.inr y5, Or.inr k6⟩ ?_
 refine aW 1 ⟨Or.inr k0, Or.inr y5, Or.inr k6⟩ ?_
 refine aW 3 ⟨Or.inr k0, Or.inr y5, Or.inr k6⟩ ?_
 refine aB 6 8 rfl (fun _ _ h k => rL k.2.2 h) (yields_blk (by rfl) 23 _ rfl w.heap.size rfl 23 (bytesV kb) _ (fun _ h => h) Tryz.underlying23 rfl HKS.out) ⟨Or.inr k0, Or.inr y5, Or.inr k6⟩ ?_
 refine aW 7 ⟨Or.inr k0, Or.inr y5, Or.inr k6⟩ ?_
 refine aR 2 (fun K hK => ?_)
 go_simp
 refine cb2.mono ?_
 rintro e w3 ⟨rfl, B3⟩
 have BB3 := hid (bnext Bd.out B3)
 have k6 := blk_below Kd.out B3 (blk_lt Kd.out)
 have y5 : w3.rangeAt (w.heap.size + 1) (8 + o * 4) (y.map (Value.int .i64)) := HY.out ▸ shp_range (blk_below Sd.out B3 (blk_lt Sd.out)) HS.out.ok HO.out
 have S3 := hid (blk_below Sd.out B3 (blk_lt Sd.out))
 have cc3 := cc.out w3 (signs_below HG.out BB3.out (signs_size HG.out))
 clear B3 cb2 k0
 refine hK.out _ _ (⟨Or.inl (by rfl), Or.inr y5, Or.inr k6⟩) (fun hHeld => ?_)
 clear hK K
 try simp only [Act.put, tA, tB, tC]
 clear hHeld
 refine aW 4 ⟨Or.inl (by rfl), Or.inr y5, Or.inr k6⟩ ?_
 refine aB 5 9 rfl (fun _ _ h k => rL k.2.1 h) (yieldsIf_load_mid (by rfl) 44 _ rfl (w.heap.size + 1) (8 + o * 4) rfl _ _ (fun _ h => h) Tryz.underlying44 rfl HYP.out) ⟨Or.inl (by rfl), Or.inr y5, Or.inr k6⟩ ?_
 refine aR 8 (fun K hK => ?_)
 go_simp
 refine cc3.mono ?_
 rintro e w4 ⟨rfl, B4⟩
 have BB4 := hid (bnext BB3.out B4)
 have y5 : w4.rangeAt (w.heap.size + 1) (8 + o * 4) (y.map (Value.int .i64)) := HY.out ▸ shp_range (blk_below S3.out B4 (blk_lt S3.out)) HS.out.ok HO.out
 clear B4 cc3 k6
 refine hK.out _ _ (⟨Or.inl (by rfl), Or.inr y5, Or.inl (by rfl)⟩) (fun hHeld => ?_)
 clear hK K
 try simp only [Act.put, tA, tB, tC]
 clear hHeld
 refine aR 9 (fun K hK => ?_)
 go_simp
 refine (cs.out _).mono ?_
 rintro e w5 ⟨rfl, B5⟩
 have BB5 := hid (bnext BB4.out B5)
 clear B5 y5
 refine hK.out _ _ (⟨Or.inl (by rfl), Or.inl (by rfl), Or.inl (by rfl)⟩) (fun hHeld => ?_)
 clear hK K
 try simp only [Act.put, tA, tB, tC]
 clear hHeld
 refine aW 10 ⟨Or.inl (by rfl), Or.inl (by rfl), Or.inl (by rfl)⟩ ?_
 refine anyU_done (by kernel_rfl) ?_ _
 go_wp2_with fail
 go_ret
 exact ⟨rfl, BB5.out⟩

set_option maxRecDepth 20000 in
set_option maxHeartbeats 4000000 in
theorem speaks_calls (kb : List UInt8) (n : Nat) (s : Shp) (w : World) (hk : kb.length = 16) (hn : n ≤ 1000000) (hS : Signs w) (h : SK s) :
 Calls Tryz.prog 14 #[.agg (bytesV kb), .int .i64 n, .agg (shV s)] w fun e w' => e = .returned (.int .i64 (spkI kb n s)) ∧ Below w.heap.size w w' := by
 let w1 := (w.alloc (.cells (bytesV kb) 23)).alloc (.cells (shV s) 47)
 have B1 : Hid (Below w.heap.size w w1) := hid (((Below.refl w.heap.size w).alloc (Nat.le_refl _) _).alloc (by simp) _)
 have K1 : Hid (Blk w1 w.heap.size 23 (bytesV kb)) := hid (blk_alloc (blk_new w 23 (bytesV kb)) _)
 have S1 : Hid (Blk w1 (w.heap.size + 1) 47 (shV s)) := hid (by
  have := blk_new (w.alloc (.cells (bytesV kb) 23)) 47 (shV s)
  rw [World.size_alloc] at this
  exact this)
 have cc := corr_calls kb n s w1 hk hn (signs_below hS B1.out (signs_size hS)) h
 have HKS := hid (key_size hk)
 have HSS := hid (shp_size h.ok)
 have HE := hid (show spkI kb n s = if 2 ≤ corrI kb n s then 1 else if corrI kb n s ≤ -2 then -1 else 0 from rfl)
 obtain ⟨x, hx⟩ : ∃ x, x = corrI kb n s := ⟨_, rfl⟩
 obtain ⟨v, hv⟩ : ∃ v, v = spkI kb n s := ⟨_, rfl⟩
 rw [← hx] at cc HE
 rw [← hv] at HE ⊢
 clear hk hn hS h hx hv
 go_enter Tryz.func14, Tryz.ntmps14
 go_wp2_with (first | (refine wpList_load_blk (by rfl) 23 _ rfl w.heap.size rfl 23 (bytesV kb) _ K1.out Tryz.underlying23 rfl HKS.out ?_) | (refine wpList_load_blk (by rfl) 47 _ rfl (w.heap.size + 1) rfl 47 (shV s) _ S1.out Tryz.underlying47 rfl HSS.out ?_))
 refine cc.mono ?_
 rintro e w2 ⟨rfl, B⟩
 have B2 := hid (bnext B1.out B)
 clear cc B B1 K1 S1
 by_cases h1 : 2 ≤ x
 · go_wp2_with fail
   go_ret
   exact ⟨by rw [HE.out, if_pos h1]; rfl, B2.out⟩
 · by_cases h2 : x ≤ -2
   · go_wp2_with fail
     go_ret
     exact ⟨by rw [HE.out, if_neg (Int.not_le.2 (by omega)), if_pos (by omega)]; rfl, B2.out⟩
   · go_wp2_with fail
     go_ret
     exact ⟨by rw [HE.out, if_neg (Int.not_le.2 (by omega)), if_neg (Int.not_le.2 (by omega))]; rfl, B2.out⟩
end Go.Proofs.YtiigipnfnfpepaaGreatDoor
namespace Go.Proofs.YtiigipnfnfpepaaGreatDoor
open Go.RowKit

def plainD (_ : Nat) (s : Shp) (_ : List UInt8) : Shp := s
theorem plainD_does : Does plainD := fun _ s _ h => ⟨h, same_refl s⟩
theorem plainF_calls (n : Nat) (s : Shp) (p : List UInt8) (w : World) (h : SK s) :
 Calls Tryz.prog 22 #[.int .i64 n, .agg (shV s), .string (str p)] w fun e w' => e = .returned (.agg (shV (plainD n s p))) ∧ Below w.heap.size w w' := by
 have HSZ := hid (shp_size h.ok)
 have HSO := hid (show (shV s).size = (#[Value.int .i64 0, .int .i64 0, .int .i64 0, .int .i64 0, .int .i64 0, .int .i64 0, .int .i64 0, .int .i64 0, .int .i64 0, .int .i64 0, .int .i64 0, .int .i64 0, .int .i64 0, .int .i64 0, .int .i64 0, .int .i64 0, .int .i64 0, .int .i64 0, .int .i64 0, .int .i64 0, .int .i64 0, .int .i64 0, .int .i64 0, .int .i64 0, .int .i64 0, .int .i64 0, .int .i64 0, .int .i64 0, .int .i64 0, .int .i64 0, .int .i64 0, .int .i64 0, .int .i64 0, .int .i64 0, .int .i64 0, .int .i64 0, .int .i64 0, .int .i64 0, .int .i64 0, .int .i64 0] : Array Value).size by rw [ints_size, shp_len h.ok]; rfl)
 have BX := hid (((Below.refl w.heap.size w).alloc (Nat.le_refl _) (.cells (shV s) 47)).alloc (by simp) (.cells #[Value.int .i64 0, .int .i64 0, .int .i64 0, .int .i64 0, .int .i64 0, .int .i64 0, .int .i64 0, .int .i64 0, .int .i64 0, .int .i64 0, .int .i64 0, .int .i64 0, .int .i64 0, .int .i64 0, .int .i64 0, .int .i64 0, .int .i64 0, .int .i64 0, .int .i64 0, .int .i64 0, .int .i64 0, .int .i64 0, .int .i64 0, .int .i64 0, .int .i64 0, .int .i64 0, .int .i64 0, .int .i64 0, .int .i64 0, .int .i64 0, .int .i64 0, .int .i64 0, .int .i64 0, .int .i64 0, .int .i64 0, .int .i64 0, .int .i64 0, .int .i64 0, .int .i64 0, .int .i64 0] 47))
 have T1 := hid (blk_alloc (blk_new w 47 (shV s)) (.cells #[Value.int .i64 0, .int .i64 0, .int .i64 0, .int .i64 0, .int .i64 0, .int .i64 0, .int .i64 0, .int .i64 0, .int .i64 0, .int .i64 0, .int .i64 0, .int .i64 0, .int .i64 0, .int .i64 0, .int .i64 0, .int .i64 0, .int .i64 0, .int .i64 0, .int .i64 0, .int .i64 0, .int .i64 0, .int .i64 0, .int .i64 0, .int .i64 0, .int .i64 0, .int .i64 0, .int .i64 0, .int .i64 0, .int .i64 0, .int .i64 0, .int .i64 0, .int .i64 0, .int .i64 0, .int .i64 0, .int .i64 0, .int .i64 0, .int .i64 0, .int .i64 0, .int .i64 0, .int .i64 0] 47))
 have R1 := hid (show Blk ((w.alloc (.cells (shV s) 47)).alloc (.cells #[Value.int .i64 0, .int .i64 0, .int .i64 0, .int .i64 0, .int .i64 0, .int .i64 0, .int .i64 0, .int .i64 0, .int .i64 0, .int .i64 0, .int .i64 0, .int .i64 0, .int .i64 0, .int .i64 0, .int .i64 0, .int .i64 0, .int .i64 0, .int .i64 0, .int .i64 0, .int .i64 0, .int .i64 0, .int .i64 0, .int .i64 0, .int .i64 0, .int .i64 0, .int .i64 0, .int .i64 0, .int .i64 0, .int .i64 0, .int .i64 0, .int .i64 0, .int .i64 0, .int .i64 0, .int .i64 0, .int .i64 0, .int .i64 0, .int .i64 0, .int .i64 0, .int .i64 0, .int .i64 0] 47)) (w.heap.size + 1) 47 #[Value.int .i64 0, .int .i64 0, .int .i64 0, .int .i64 0, .int .i64 0, .int .i64 0, .int .i64 0, .int .i64 0, .int .i64 0, .int .i64 0, .int .i64 0, .int .i64 0, .int .i64 0, .int .i64 0, .int .i64 0, .int .i64 0, .int .i64 0, .int .i64 0, .int .i64 0, .int .i64 0, .int .i64 0, .int .i64 0, .int .i64 0, .int .i64 0, .int .i64 0, .int .i64 0, .int .i64 0, .int .i64 0, .int .i64 0, .int .i64 0, .int .i64 0, .int .i64 0, .int .i64 0, .int .i64 0, .int .i64 0, .int .i64 0, .int .i64 0, .int .i64 0, .int .i64 0, .int .i64 0] by
  have := blk_new (w.alloc (.cells (shV s) 47)) 47 #[Value.int .i64 0, .int .i64 0, .int .i64 0, .int .i64 0, .int .i64 0, .int .i64 0, .int .i64 0, .int .i64 0, .int .i64 0, .int .i64 0, .int .i64 0, .int .i64 0, .int .i64 0, .int .i64 0, .int .i64 0, .int .i64 0, .int .i64 0, .int .i64 0, .int .i64 0, .int .i64 0, .int .i64 0, .int .i64 0, .int .i64 0, .int .i64 0, .int .i64 0, .int .i64 0, .int .i64 0, .int .i64 0, .int .i64 0, .int .i64 0, .int .i64 0, .int .i64 0, .int .i64 0, .int .i64 0, .int .i64 0, .int .i64 0, .int .i64 0, .int .i64 0, .int .i64 0, .int .i64 0]
  rw [World.size_alloc] at this
  exact this)
 rw [show plainD n s p = s from rfl]
 clear h
 go_enter Tryz.func22, Tryz.ntmps22
 go_wp2_with (first | (refine wpList_load_blk (by rfl) 47 _ rfl w.heap.size rfl 47 (shV s) _ T1.out Tryz.underlying47 rfl HSZ.out ?_) | (refine wpList_store_blk rfl 47 _ _ rfl (w.heap.size + 1) 47 #[Value.int .i64 0, .int .i64 0, .int .i64 0, .int .i64 0, .int .i64 0, .int .i64 0, .int .i64 0, .int .i64 0, .int .i64 0, .int .i64 0, .int .i64 0, .int .i64 0, .int .i64 0, .int .i64 0, .int .i64 0, .int .i64 0, .int .i64 0, .int .i64 0, .int .i64 0, .int .i64 0, .int .i64 0, .int .i64 0, .int .i64 0, .int .i64 0, .int .i64 0, .int .i64 0, .int .i64 0, .int .i64 0, .int .i64 0, .int .i64 0, .int .i64 0, .int .i64 0, .int .i64 0, .int .i64 0, .int .i64 0, .int .i64 0, .int .i64 0, .int .i64 0, .int .i64 0, .int .i64 0] (shV s) rfl rfl R1.out HSO.out HSZ.out (ints_one s.flat) ?_; intro w6 n0 n1; have R6 := hid n0; have BX6 := hid (below_grown BX.out n1 BX.out.size (by omega)); clear n0 n1))
 exact bodyPost_ret (results_cell_row rfl _ _ (w.heap.size + 1) 47 (shV s) (0, 0) _ rfl R6.out Tryz.underlying47 rfl HSZ.out) rfl ⟨rfl, BX6.out⟩

def plainL (sz ch : Nat) (zs : List Int) : List (List UInt8) := pktsL plainD sz (frL ch zs) (frL ch zs).length
set_option maxRecDepth 20000 in
set_option maxHeartbeats 4000000 in
theorem plain_calls (kb : List UInt8) (sz ch : Nat) (a : Option Addr) (n c : Nat) (zs : List Int) (w : World) (h : SetOk kb sz ch) (hz : zs.length = n) (hs : SlA w a zs) (h0 : a = none → c = 0) (hc : n ≤ c) (hc2 : c ≤ 9223372036854775807) (hS : Snd ch zs) :
 Calls Tryz.prog 9 #[.agg (setV kb sz ch), .slice a n c] w fun e w' => ∃ v, e = .returned (.tuple #[v, .int .i64 0]) ∧ w'.ownsRow w.heap.size 9 1 v (plainL sz ch zs).length (strsV (plainL sz ch zs)) ∧ Below w.heap.size w w' := by
 rw [show (plainL sz ch zs).length = (frL ch zs).length from pktsL_len _ _ _ _]
 have HPE := hid (show plainL sz ch zs = pktsL plainD sz (frL ch zs) (frL ch zs).length from rfl)
 obtain ⟨pl, hpl⟩ : ∃ pl, pl = plainL sz ch zs := ⟨_, rfl⟩
 rw [← hpl] at HPE ⊢
 clear hpl
 have S1 := hid (blk_new w 28 (setV kb sz ch))
 have B1 := hid ((Below.refl w.heap.size w).alloc (Nat.le_refl _) (.cells (setV kb sz ch) 28))
 have HZ := hid (set_size kb sz ch h.k)
 have cs := sent_calls kb sz ch a n c zs 22 #[] plainD (w.alloc (.cells (setV kb sz ch) 28)) h hz (slA_below hs B1.out) h0 hc hc2 hS plainD_does
  (enters_at Tryz.func22 (by kernel_rfl) rfl)
  (fun V k s p hb hk hsk hp => plainF_calls k s p V hsk)
 clear hS hs hz h hc hc2 h0
 go_enter Tryz.func9, Tryz.ntmps9
 go_wp2_with (first | (refine wpList_load_blk (by rfl) 28 _ rfl w.heap.size rfl 28 (setV kb sz ch) _ S1.out Tryz.underlying28 rfl HZ.out ?_))
 refine cs.mono ?_
 rintro e w5 ⟨v, rfl, O, B⟩
 have O5 := hid (owns_base O (show w.heap.size ≤ (w.alloc (.cells (setV kb sz ch) 28)).heap.size from B1.out.size))
 have B5 := hid (bnext B1.out B)
 clear cs S1 B1 O B
 go_wp2_with fail
 go_ret2
 exact ⟨_, rfl, by rw [HPE.out]; exact O5.out, B5.out⟩
end Go.Proofs.YtiigipnfnfpepaaGreatDoor
namespace Go.Proofs.YtiigipnfnfpepaaGreatDoor
open Go.RowKit
attribute [local go_sem ↓] Go.wp_at_zero Go.wp_at_succ

def okB (kb : List UInt8) (bw : List Bool) (S : Nat → Shp) (i : Nat) : Bool :=
 (bw.getD (placeI kb i).toNat false && decide (spkI kb i (S i) = -1)) || (!bw.getD (placeI kb i).toNat false && decide (spkI kb i (S i) = 1))
def cntB (f : Nat → Bool) : Nat → Nat
 | 0 => 0
 | k + 1 => cntB f k + (if f k then 1 else 0)
theorem cntB_le (f : Nat → Bool) : ∀ k, cntB f k ≤ k
 | 0 => Nat.le_refl _
 | k + 1 => by have := cntB_le f k; rw [cntB]; split <;> omega
theorem spkI_is (kb : List UInt8) (n : Nat) (s : Shp) : spkI kb n s = 1 ∨ spkI kb n s = -1 ∨ spkI kb n s = 0 := by
 unfold spkI
 by_cases h1 : 2 ≤ corrI kb n s
 · rw [if_pos h1]; exact .inl rfl
 · rw [if_neg h1]
   by_cases h2 : corrI kb n s ≤ -2
   · rw [if_pos h2]; exact .inr (.inl rfl)
   · rw [if_neg h2]; exact .inr (.inr rfl)
def PkOk (sz : Nat) (S : Nat → Shp) (l : List (List UInt8)) : Prop := ∀ i, i < l.length → l.getD i [] = layL i (S i) sz ∧ SK (S i) ∧ Given (8 * (sz : Int) - 64) (S i)

set_option maxRecDepth 20000 in
set_option maxHeartbeats 8000000 in
theorem carriers_calls (kb : List UInt8) (sz ch : Nat) (pay : Int) (a : Option Addr) (N c : Nat) (l : List (List UInt8)) (S : Nat → Shp) (w : World) (h : SetOk kb sz ch) (hp0 : 0 ≤ pay) (hp1 : pay < 281474976710656) (hl : StrC w a N c l) (hN : N ≤ 4096) (hP : PkOk sz S l) (hG : Signs w) :
 Calls Tryz.prog 16 #[.agg (setV kb sz ch), .int .i64 pay, .slice a N c] w fun e w' => e = .returned (.int .i64 (cntB (okB kb (payW kb pay) S) N)) ∧ Below w.heap.size w w' := by
 have S1 := hid (blk_new w 28 (setV kb sz ch))
 have B1 := hid ((Below.refl w.heap.size w).alloc (Nat.le_refl _) (.cells (setV kb sz ch) 28))
 have HZ := hid (set_size kb sz ch h.k)
 have HK := hid h.k
 have HS := hid (And.intro h.lo h.hi)
 have HKL := hid (show (Tryz.prog.info? 23).map (·.size) = some (bytesV kb).toList.length by rw [Array.length_toList]; exact key_size h.k)
 have K1 := hid (set_key S1.out HK.out)
 have HG := hid hG
 have HLL := hid hl
 have HP := hid hP
 have ck := loadLay_calls kb pay (w.alloc (.cells (setV kb sz ch) 28)) h.k hp0 hp1 (signs_below hG B1.out (signs_size hG))
 have cm := hid (fun W => tMay_calls kb sz ch W h)
 have HBL := hid (payW_len kb pay)
 obtain ⟨bw, hbw⟩ : ∃ bw, bw = payW kb pay := ⟨_, rfl⟩
 rw [← hbw] at ck HBL ⊢
 have HWZ := hid (show (Tryz.prog.info? 38).map (·.size) = some (bools bw).size by rw [bools_size, HBL.out]; kernel_rfl)
 have HWS := hid (show (bools bw).size = Tryz.zeroCells38.size by rw [show Tryz.zeroCells38 = bools (wTo 0 0) by kernel_rfl, bools_size, bools_size, HBL.out, wTo_len])
 have hnc : (N : Int) ≤ c := by have := hl.lo; omega
 have hN4 : (N : Int) ≤ 4096 := by omega
 clear hbw h hl hP hG hN
 go_enter Tryz.func16, Tryz.ntmps16
 go_wp2_with (first | (refine wpList_load_mid rfl 23 _ rfl w.heap.size 0 rfl _ _ K1.out Tryz.underlying23 rfl HKL.out ?_))
 refine ck.mono ?_
 rintro e w2 ⟨rfl, B⟩
 have S2 := hid (blk_alloc (blk_below S1.out B (blk_lt S1.out)) (.cells Tryz.zeroCells38 38))
 have B2 := hid ((bnext B1.out B).alloc (bnext B1.out B).size (.cells Tryz.zeroCells38 38))
 have HLT := hid (show w.heap.size < w2.heap.size from Nat.lt_of_lt_of_le (blk_lt S1.out) B.size)
 clear ck S1 B1 B K1
 go_wp2_with (first | (refine wpList_store_blk rfl 38 _ _ rfl w2.heap.size 38 Tryz.zeroCells38 (bools bw) rfl rfl (blk_new w2 _ _) HWS.out HWZ.out (bools_one bw) ?_; intro w3 n0 n1; have W3 := hid n0; have S3 := hid (blk_grown S2.out n1 (fun e => by injection e with e; have := HLT.out; omega)); have B3 := hid (below_grown B2.out n1 B2.out.size (by have := HLT.out; omega)); clear n0 n1 S2 B2) | (refine wpList_load_blk (by rfl) 28 _ rfl w.heap.size rfl 28 (setV kb sz ch) _ S3.out Tryz.underlying28 rfl HZ.out ?_))
 refine (cm.out _).mono ?_
 rintro e w4 ⟨rfl, B⟩
 have S4 := hid (blk_below S3.out B (blk_lt S3.out))
 have W4 := hid (blk_below W3.out B (blk_lt W3.out))
 have B4 := hid (bnext B3.out B)
 have HGS := hid (blk_lt S4.out)
 have HGW := hid (blk_lt W4.out)
 clear S3 W3 B3 B cm
 obtain ⟨gw, hgw⟩ : ∃ gw, gw = w2.heap.size := ⟨_, rfl⟩
 rw [← hgw] at W4 HGW HLT
 go_wp2_with fail
 rw [← hgw]
 clear hgw
 go_loopg [9, 32] N (fun gg s9 s32 wr => ∃ i : Nat, i ≤ N ∧ N - i ≤ gg ∧ s32 = .int .i64 i ∧ s9 = .int .i64 (cntB (okB kb bw S) i) ∧ Aside (Below w.heap.size w wr) ∧ Aside (Below w4.heap.size w4 wr))
 case atStart => exact ⟨0, Nat.zero_le _, by omega, rfl, rfl, B4.out, Below.refl _ _⟩
 case round =>
  obtain ⟨i, hi, hgi, rfl, rfl, B, BW⟩ := hrel
  by_cases hlt : i < N
  · have hiz : (i : Int) < N := by omega
    have hi0 : (0 : Int) ≤ i := by omega
    have hi1 : (i : Int) ≤ 4096 := by omega
    obtain ⟨ga, hga, hgl, cA⟩ := strC_at (strC_below HLL.out B.out) hlt
    obtain ⟨hpe, hsk, hgv⟩ := HP.out i (by rw [HLL.out.len]; exact hlt)
    have hpl := layL_len (n := i) hsk hgv (by omega) HS.out.1
    rw [hpe] at cA
    have cr := fun W => read_calls i (S i) sz W (by omega) hsk HS.out.1 HS.out.2 hgv
    have hss := str_size (layL i (S i) sz)
    rw [hpl] at hss
    obtain ⟨ps, hps⟩ : ∃ ps, ps = str (layL i (S i) sz) := ⟨_, rfl⟩
    rw [← hps] at cA cr hss
    subst hga
    have cs := hid (fun W hW => speaks_calls kb i (S i) W HK.out (by omega) hW hsk)
    have cp := hid (fun W hW => place_calls kb i W HK.out (by omega) hW)
    have hsp := spkI_is kb i (S i)
    have hplc := placeI_in kb i
    have HCN := hid (show cntB (okB kb bw S) (i + 1) = cntB (okB kb bw S) i + (if okB kb bw S i then 1 else 0) from rfl)
    have HOK := hid (show okB kb bw S i = ((bw.getD (placeI kb i).toNat false && decide (spkI kb i (S i) = -1)) || (!bw.getD (placeI kb i).toNat false && decide (spkI kb i (S i) = 1))) from rfl)
    obtain ⟨x, hx⟩ : ∃ x, x = spkI kb i (S i) := ⟨_, rfl⟩
    obtain ⟨v, hv⟩ : ∃ v : Nat, placeI kb i = v := ⟨(placeI kb i).toNat, (Int.toNat_of_nonneg hplc.1).symm⟩
    rw [← hx] at cs hsp HOK
    clear hx
    rw [hv] at cp hplc HOK
    clear hv
    rw [Int.toNat_natCast] at HOK
    obtain ⟨bit, hbit⟩ : ∃ bit, bit = bw.getD v false := ⟨_, rfl⟩
    rw [← hbit] at HOK
    have HBIT := hid (show ∀ W, Blk W gw 38 (bools bw) → W.cell? ⟨gw, v, none⟩ = some (.bool bit) from fun W hb => by rw [blk_bool hb (by rw [HBL.out]; omega), hbit])
    have hv0 : (0 : Int) ≤ v := by omega
    have hv1 : (v : Int) < 127 := by omega
    obtain ⟨m, hm⟩ : ∃ m, m = cntB (okB kb bw S) i := ⟨_, rfl⟩
    have hcl : m ≤ i := by rw [hm]; exact cntB_le _ _
    rw [← hm] at HCN ⊢
    clear hm
    have hm0 : (0 : Int) ≤ m := by omega
    have hm1 : (m : Int) ≤ 4096 := by omega
    have HSO := hid hsk.ok
    have HPS := hid (pk_size hsk.ok i)
    have HPW := hid (show (pkV i (S i)).size = (#[Value.int .i64 0, .int .i64 0, .int .i64 0, .int .i64 0, .int .i64 0, .int .i64 0, .int .i64 0, .int .i64 0, .int .i64 0, .int .i64 0, .int .i64 0, .int .i64 0, .int .i64 0, .int .i64 0, .int .i64 0, .int .i64 0, .int .i64 0, .int .i64 0, .int .i64 0, .int .i64 0, .int .i64 0, .int .i64 0, .int .i64 0, .int .i64 0, .int .i64 0, .int .i64 0, .int .i64 0, .int .i64 0, .int .i64 0, .int .i64 0, .int .i64 0, .int .i64 0, .int .i64 0, .int .i64 0, .int .i64 0, .int .i64 0, .int .i64 0, .int .i64 0, .int .i64 0, .int .i64 0, .int .i64 0] : Array Value).size by rw [ints_size, List.length_cons, shp_len hsk.ok]; rfl)
    have HSL := hid (show (Tryz.prog.info? 47).map (·.size) = some (shV (S i)).toList.length by rw [Array.length_toList]; exact shp_size hsk.ok)
    clear hpe hsk hgv hpl hps hplc hbit hgl
    go_wp2_with fail
    refine (cr wr).mono ?_
    rintro e w5 ⟨rfl, B5⟩
    have BX5 := hid ((bnext BW.out B5).alloc (bnext BW.out B5).size (.cells #[Value.int .i64 0, .int .i64 0, .int .i64 0, .int .i64 0, .int .i64 0, .int .i64 0, .int .i64 0, .int .i64 0, .int .i64 0, .int .i64 0, .int .i64 0, .int .i64 0, .int .i64 0, .int .i64 0, .int .i64 0, .int .i64 0, .int .i64 0, .int .i64 0, .int .i64 0, .int .i64 0, .int .i64 0, .int .i64 0, .int .i64 0, .int .i64 0, .int .i64 0, .int .i64 0, .int .i64 0, .int .i64 0, .int .i64 0, .int .i64 0, .int .i64 0, .int .i64 0, .int .i64 0, .int .i64 0, .int .i64 0, .int .i64 0, .int .i64 0, .int .i64 0, .int .i64 0, .int .i64 0, .int .i64 0] 49))
    have BB5 := hid ((bnext B.out B5).alloc (bnext B.out B5).size (.cells #[Value.int .i64 0, .int .i64 0, .int .i64 0, .int .i64 0, .int .i64 0, .int .i64 0, .int .i64 0, .int .i64 0, .int .i64 0, .int .i64 0, .int .i64 0, .int .i64 0, .int .i64 0, .int .i64 0, .int .i64 0, .int .i64 0, .int .i64 0, .int .i64 0, .int .i64 0, .int .i64 0, .int .i64 0, .int .i64 0, .int .i64 0, .int .i64 0, .int .i64 0, .int .i64 0, .int .i64 0, .int .i64 0, .int .i64 0, .int .i64 0, .int .i64 0, .int .i64 0, .int .i64 0, .int .i64 0, .int .i64 0, .int .i64 0, .int .i64 0, .int .i64 0, .int .i64 0, .int .i64 0, .int .i64 0] 49))
    have HL5 := hid (bnext BW.out B5).size
    have HL6 := hid (bnext B.out B5).size
    clear cr B5 cA
    go_wp2_with (first | (refine wpList_store_blk rfl 49 _ _ rfl w5.heap.size 49 #[Value.int .i64 0, .int .i64 0, .int .i64 0, .int .i64 0, .int .i64 0, .int .i64 0, .int .i64 0, .int .i64 0, .int .i64 0, .int .i64 0, .int .i64 0, .int .i64 0, .int .i64 0, .int .i64 0, .int .i64 0, .int .i64 0, .int .i64 0, .int .i64 0, .int .i64 0, .int .i64 0, .int .i64 0, .int .i64 0, .int .i64 0, .int .i64 0, .int .i64 0, .int .i64 0, .int .i64 0, .int .i64 0, .int .i64 0, .int .i64 0, .int .i64 0, .int .i64 0, .int .i64 0, .int .i64 0, .int .i64 0, .int .i64 0, .int .i64 0, .int .i64 0, .int .i64 0, .int .i64 0, .int .i64 0] (pkV i (S i)) rfl rfl (blk_new w5 _ _) HPW.out HPS.out (ints_one _) ?_; intro w6 n0 n1; have Q6 := hid n0; have BX6 := hid (below_grown BX5.out n1 BX5.out.size HL5.out); have BB6 := hid (below_grown BB5.out n1 BB5.out.size HL6.out); have S6 := hid (blk_below S4.out BX6.out HGS.out); have cz6 := set_sz S6.out HK.out; have K6 := hid (set_key S6.out HK.out); have q6 := pk_num Q6.out; have PS6 := hid (pk_shape Q6.out); clear n0 n1 BX5 BB5) | (refine wpList_load_mid rfl 23 _ rfl w.heap.size 0 rfl _ _ K6.out Tryz.underlying23 rfl HKL.out ?_) | (refine wpList_load_mid rfl 47 _ rfl w5.heap.size 1 rfl _ _ PS6.out Tryz.underlying47 rfl HSL.out ?_))
    refine (cs.out w6 (signs_below HG.out BB6.out (signs_size HG.out))).mono ?_
    rintro e w7 ⟨rfl, B7⟩
    have Q7 := hid (blk_below Q6.out B7 (blk_lt Q6.out))
    have BX7 := hid (bnext BX6.out B7)
    have BB7 := hid (bnext BB6.out B7)
    have S7 := hid (blk_below S4.out BX7.out HGS.out)
    have K7 := hid (set_key S7.out HK.out)
    have q7 := pk_num Q7.out
    clear cs B7 Q6 BX6 BB6 S6 K6 q6 PS6 cz6
    go_wp2_with (first | (refine wpList_load_mid rfl 23 _ rfl w.heap.size 0 rfl _ _ K7.out Tryz.underlying23 rfl HKL.out ?_))
    refine (cp.out w7 (signs_below HG.out BB7.out (signs_size HG.out))).mono ?_
    rintro e w8 ⟨rfl, B8⟩
    have BX9 := hid (bnext BX7.out B8)
    have BB9 := hid (bnext BB7.out B8)
    have cb := HBIT.out w8 (blk_below W4.out BX9.out HGW.out)
    clear cp B8 Q7 BX7 BB7 S7 K7 q7
    cases bit with
    | true =>
     rcases hsp with rfl | rfl | rfl
     all_goals
      go_wp2_with fail
      go_roundg (N - (i + 1))
      case measure => omega
      case rel => exact ⟨i + 1, by omega, by omega, by go_num, by rw [HCN.out, HOK.out]; rfl, BB9.out, BX9.out⟩
    | false =>
     rcases hsp with rfl | rfl | rfl
     all_goals
      go_wp2_with fail
      go_roundg (N - (i + 1))
      case measure => omega
      case rel => exact ⟨i + 1, by omega, by omega, by go_num, by rw [HCN.out, HOK.out]; rfl, BB9.out, BX9.out⟩
  · obtain rfl : N = i := by omega
    go_wp2_with fail
    go_ret
    exact ⟨rfl, B.out⟩
end Go.Proofs.YtiigipnfnfpepaaGreatDoor
namespace Go.Proofs.YtiigipnfnfpepaaGreatDoor

theorem frL_all {ch : Nat} (h : ch = 1 ∨ ch = 2) (zs : List Int) {i : Nat} (hi : i < (frL ch zs).length) : ((frL ch zs).getD i []).length = 32 := by
 rw [frL_len h] at hi
 rcases h with rfl | rfl
 · rw [frL, if_pos rfl]
   rw [cntN, Nat.one_mul, Nat.div_one] at hi
   exact framesL_all zs i (by rw [framesL_len]; exact hi)
 · rw [frL, if_neg (by decide)]
   rw [cntN] at hi
   have hg := bothTo_get (framesL (midsL zs)) (framesL (sidesL zs)) (countN (zs.length / 2)) (i / 2) (by omega)
   by_cases h2 : i % 2 = 0
   · rw [show 2 * (i / 2) = i by omega] at hg
     rw [hg.1]
     exact framesL_all _ _ (by rw [framesL_len, midsL_len]; omega)
   · rw [show 2 * (i / 2) + 1 = i by omega] at hg
     rw [hg.2]
     exact framesL_all _ _ (by rw [framesL_len, sidesL_len]; omega)
def shI (sz ch : Nat) (zs : List Int) (i : Nat) : Shp := shapeL ((frL ch zs).getD i []) (8 * (sz : Int) - 64)
def ahI (kb : List UInt8) (sz ch : Nat) (pay : Int) (zs : List Int) (i : Nat) : List UInt8 := aheadP (sendD kb (payW kb pay)) sz (frL ch zs) i
def snI (kb : List UInt8) (sz ch : Nat) (pay : Int) (zs : List Int) (i : Nat) : Shp := sendD kb (payW kb pay) i (shI sz ch zs i) (ahI kb sz ch pay zs i)
theorem packets_len (kb : List UInt8) (sz ch : Nat) (pay : Int) (zs : List Int) : (packetsL kb sz ch pay zs).length = (frL ch zs).length := pktsL_len _ _ _ _
theorem plain_len (sz ch : Nat) (zs : List Int) : (plainL sz ch zs).length = (frL ch zs).length := pktsL_len _ _ _ _
theorem pktsL_get (D : Nat → Shp → List UInt8 → Shp) (sz : Nat) (L : List (List Int)) {i k : Nat} (h : i < k) : (pktsL D sz L k).getD i [] = pktL D sz L i := by
 rw [pktsL, List.getD_eq_getElem?_getD, List.getElem?_map, List.getElem?_range h]; rfl
theorem shI_ok {kb : List UInt8} {sz ch : Nat} (h : SetOk kb sz ch) (zs : List Int) {i : Nat} (hi : i < (frL ch zs).length) : SK (shI sz ch zs i) ∧ Given (8 * (sz : Int) - 64) (shI sz ch zs i) :=
 shapeL_sk _ (frL_all h.c zs hi) (by have := h.lo; omega)
theorem packets_ok {kb : List UInt8} {sz ch : Nat} (h : SetOk kb sz ch) (pay : Int) (zs : List Int) : PkOk sz (snI kb sz ch pay zs) (packetsL kb sz ch pay zs) := fun i hi => by
 rw [packets_len] at hi
 obtain ⟨h1, h2⟩ := shI_ok h zs hi
 have h3 := sendD_does kb (payW kb pay) i (shI sz ch zs i) (ahI kb sz ch pay zs i) h1
 refine ⟨?_, h3.1, given_same h2 h3.2⟩
 rw [packetsL, pktsL_get _ _ _ hi, pktL_at]
 rfl
theorem plain_ok {kb : List UInt8} {sz ch : Nat} (h : SetOk kb sz ch) (zs : List Int) : PkOk sz (shI sz ch zs) (plainL sz ch zs) := fun i hi => by
 rw [plain_len] at hi
 obtain ⟨h1, h2⟩ := shI_ok h zs hi
 refine ⟨?_, h1, h2⟩
 rw [plainL, pktsL_get _ _ _ hi, pktL_at]
 rfl
def putI (kb : List UInt8) (sz ch : Nat) (pay : Int) (zs : List Int) (i : Nat) : Shp × Bool := mputL kb i ((payW kb pay).getD (placeI kb i).toNat false) (shI sz ch zs i)
theorem put_ok {kb : List UInt8} {sz ch : Nat} (h : SetOk kb sz ch) (pay : Int) (zs : List Int) {i : Nat} (hi : i < (frL ch zs).length) :
 SK (putI kb sz ch pay zs i).1 ∧ (putI kb sz ch pay zs i).2 = okB kb (payW kb pay) (snI kb sz ch pay zs) i ∧ corrI kb i (snI kb sz ch pay zs i) = corrI kb i (putI kb sz ch pay zs i).1 := by
 obtain ⟨h1, _⟩ := shI_ok h zs hi
 have hb := (bandI_in kb i).2
 unfold okB
 unfold snI putI sendD
 generalize shI sz ch zs i = s at *
 generalize ahI kb sz ch pay zs i = p at *
 generalize (payW kb pay).getD (placeI kb i).toNat false = b at *
 refine ⟨(mputL_ok h1 (by omega)).1, ?_, ?_⟩
 · exact sent_speaks h1
 · exact corr_tput
end Go.Proofs.YtiigipnfnfpepaaGreatDoor
