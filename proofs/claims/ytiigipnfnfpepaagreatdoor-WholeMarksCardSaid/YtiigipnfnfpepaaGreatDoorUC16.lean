/- Tags (layer 20): wishes. Tags (layer 20): what a band may become. Tags (layer 20): Put. -/
import Derived.Test.YtiigipnfnfpepaaGreatDoorUC15
import Derived.Test.YtiigipnfnfpepaaGreatDoorUA
namespace Go.Proofs.YtiigipnfnfpepaaGreatDoor
open Go.RowKit

theorem ablk_store {w : World} {g sz : Nat} {t : TypeId} {L : List (List Int)} (hb : Blk w g t (ints L.flatten)) (hw : ∀ x ∈ L, x.length = sz) {i : Nat} (hi : i < L.length) {x : List Int} (hx : x.length = sz) :
 Blk (w.setCells g (i * sz) (x.map (.int .i64))) g t (ints (L.set i x).flatten) ∧ w.grownBy (w.setCells g (i * sz) (x.map (.int .i64))) (some g) ∧ w.there g (i * sz) sz := by
 have hw2 : ∀ y ∈ L.set i x, y.length = sz := set_all hw i hx
 have hle : i * sz + sz ≤ L.length * sz := by
  have := Nat.mul_le_mul_right sz (show i + 1 ≤ L.length by omega)
  rw [Nat.add_mul] at this
  omega
 obtain ⟨cs, k1, k2, k3, k4, k5, k6⟩ := setCells_blk (x.map (.int .i64)) (i * sz) w hb (by rw [List.length_map, hx, ints_size, row_len hw]; exact hle)
 have e : cs = ints (L.set i x).flatten := by
  apply Array.ext_getElem?
  intro k
  rw [List.length_map, hx] at k5 k6
  by_cases hk : k < L.length * sz
  · have hs : 0 < sz := by
     rcases Nat.eq_zero_or_pos sz with h | h
     · rw [h, Nat.mul_zero] at hk; omega
     · exact h
    obtain ⟨p, q, rfl, hp, hq⟩ : ∃ p q, k = p * sz + q ∧ p < L.length ∧ q < sz := ⟨k / sz, k % sz, by rw [Nat.mul_comm]; exact (Nat.div_add_mod k sz).symm, Nat.div_lt_of_lt_mul (by rw [Nat.mul_comm]; exact hk), Nat.mod_lt _ hs⟩
    rw [ints_get, row_at hw2 p q (by rw [List.length_set]; exact hp) hq]
    by_cases hpi : p = i
    · subst hpi
      have e1 : (L.set p x).getD p [] = x := by rw [List.getD_eq_getElem?_getD, List.getElem?_set_self hi]; rfl
      rw [e1, k5 q hq, List.getElem?_map, List.getElem?_eq_getElem (show q < x.length by omega), List.getD_eq_getElem?_getD, List.getElem?_eq_getElem (show q < x.length by omega)]
      rfl
    · have e1 : (L.set i x).getD p [] = L.getD p [] := by rw [List.getD_eq_getElem?_getD, List.getElem?_set_ne (fun h => hpi h.symm), List.getD_eq_getElem?_getD]
      rw [e1]
      have : cs[p * sz + q]? = (ints L.flatten)[p * sz + q]? := by
       rcases Nat.lt_or_gt_of_ne hpi with h2 | h2
       · have := Nat.mul_le_mul_right sz (show p + 1 ≤ i by omega)
         rw [Nat.add_mul] at this
         exact k4 _ (by omega)
       · have := Nat.mul_le_mul_right sz (show i + 1 ≤ p by omega)
         rw [Nat.add_mul] at this
         exact k6 _ (by omega)
      rw [this, ints_get, row_at hw p q hp hq]
  · rw [Array.getElem?_eq_none (by rw [k3, ints_size, row_len hw]; omega), Array.getElem?_eq_none (by rw [ints_size, row_len hw2, List.length_set]; omega)]
 rw [e] at k1
 refine ⟨k1, k2, fun j hj => ?_⟩
 rw [blk_cell hb, ints_get, row_at hw i j hi hj]
 exact ⟨rfl, blk_free hb _⟩
def wishAt (o : Nat) (own back : Int) (i : Nat) : List Int := [(bandsL o).getD i 0, if i < 3 then bits .and .i64 (own / 2 ^ i) 1 else bits .and .i64 (back / 2 ^ (i - 3)) 1]
def wishTo (o : Nat) (own back : Int) (k : Nat) : List (List Int) := (List.range 6).map fun i => if i < k ∨ (3 ≤ i ∧ i < 3 + k) then wishAt o own back i else [0, 0]
def wishL (o : Nat) (own back : Int) : List (List Int) := (List.range 6).map (wishAt o own back)
theorem wishTo_wid (o : Nat) (own back : Int) (k : Nat) : ∀ x ∈ wishTo o own back k, x.length = 2 := fun x hx => by
 obtain ⟨i, _, rfl⟩ := List.mem_map.1 hx
 split <;> rfl
theorem wishTo_len (o : Nat) (own back : Int) (k : Nat) : (wishTo o own back k).length = 6 := by simp [wishTo]
theorem wishTo_all (o : Nat) (own back : Int) : wishTo o own back 3 = wishL o own back := by
 apply List.map_congr_left
 intro i hi
 have := List.mem_range.1 hi
 rw [if_pos (by omega)]
theorem wishTo_zero (o : Nat) (own back : Int) : wishTo o own back 0 = List.replicate 6 [0, 0] := by
 rw [show List.replicate 6 [(0 : Int), 0] = (List.range 6).map (fun _ => [0, 0]) from rfl]
 apply List.map_congr_left
 intro i hi
 rw [if_neg (by omega)]
theorem wishTo_succ (o : Nat) (own back : Int) {k : Nat} (hk : k < 3) : ((wishTo o own back k).set k (wishAt o own back k)).set (3 + k) (wishAt o own back (3 + k)) = wishTo o own back (k + 1) := by
 apply List.ext_getElem (by simp [wishTo])
 intro i h1 h2
 have hi6 : i < 6 := by simpa [wishTo] using h2
 rw [List.getElem_set, List.getElem_set]
 simp only [wishTo, List.getElem_map, List.getElem_range]
 by_cases e1 : 3 + k = i
 · subst e1
   rw [if_pos rfl, if_pos (by omega)]
 · rw [if_neg e1]
   by_cases e2 : k = i
   · subst e2
     rw [if_pos rfl, if_pos (by omega)]
   · rw [if_neg e2]
     by_cases h : i < k ∨ (3 ≤ i ∧ i < 3 + k)
     · rw [if_pos h, if_pos (by omega)]
     · rw [if_neg h, if_neg (by omega)]
theorem tag_in {x : Int} (h : U64 x) : 0 ≤ wrap64 (bits .and .u64 x 7) ∧ wrap64 (bits .and .u64 x 7) < 8 := by
 rw [u64_and x 7 h.1 h.2 (by decide) (by decide)]
 have : x.toNat &&& (7 : Int).toNat ≤ 7 := Nat.and_le_right
 unfold wrap64
 omega

theorem wish_size : (Tryz.prog.info? 99).map (·.size) = some 2 := by kernel_rfl
set_option maxRecDepth 20000 in
set_option maxHeartbeats 4000000 in
theorem wishes_calls (kb : List UInt8) (n : Nat) (s : Shp) (p : List UInt8) (w : World) (hk : kb.length = 16) (hn : n ≤ 5000) (hS : Signs w) (h : SK s) (hp : p.length ≤ 1000) :
 Calls Tryz.prog 48 #[.agg (bytesV kb), .agg (pkV n s), .string (str p)] w fun e w' => e = .returned (.agg (ints (wishL (bandI kb n).toNat (ownI kb n s) (aheadI kb p)).flatten)) ∧ Below w.heap.size w w' := by
 let w3 := (((w.alloc (.cells (bytesV kb) 23)).alloc (.cells (pkV n s) 49)).alloc (.cells #[Value.int .i64 0, .int .i64 0, .int .i64 0, .int .i64 0, .int .i64 0, .int .i64 0, .int .i64 0, .int .i64 0, .int .i64 0, .int .i64 0, .int .i64 0, .int .i64 0] 100)).alloc (.cells #[Value.int .i64 0, .int .i64 0, .int .i64 0, .int .i64 0, .int .i64 0, .int .i64 0, .int .i64 0, .int .i64 0, .int .i64 0, .int .i64 0, .int .i64 0, .int .i64 0] 100)
 have k0 : Blk w3 w.heap.size 23 (bytesV kb) := blk_alloc (blk_alloc (blk_alloc (blk_new w 23 (bytesV kb)) _) _) _
 have p0 : Blk w3 (w.heap.size + 1) 49 (pkV n s) := by
  have := blk_alloc (blk_alloc (blk_new (w.alloc (.cells (bytesV kb) 23)) 49 (pkV n s)) (.cells #[Value.int .i64 0, .int .i64 0, .int .i64 0, .int .i64 0, .int .i64 0, .int .i64 0, .int .i64 0, .int .i64 0, .int .i64 0, .int .i64 0, .int .i64 0, .int .i64 0] 100)) (.cells #[Value.int .i64 0, .int .i64 0, .int .i64 0, .int .i64 0, .int .i64 0, .int .i64 0, .int .i64 0, .int .i64 0, .int .i64 0, .int .i64 0, .int .i64 0, .int .i64 0] 100)
  rw [World.size_alloc] at this
  exact this
 have r0 : Blk w3 (w.heap.size + 1 + 1) 100 #[Value.int .i64 0, .int .i64 0, .int .i64 0, .int .i64 0, .int .i64 0, .int .i64 0, .int .i64 0, .int .i64 0, .int .i64 0, .int .i64 0, .int .i64 0, .int .i64 0] := by
  have := blk_alloc (blk_new ((w.alloc (.cells (bytesV kb) 23)).alloc (.cells (pkV n s) 49)) 100 #[Value.int .i64 0, .int .i64 0, .int .i64 0, .int .i64 0, .int .i64 0, .int .i64 0, .int .i64 0, .int .i64 0, .int .i64 0, .int .i64 0, .int .i64 0, .int .i64 0]) (.cells #[Value.int .i64 0, .int .i64 0, .int .i64 0, .int .i64 0, .int .i64 0, .int .i64 0, .int .i64 0, .int .i64 0, .int .i64 0, .int .i64 0, .int .i64 0, .int .i64 0] 100)
  rw [World.size_alloc, World.size_alloc] at this
  exact this
 have o0 : Blk w3 (w.heap.size + 1 + 1 + 1) 100 #[Value.int .i64 0, .int .i64 0, .int .i64 0, .int .i64 0, .int .i64 0, .int .i64 0, .int .i64 0, .int .i64 0, .int .i64 0, .int .i64 0, .int .i64 0, .int .i64 0] := by
  have := blk_new (((w.alloc (.cells (bytesV kb) 23)).alloc (.cells (pkV n s) 49)).alloc (.cells #[Value.int .i64 0, .int .i64 0, .int .i64 0, .int .i64 0, .int .i64 0, .int .i64 0, .int .i64 0, .int .i64 0, .int .i64 0, .int .i64 0, .int .i64 0, .int .i64 0] 100)) 100 #[Value.int .i64 0, .int .i64 0, .int .i64 0, .int .i64 0, .int .i64 0, .int .i64 0, .int .i64 0, .int .i64 0, .int .i64 0, .int .i64 0, .int .i64 0, .int .i64 0]
  rw [World.size_alloc, World.size_alloc, World.size_alloc] at this
  exact this
 have b0 : Below w.heap.size w w3 := ((((Below.refl w.heap.size w).alloc (Nat.le_refl _) _).alloc (by simp) _).alloc (by simp; omega) _).alloc (by simp; omega) _
 have HKS := hid (key_size hk)
 have HPZ := hid (pk_size h.ok n)
 have co := fun W hS => own_calls kb n s W hk hn hS h
 have ca := fun W hS => tahead_calls kb p W hk hp hS
 have cb := fun W hS => bands_calls kb n W hk (by omega) hS
 have hoi := tag_in (sumL_u64 kb (ownB kb n s))
 have hai := tag_in (sumL_u64 kb (97 :: p))
 rw [show wrap64 (bits .and .u64 (sumL kb (ownB kb n s)) 7) = ownI kb n s from rfl] at hoi
 rw [show wrap64 (bits .and .u64 (sumL kb (97 :: p)) 7) = aheadI kb p from rfl] at hai
 have HG := hid hS
 have K0 := hid k0
 have P0 := hid p0
 have R0 := hid r0
 have O0 := hid o0
 have B0 := hid b0
 have k1 := blk_drew k0
 have p1 := blk_drew p0
 clear hk hn hS h hp k0 p0 r0 o0 b0
 generalize ownI kb n s = own at *
 generalize aheadI kb p = back at *
 generalize (bandI kb n).toNat = o at *
 go_enter Tryz.func48, Tryz.ntmps48
 go_wp2_with fail
 refine plain_region (S := (fun L W => (L.getD 2 true = true ∨ Blk W w.heap.size 23 (bytesV kb)) ∧ (L.getD 2 true = true ∨ Blk W (w.heap.size + 1) 49 (pkV n s)) ∧ (L.getD 5 true = true ∨ Blk W w.heap.size 23 (bytesV kb)))) (by kernel_rfl) (⟨Or.inr k1, Or.inr p1, Or.inr k1⟩) (fun hHeld => ?_)
 clear hHeld
 refine aB 0 2 rfl (fun _ _ h k => rL k.1 h) (yields_blk (by rfl) 23 _ rfl w.heap.size rfl 23 (bytesV kb) _ (fun _ h => h) Tryz.underlying23 rfl HKS.out) ⟨Or.inr k1, Or.inr p1, Or.inr k1⟩ ?_
 refine aB 1 2 rfl (fun _ _ h k => rL k.2.1 h) (yields_blk (by rfl) 49 _ rfl (w.heap.size + 1) rfl 49 (pkV n s) _ (fun _ h => h) Tryz.underlying49 rfl HPZ.out) ⟨Or.inr k1, Or.inr p1, Or.inr k1⟩ ?_
 refine aB 3 5 rfl (fun _ _ h k => rL k.2.2 h) (yields_blk (by rfl) 23 _ rfl w.heap.size rfl 23 (bytesV kb) _ (fun _ h => h) Tryz.underlying23 rfl HKS.out) ⟨Or.inr k1, Or.inr p1, Or.inr k1⟩ ?_
 refine aW 4 ⟨Or.inr k1, Or.inr p1, Or.inr k1⟩ ?_
 refine aR 2 (fun K hK => ?_)
 go_simp
 refine (co _ (show Signs w3.drew from signs_below HG.out (below_draws B0.out 1) (signs_size HG.out))).mono ?_
 rintro e w4 ⟨rfl, B4⟩
 have k1 := blk_below (blk_drew K0.out) B4 (blk_lt K0.out)
 have K4 := hid k1
 have P4 := hid (blk_below (blk_drew P0.out) B4 (blk_lt P0.out))
 have R4 := hid (blk_below (blk_drew R0.out) B4 (blk_lt R0.out))
 have O4 := hid (blk_below (blk_drew O0.out) B4 (blk_lt O0.out))
 have BB4 := hid (bnext (below_draws B0.out 1) B4)
 clear B4
 refine hK.out _ _ (⟨Or.inl (by rfl), Or.inl (by rfl), Or.inr k1⟩) (fun hHeld => ?_)
 clear hK K
 try simp only [Act.put, tA, tB, tC]
 clear hHeld
 refine aR 5 (fun K hK => ?_)
 go_simp
 refine (ca _ (signs_below HG.out BB4.out (signs_size HG.out))).mono ?_
 rintro e w5 ⟨rfl, B5⟩
 have K5 := hid (blk_below K4.out B5 (blk_lt K4.out))
 have P5 := hid (blk_below P4.out B5 (blk_lt P4.out))
 have R5 := hid (blk_below R4.out B5 (blk_lt R4.out))
 have O5 := hid (blk_below O4.out B5 (blk_lt O4.out))
 have BB5 := hid (bnext BB4.out B5)
 clear B5
 refine hK.out _ _ (⟨Or.inl (by rfl), Or.inl (by rfl), Or.inl (by rfl)⟩) (fun hHeld => ?_)
 clear hK K
 try simp only [Act.put, tA, tB, tC]
 clear hHeld
 refine aW 6 ⟨Or.inl (by rfl), Or.inl (by rfl), Or.inl (by rfl)⟩ ?_
 refine aW 7 ⟨Or.inl (by rfl), Or.inl (by rfl), Or.inl (by rfl)⟩ ?_
 refine anyU_done (by kernel_rfl) ?_ _
 have n5 := pk_num P5.out
 have cb5 := cb w5 (signs_below HG.out BB5.out (signs_size HG.out))
 have hbl : (bandsL o).length = 7 := by simp [bandsL]
 have HBZ := hid (show (Tryz.prog.info? 153).map (·.size) = some (ints (bandsL o)).size by rw [ints_size, hbl]; kernel_rfl)
 have HBS := hid (show (ints (bandsL o)).size = (#[Value.int .i64 0, .int .i64 0, .int .i64 0, .int .i64 0, .int .i64 0, .int .i64 0, .int .i64 0] : Array Value).size by rw [ints_size, hbl]; rfl)
 have HBL := hid hbl
 clear k1 p1 co ca cb K0 P0 R0 O0 B0 K4 P4 R4 O4 BB4 hbl
 go_wp2_with (first | (refine wpList_load_blk (by rfl) 23 _ rfl w.heap.size rfl 23 (bytesV kb) _ K5.out Tryz.underlying23 rfl HKS.out ?_))
 refine cb5.mono ?_
 rintro e w6 ⟨rfl, B6⟩
 have R6 := hid (blk_alloc (blk_below R5.out B6 (blk_lt R5.out)) (.cells #[Value.int .i64 0, .int .i64 0, .int .i64 0, .int .i64 0, .int .i64 0, .int .i64 0, .int .i64 0] 153))
 have O6 := hid (blk_alloc (blk_below O5.out B6 (blk_lt O5.out)) (.cells #[Value.int .i64 0, .int .i64 0, .int .i64 0, .int .i64 0, .int .i64 0, .int .i64 0, .int .i64 0] 153))
 have bb6 := bnext BB5.out B6
 have BB6 := hid (bb6.alloc bb6.size (.cells #[Value.int .i64 0, .int .i64 0, .int .i64 0, .int .i64 0, .int .i64 0, .int .i64 0, .int .i64 0] 153))
 have HGO := hid (show w.heap.size + 1 + 1 + 1 < w6.heap.size by have := blk_lt O5.out; have := B6.size; omega)
 clear cb5 B6 bb6 K5 P5 R5 O5 BB5 n5
 go_wp2_with (first | (refine wpList_store_blk rfl 153 _ _ rfl w6.heap.size 153 #[Value.int .i64 0, .int .i64 0, .int .i64 0, .int .i64 0, .int .i64 0, .int .i64 0, .int .i64 0] (ints (bandsL o)) rfl rfl (blk_new w6 _ _) HBS.out HBZ.out (ints_one _) ?_; intro w7 n0 n1; have L7 := hid n0; have R7 := hid (blk_grown R6.out n1 (fun e => by injection e with e; have := HGO.out; omega)); have O7 := hid (blk_grown O6.out n1 (fun e => by injection e with e; have := HGO.out; omega)); have B7 := hid (below_grown BB6.out n1 BB6.out.size (by have := HGO.out; omega)); clear n0 n1))
 have o7 := O7.out
 rw [show (#[Value.int .i64 0, .int .i64 0, .int .i64 0, .int .i64 0, .int .i64 0, .int .i64 0, .int .i64 0, .int .i64 0, .int .i64 0, .int .i64 0, .int .i64 0, .int .i64 0] : Array Value) = ints (wishTo o own back 0).flatten by rw [wishTo_zero]; kernel_rfl] at o7
 have O7' := hid o7
 clear O7 o7
 generalize w6.heap.size = gl at *
 go_loopg [22] 3 (fun gg s22 wr => ∃ k : Nat, k ≤ 3 ∧ 3 - k ≤ gg ∧ s22 = .int .i64 k ∧ Aside (Below w.heap.size w wr) ∧ Aside (Blk wr (w.heap.size + 1 + 1) 100 #[Value.int .i64 0, .int .i64 0, .int .i64 0, .int .i64 0, .int .i64 0, .int .i64 0, .int .i64 0, .int .i64 0, .int .i64 0, .int .i64 0, .int .i64 0, .int .i64 0]) ∧ Aside (Blk wr (w.heap.size + 1 + 1 + 1) 100 (ints (wishTo o own back k).flatten)) ∧ Aside (Blk wr gl 153 (ints (bandsL o))))
 case atStart => exact ⟨0, Nat.zero_le _, by omega, rfl, B7.out, R7.out, O7'.out, L7.out⟩
 case round =>
  clear B7 R7 O7' L7
  obtain ⟨k, hk, hgk, rfl, B, R, OO, L⟩ := hrel
  by_cases hlt : k < 3
  · have hkz : (k : Int) < 3 := by omega
    have hk0 : (0 : Int) ≤ k := by omega
    have hk7 : (k : Int) < 7 := by omega
    have hk6 : (k : Int) < 6 := by omega
    have hk63 : (k : Int) < 64 := by omega
    have l1 : wr.cell? ⟨gl, k, none⟩ = some (.int .i64 ((bandsL o).getD k 0)) := blk_int L.out (i := k) (by rw [HBL.out]; omega)
    have HSU := hid (wishTo_succ o own back hlt)
    have HW1 : Hid (wishAt o own back k = [(bandsL o).getD k 0, bits .and .i64 (own / 2 ^ k) 1]) := hid (by unfold wishAt; rw [if_pos hlt])
    have HW2 : Hid (wishAt o own back (3 + k) = [(bandsL o).getD (3 + k) 0, bits .and .i64 (back / 2 ^ k) 1]) := hid (by unfold wishAt; rw [if_neg (by omega), Nat.add_sub_cancel_left])
    have l2v : ∀ W : World, Blk W gl 153 (ints (bandsL o)) → W.cell? ⟨gl, 3 + k, none⟩ = some (.int .i64 ((bandsL o).getD (3 + k) 0)) := fun W hW => blk_int hW (i := 3 + k) (by rw [HBL.out]; omega)
    have L2V := hid l2v
    clear l2v
    generalize (bandsL o).getD k 0 = x1 at *
    generalize (bandsL o).getD (3 + k) 0 = x2 at *
    obtain ⟨q1, q2, q3⟩ := ablk_store (w := wr.drew) (i := k) (x := [x1, bits .and .i64 (own / 2 ^ k) 1]) (blk_drew OO.out) (wishTo_wid o own back k) (by rw [wishTo_len]; omega) rfl
    have T1 := hid q3
    have Q1 := hid q1
    have HGL := hid (blk_lt L.out)
    have R1 := hid (blk_grown (blk_drew R.out) q2 (fun e => by injection e with e; omega))
    have L1 := hid (blk_grown (blk_drew L.out) q2 (fun e => by injection e with e; have := HGO.out; omega))
    have B1 := hid (below_grown (below_draws B.out 1) q2 (below_draws B.out 1).size (by omega))
    clear q1 q2 q3
    go_wp2_with fail
    refine plain_region (S := (fun L W => (L.getD 10 true = true ∨ W.cell? ⟨gl, k, none⟩ = some (.int .i64 x1)))) (by kernel_rfl) (Or.inr l1) (fun hHeld => ?_)
    clear hHeld
    refine aW 0 (Or.inr l1) ?_
    refine aW 1 (Or.inr l1) ?_
    refine aW 2 (Or.inr l1) ?_
    refine aL 3 10 (fun _ _ h k => rL k h) (Or.inr l1) ?_
    refine aW 4 (Or.inr l1) ?_
    refine aW 5 (Or.inr l1) ?_
    refine aW 6 (Or.inr l1) ?_
    refine aW 7 (Or.inr l1) ?_
    refine aW 8 (Or.inr l1) ?_
    refine aW 9 (Or.inr l1) ?_
    refine aR 10 (fun K hK => ?_)
    refine stepU_store (by rfl) 99 _ _ rfl (w.heap.size + 1 + 1 + 1) (k * 2) ([x1, bits .and .i64 (own / 2 ^ k) 1].map (Value.int .i64)) rfl rfl T1.out wish_size (ints_one1 _) ?_
    refine hK.out _ _ (Or.inl (by rfl)) (fun hHeld => ?_)
    clear hK K
    try simp only [Act.put]
    clear hHeld
    refine anyU_done (by kernel_rfl) ?_ _
    clear l1
    have Q1' : Hid (Blk (wr.drew.setCells (w.heap.size + 1 + 1 + 1) (k * 2) ([x1, bits .and .i64 (own / 2 ^ k) 1].map (Value.int .i64))) (w.heap.size + 1 + 1 + 1) 100 (ints ((wishTo o own back k).set k [x1, bits .and .i64 (own / 2 ^ k) 1]).flatten)) := Q1
    generalize wr.drew.setCells (w.heap.size + 1 + 1 + 1) (k * 2) ([x1, bits .and .i64 (own / 2 ^ k) 1].map (Value.int .i64)) = w8 at *
    have l2 : w8.drew.cell? ⟨gl, 3 + k, none⟩ = some (.int .i64 x2) := L2V.out w8.drew (blk_drew L1.out)
    have e0 := wishTo_wid o own back k
    obtain ⟨q1, q2, q3⟩ := ablk_store (w := w8.drew) (i := 3 + k) (x := [x2, bits .and .i64 (back / 2 ^ k) 1]) (blk_drew Q1'.out) (set_all e0 k rfl) (by rw [List.length_set, wishTo_len]; omega) rfl
    rw [← HW1.out, ← HW2.out, HSU.out] at q1
    have T2 := hid q3
    have Q2 : Hid (Blk (w8.drew.setCells (w.heap.size + 1 + 1 + 1) ((3 + k) * 2) ([x2, bits .and .i64 (back / 2 ^ k) 1].map (Value.int .i64))) (w.heap.size + 1 + 1 + 1) 100 (ints (wishTo o own back (k + 1)).flatten)) := hid (by rw [HW2.out] at q1; exact q1)
    have R2 := hid (blk_grown (blk_drew R1.out) q2 (fun e => by injection e with e; omega))
    have L2 := hid (blk_grown (blk_drew L1.out) q2 (fun e => by injection e with e; have := HGO.out; omega))
    have B2 := hid (below_grown (below_draws B1.out 1) q2 (below_draws B1.out 1).size (by omega))
    clear q1 q2 q3 e0 Q1 Q1' R1 L1 B1 T1 HSU HW1 HW2 L2V
    obtain ⟨q, hq⟩ : ∃ q : Nat, q = 3 + k := ⟨_, rfl⟩
    rw [← hq] at l2 T2 Q2 R2 L2 B2
    have hq36 : (q : Int) < 6 := by omega
    have hq37 : (q : Int) < 7 := by omega
    have hq30 : (0 : Int) ≤ q := by omega
    have hqw : IntKind.i64.wrap (3 + (k : Int)) = q := by rw [IntWalk.i64_in _ (by omega)]; omega
    clear hq
    go_wp2_with fail
    refine plain_region (S := (fun L W => (L.getD 12 true = true ∨ W.cell? ⟨gl, q, none⟩ = some (.int .i64 x2)))) (by kernel_rfl) (Or.inr l2) (fun hHeld => ?_)
    clear hHeld
    refine aW 0 (Or.inr l2) ?_
    refine aW 1 (Or.inr l2) ?_
    refine aW 2 (Or.inr l2) ?_
    refine aW 3 (Or.inr l2) ?_
    refine aW 4 (Or.inr l2) ?_
    refine aL 5 12 (fun _ _ h k => rL k h) (Or.inr l2) ?_
    refine aW 6 (Or.inr l2) ?_
    refine aW 7 (Or.inr l2) ?_
    refine aW 8 (Or.inr l2) ?_
    refine aW 9 (Or.inr l2) ?_
    refine aW 10 (Or.inr l2) ?_
    refine aW 11 (Or.inr l2) ?_
    refine aR 12 (fun K hK => ?_)
    refine stepU_store (by rfl) 99 _ _ rfl (w.heap.size + 1 + 1 + 1) (q * 2) ([x2, bits .and .i64 (back / 2 ^ k) 1].map (Value.int .i64)) rfl rfl T2.out wish_size (ints_one1 _) ?_
    refine hK.out _ _ (Or.inl (by rfl)) (fun hHeld => ?_)
    clear hK K
    try simp only [Act.put]
    clear hHeld
    refine anyU_done (by kernel_rfl) ?_ _
    clear l2 hq36 hq37 hq30 hqw
    generalize w8.drew.setCells (w.heap.size + 1 + 1 + 1) (q * 2) ([x2, bits .and .i64 (back / 2 ^ k) 1].map (Value.int .i64)) = w9 at *
    go_wp2_with fail
    go_roundg (3 - (k + 1))
    case measure => omega
    case rel => exact ⟨k + 1, by omega, by omega, by go_num, B2.out, R2.out, Q2.out, L2.out⟩
  · obtain rfl : k = 3 := by omega
    have o3 := OO.out
    rw [wishTo_all] at o3
    have O3 := hid o3
    have hwl : (wishL o own back).flatten.length = 12 := by
     rw [row_len (sz := 2) (fun x hx => by obtain ⟨i, _, rfl⟩ := List.mem_map.1 hx; rfl)]
     simp [wishL]
    have HWZ := hid (show (Tryz.prog.info? 100).map (·.size) = some (ints (wishL o own back).flatten).size by rw [ints_size, hwl]; kernel_rfl)
    have HWS := hid (show (ints (wishL o own back).flatten).size = (#[Value.int .i64 0, .int .i64 0, .int .i64 0, .int .i64 0, .int .i64 0, .int .i64 0, .int .i64 0, .int .i64 0, .int .i64 0, .int .i64 0, .int .i64 0, .int .i64 0] : Array Value).size by rw [ints_size, hwl]; rfl)
    clear OO o3 hwl
    go_wp2_with (first | (refine wpList_load_blk (by rfl) 100 _ rfl (w.heap.size + 1 + 1 + 1) rfl 100 (ints (wishL o own back).flatten) _ O3.out Tryz.underlying100 rfl HWZ.out ?_) | (refine wpList_store_blk rfl 100 _ _ rfl (w.heap.size + 1 + 1) 100 #[Value.int .i64 0, .int .i64 0, .int .i64 0, .int .i64 0, .int .i64 0, .int .i64 0, .int .i64 0, .int .i64 0, .int .i64 0, .int .i64 0, .int .i64 0, .int .i64 0] (ints (wishL o own back).flatten) rfl rfl R.out HWS.out HWZ.out (ints_one _) ?_; intro w9 n0 n1))
    have B9 := hid (below_grown B.out n1 B.out.size (by omega))
    exact bodyPost_ret (results_cell_row rfl _ _ (w.heap.size + 1 + 1) 100 (ints (wishL o own back).flatten) (0, 0) _ rfl n0 Tryz.underlying100 rfl HWZ.out) rfl ⟨rfl, B9.out⟩
end Go.Proofs.YtiigipnfnfpepaaGreatDoor
namespace Go.Proofs.YtiigipnfnfpepaaGreatDoor
open Go.RowKit

def goodF (kb : List UInt8) (n b : Nat) (bit : Int) (sd was z : List Int) : Bool := (oddI z (subsetL kb n b) == bit) && mayL sd b was z
structure GI (kb : List UInt8) (n b : Nat) (bit : Int) (s0 s : Shp) (was : List Int) (gk gp gw gs gz : Nat) (W : World) : Prop where
 k : Blk W gk 23 (bytesV kb)
 p : Blk W gp 49 (pkV n s0)
 wi : Blk W gw 99 (ints [(b : Int), bit])
 s : Blk W gs 47 (shV s)
 z : Blk W gz 44 (ints was)
 sg : Signs W
theorem gi_below {kb : List UInt8} {n b : Nat} {bit : Int} {s0 s : Shp} {was : List Int} {gk gp gw gs gz : Nat} {W W' : World} (h : GI kb n b bit s0 s was gk gp gw gs gz W) (hb : Below W.heap.size W W') : GI kb n b bit s0 s was gk gp gw gs gz W' :=
 ⟨blk_below h.k hb (blk_lt h.k), blk_below h.p hb (blk_lt h.p), blk_below h.wi hb (blk_lt h.wi), blk_below h.s hb (blk_lt h.s), blk_below h.z hb (blk_lt h.z), signs_next h.sg hb⟩
theorem sk_right {s : Shp} (h : SK s) : rightB s.sd = true := by
 unfold rightB
 rw [Bool.not_eq_true', List.any_eq_false]
 intro z hz
 have := h.ok.s15 z hz
 simp only [Bool.or_eq_true, decide_eq_true_eq]
 omega

theorem wpList_load_midG {P : Program} {ops : Array Oper} {rest : List Oper} {op : Oper} {a : Act} {w : World} {Q : Exit → Act → World → Prop} (hgd : Region.wanted op (yielded ops a.tmps) = true) (ty : TypeId) (x : Operand) (ho : op.op = .load ty x)
 (b o : Nat) (hx : a.eval x = .pointer (some ⟨b, o, none⟩)) (cs : List Value) (d : TypeDesc) (hc : w.rangeAt b o cs)
 (hu : P.underlying ty = some d) (hd : d.isRow = true) (hi : (P.info? ty).map (·.size) = some cs.length)
 (h : wpList P ops Q rest (a.put op.dst (.agg cs.toArray)) w) : wpList P ops Q (op :: rest) a w :=
 wpList_step fun _ hK => by
  rw [if_pos hgd]
  exact wp_load_mid ty x ho b o hx cs d hc hu hd hi (hK _ _ h)

set_option maxRecDepth 20000 in
set_option maxHeartbeats 4000000 in
theorem good_calls (kb : List UInt8) (n b : Nat) (bit : Int) (s0 s : Shp) (was z : List Int) (gk gp gw gs gz : Nat) (w : World) (hk : kb.length = 16) (hn : n ≤ 5000) (hb8 : b < 8) (hs : SK s) (hw : PIn was) (hzl : z.length = 4) (hzs : sumA z ≤ 12) (h : GI kb n b bit s0 s was gk gp gw gs gz w) :
 Calls Tryz.prog 51 #[.agg (ints z), .pointer (some ⟨gk, 0, none⟩), .pointer (some ⟨gp, 0, none⟩), .pointer (some ⟨gw, 0, none⟩), .pointer (some ⟨gs, 0, none⟩), .pointer (some ⟨gz, 0, none⟩)] w fun e w' => e = .returned (.bool (goodF kb n b bit s.sd was z)) ∧ Below w.heap.size w w' := by
 have h1 : GI kb n b bit s0 s was gk gp gw gs gz (w.alloc (.cells (ints z) 44)) := gi_below h ((Below.refl _ w).alloc (Nat.le_refl _) _)
 have B1 := hid ((Below.refl w.heap.size w).alloc (Nat.le_refl _) (.cells (ints z) 44))
 have Z1 := hid (blk_new w 44 (ints z))
 have cp := parity_calls kb n b z (w.alloc (.cells (ints z) 44)) hk (by omega) hb8 h1.sg hzl hzs
 have hzp := sumA_pin hzl rfl hzs
 have cm := fun W => may_calls s.sd b was z W hs.ok.sl (sk_right hs) hb8 hw.len hzl (fun q hq => by have := hw.all q hq; omega) (fun q hq => by have := hzp.all q hq; omega)
 have n1 := pk_num h1.p
 have b1 : (w.alloc (.cells (ints z) 44)).cell? ⟨gw, 0, none⟩ = some (.int .i64 b) := blk_int h1.wi (i := 0) (by simp)
 have HKS := hid (key_size hk)
 have HZZ := hid (show (Tryz.prog.info? 44).map (·.size) = some (ints z).size by rw [ints_size, hzl]; kernel_rfl)
 have HWZ := hid (show (Tryz.prog.info? 44).map (·.size) = some (ints was).size by rw [ints_size, hw.len]; kernel_rfl)
 have HSS := hid (side_size hs.ok.sl)
 have HF := hid (show goodF kb n b bit s.sd was z = ((oddI z (subsetL kb n b) == bit) && mayL s.sd b was z) from rfl)
 have H1 := hid h1
 have HOK := hid hs.ok
 clear hk hn hb8 hs hw hzl hzs h h1 hzp
 generalize oddI z (subsetL kb n b) = od at *
 generalize canB z (subsetL kb n b) = cb at *
 generalize mayL s.sd b was z = my at *
 go_enter Tryz.func51, Tryz.ntmps51
 go_wp2_with (first | (refine wpList_load_blk (by rfl) 23 _ rfl gk rfl 23 (bytesV kb) _ H1.out.k Tryz.underlying23 rfl HKS.out ?_) | (refine wpList_load_blk (by rfl) 44 _ rfl w.heap.size rfl 44 (ints z) _ Z1.out Tryz.underlying44 rfl HZZ.out ?_))
 refine cp.mono ?_
 rintro e w2 ⟨rfl, B2⟩
 have H2 := hid (gi_below H1.out B2)
 have Z2 := hid (blk_below Z1.out B2 (blk_lt Z1.out))
 have BB2 := hid (bnext B1.out B2)
 have t2 : w2.cell? ⟨gw, 1, none⟩ = some (.int .i64 bit) := blk_int H2.out.wi (i := 1) (by simp)
 have b2 : w2.cell? ⟨gw, 0, none⟩ = some (.int .i64 b) := blk_int H2.out.wi (i := 0) (by simp)
 have S2 := hid (shp_sides H2.out.s HOK.out)
 clear cp n1 b1 B2 H1 Z1 B1
 by_cases hb : od = bit
 · have e1 : (od == bit) = true := by simpa using hb
   have HX := hid (show goodF kb n b bit s.sd was z = my by rw [HF.out, e1, Bool.true_and])
   clear HF hb
   go_wp2_with (first | (refine wpList_load_blk (by rfl) 44 _ rfl gz rfl 44 (ints was) _ H2.out.z Tryz.underlying44 rfl HWZ.out ?_) | (refine wpList_load_blk (by rfl) 44 _ rfl w.heap.size rfl 44 (ints z) _ Z2.out Tryz.underlying44 rfl HZZ.out ?_) | (refine wpList_load_midG (by rfl) 42 _ rfl gs 0 rfl _ _ S2.out Tryz.underlying42 rfl HSS.out ?_))
   refine (cm _).mono ?_
   rintro e w3 ⟨rfl, B3⟩
   have BB3 := hid (bnext BB2.out B3)
   clear B3 cm e1
   go_wp2_with fail
   go_ret
   exact ⟨by rw [HX.out]; rfl, BB3.out⟩
 · have e1 : (od == bit) = false := by simpa using hb
   have HX := hid (show goodF kb n b bit s.sd was z = false by rw [HF.out, e1, Bool.false_and])
   clear HF hb
   go_wp2_with fail
   go_ret
   exact ⟨by rw [HX.out]; rfl, BB2.out⟩
end Go.Proofs.YtiigipnfnfpepaaGreatDoor
namespace Go.Proofs.YtiigipnfnfpepaaGreatDoor
open Go.RowKit

def tstep (kb : List UInt8) (n : Nat) (s : Shp) (x : List Int) : Shp :=
 let b := (x.getD 0 0).toNat
 let bit := x.getD 1 0
 let y := s.ys.getD b []
 if canB y (subsetL kb n b) = false ∨ bit = oddI y (subsetL kb n b) then s else s.put b (nearL (goodF kb n b bit s.sd y) y)
def tputL (kb : List UInt8) (n : Nat) (s : Shp) (p : List UInt8) : Shp := (wishL (bandI kb n).toNat (ownI kb n s) (aheadI kb p)).foldl (tstep kb n) s
theorem tstep_ok {kb : List UInt8} {n : Nat} {s : Shp} {x : List Int} (h : SK s) (hx : (x.getD 0 0).toNat < 8) : SK (tstep kb n s x) ∧ Same s (tstep kb n s x) := by
 unfold tstep
 dsimp only
 split
 · exact ⟨h, same_refl s⟩
 · have hl := shp_ylen h.ok hx
   have hs := getD_all h.sum (i := (x.getD 0 0).toNat) (by rw [h.ok.yl]; exact hx) []
   have hn := nearL_in (good := goodF kb n (x.getD 0 0).toNat (x.getD 1 0) s.sd (s.ys.getD (x.getD 0 0).toNat [])) hl
   exact ⟨sk_put h _ hn.1 (by rw [hn.2]; exact hs), same_put h.ok hx hn.2⟩
theorem tfold_ok {kb : List UInt8} {n : Nat} : ∀ (xs : List (List Int)) (s : Shp), SK s → (∀ x ∈ xs, (x.getD 0 0).toNat < 8) → SK (xs.foldl (tstep kb n) s) ∧ Same s (xs.foldl (tstep kb n) s)
 | [], s, h, _ => ⟨h, same_refl s⟩
 | x :: xs, s, h, hx => by
  have h1 := tstep_ok (kb := kb) (n := n) h (hx x List.mem_cons_self)
  have h2 := tfold_ok (kb := kb) (n := n) xs (tstep kb n s x) h1.1 (fun y hy => hx y (List.mem_cons_of_mem _ hy))
  exact ⟨h2.1, same_trans h1.2 h2.2⟩
theorem wishL_in {o : Nat} {own back : Int} (_ho : o < 8) : ∀ x ∈ wishL o own back, ∃ b bit, x = [((b : Nat) : Int), bit] ∧ b < 8 := fun x hx => by
 obtain ⟨i, hi, rfl⟩ := List.mem_map.1 hx
 have hi6 := List.mem_range.1 hi
 refine ⟨if i < o then i else i + 1, if i < 3 then bits .and .i64 (own / 2 ^ i) 1 else bits .and .i64 (back / 2 ^ (i - 3)) 1, ?_, by split <;> omega⟩
 unfold wishAt
 rw [bandsL_get o (by omega)]
 by_cases h : i < o
 · rw [if_pos h, if_pos h]
 · rw [if_neg h, if_neg h]; rfl
theorem tputL_ok {kb : List UInt8} {n : Nat} {s : Shp} {p : List UInt8} (h : SK s) : SK (tputL kb n s p) ∧ Same s (tputL kb n s p) :=
 tfold_ok _ s h fun x hx => by
  have := bandI_in kb n
  obtain ⟨b, bit, rfl, hb⟩ := wishL_in (by omega) x hx
  exact hb
theorem eq_wish (a b c d : Int) (w : World) : (Op.equalIn 10000 99 (.agg #[.int .i64 a, .int .i64 b]) (.agg #[.int .i64 c, .int .i64 d])).run Tryz.prog w = .ok (a == c && b == d) w := by
 rw [run_equalIn_agg (P := Tryz.prog) (w := w) 9999 99 _ _ (by kernel_rfl) (by kernel_rfl)]
 go_simp
 by_cases h1 : a = c <;> by_cases h2 : b = d <;> simp [h1, h2]

set_option maxRecDepth 20000 in
set_option maxHeartbeats 4000000 in
theorem tput_calls (kb : List UInt8) (n : Nat) (s : Shp) (p : List UInt8) (w : World) (hk : kb.length = 16) (hn : n ≤ 5000) (hS : Signs w) (h : SK s) (hp : p.length ≤ 1000) :
 Calls Tryz.prog 21 #[.agg (bytesV kb), .agg (pkV n s), .string (str p)] w fun e w' => e = .returned (.agg (shV (tputL kb n s p))) ∧ Below w.heap.size w w' := by
 let w1 := (((w.alloc (.cells (bytesV kb) 23)).alloc (.cells (pkV n s) 49)).alloc (.cells #[Value.int .i64 0, .int .i64 0, .int .i64 0, .int .i64 0, .int .i64 0, .int .i64 0, .int .i64 0, .int .i64 0, .int .i64 0, .int .i64 0, .int .i64 0, .int .i64 0, .int .i64 0, .int .i64 0, .int .i64 0, .int .i64 0, .int .i64 0, .int .i64 0, .int .i64 0, .int .i64 0, .int .i64 0, .int .i64 0, .int .i64 0, .int .i64 0, .int .i64 0, .int .i64 0, .int .i64 0, .int .i64 0, .int .i64 0, .int .i64 0, .int .i64 0, .int .i64 0, .int .i64 0, .int .i64 0, .int .i64 0, .int .i64 0, .int .i64 0, .int .i64 0, .int .i64 0, .int .i64 0] 47)).alloc (.cells #[Value.int .i64 0, .int .i64 0, .int .i64 0, .int .i64 0, .int .i64 0, .int .i64 0, .int .i64 0, .int .i64 0, .int .i64 0, .int .i64 0, .int .i64 0, .int .i64 0, .int .i64 0, .int .i64 0, .int .i64 0, .int .i64 0, .int .i64 0, .int .i64 0, .int .i64 0, .int .i64 0, .int .i64 0, .int .i64 0, .int .i64 0, .int .i64 0, .int .i64 0, .int .i64 0, .int .i64 0, .int .i64 0, .int .i64 0, .int .i64 0, .int .i64 0, .int .i64 0, .int .i64 0, .int .i64 0, .int .i64 0, .int .i64 0, .int .i64 0, .int .i64 0, .int .i64 0, .int .i64 0] 47)
 have k1 : Blk w1 w.heap.size 23 (bytesV kb) := blk_alloc (blk_alloc (blk_alloc (blk_new w 23 (bytesV kb)) _) _) _
 have p1 : Blk w1 (w.heap.size + 1) 49 (pkV n s) := by
  have := blk_alloc (blk_alloc (blk_new (w.alloc (.cells (bytesV kb) 23)) 49 (pkV n s)) (.cells #[Value.int .i64 0, .int .i64 0, .int .i64 0, .int .i64 0, .int .i64 0, .int .i64 0, .int .i64 0, .int .i64 0, .int .i64 0, .int .i64 0, .int .i64 0, .int .i64 0, .int .i64 0, .int .i64 0, .int .i64 0, .int .i64 0, .int .i64 0, .int .i64 0, .int .i64 0, .int .i64 0, .int .i64 0, .int .i64 0, .int .i64 0, .int .i64 0, .int .i64 0, .int .i64 0, .int .i64 0, .int .i64 0, .int .i64 0, .int .i64 0, .int .i64 0, .int .i64 0, .int .i64 0, .int .i64 0, .int .i64 0, .int .i64 0, .int .i64 0, .int .i64 0, .int .i64 0, .int .i64 0] 47)) (.cells #[Value.int .i64 0, .int .i64 0, .int .i64 0, .int .i64 0, .int .i64 0, .int .i64 0, .int .i64 0, .int .i64 0, .int .i64 0, .int .i64 0, .int .i64 0, .int .i64 0, .int .i64 0, .int .i64 0, .int .i64 0, .int .i64 0, .int .i64 0, .int .i64 0, .int .i64 0, .int .i64 0, .int .i64 0, .int .i64 0, .int .i64 0, .int .i64 0, .int .i64 0, .int .i64 0, .int .i64 0, .int .i64 0, .int .i64 0, .int .i64 0, .int .i64 0, .int .i64 0, .int .i64 0, .int .i64 0, .int .i64 0, .int .i64 0, .int .i64 0, .int .i64 0, .int .i64 0, .int .i64 0] 47)
  rw [World.size_alloc] at this
  exact this
 have p0 : Blk (((w.alloc (.cells (bytesV kb) 23)).alloc (.cells (pkV n s) 49)).alloc (.cells #[Value.int .i64 0, .int .i64 0, .int .i64 0, .int .i64 0, .int .i64 0, .int .i64 0, .int .i64 0, .int .i64 0, .int .i64 0, .int .i64 0, .int .i64 0, .int .i64 0, .int .i64 0, .int .i64 0, .int .i64 0, .int .i64 0, .int .i64 0, .int .i64 0, .int .i64 0, .int .i64 0, .int .i64 0, .int .i64 0, .int .i64 0, .int .i64 0, .int .i64 0, .int .i64 0, .int .i64 0, .int .i64 0, .int .i64 0, .int .i64 0, .int .i64 0, .int .i64 0, .int .i64 0, .int .i64 0, .int .i64 0, .int .i64 0, .int .i64 0, .int .i64 0, .int .i64 0, .int .i64 0] 47)) (w.heap.size + 1) 49 (pkV n s) := by
  have := blk_alloc (blk_new (w.alloc (.cells (bytesV kb) 23)) 49 (pkV n s)) (.cells #[Value.int .i64 0, .int .i64 0, .int .i64 0, .int .i64 0, .int .i64 0, .int .i64 0, .int .i64 0, .int .i64 0, .int .i64 0, .int .i64 0, .int .i64 0, .int .i64 0, .int .i64 0, .int .i64 0, .int .i64 0, .int .i64 0, .int .i64 0, .int .i64 0, .int .i64 0, .int .i64 0, .int .i64 0, .int .i64 0, .int .i64 0, .int .i64 0, .int .i64 0, .int .i64 0, .int .i64 0, .int .i64 0, .int .i64 0, .int .i64 0, .int .i64 0, .int .i64 0, .int .i64 0, .int .i64 0, .int .i64 0, .int .i64 0, .int .i64 0, .int .i64 0, .int .i64 0, .int .i64 0] 47)
  rw [World.size_alloc] at this
  exact this
 have r1 : Blk w1 (w.heap.size + 1 + 1) 47 #[Value.int .i64 0, .int .i64 0, .int .i64 0, .int .i64 0, .int .i64 0, .int .i64 0, .int .i64 0, .int .i64 0, .int .i64 0, .int .i64 0, .int .i64 0, .int .i64 0, .int .i64 0, .int .i64 0, .int .i64 0, .int .i64 0, .int .i64 0, .int .i64 0, .int .i64 0, .int .i64 0, .int .i64 0, .int .i64 0, .int .i64 0, .int .i64 0, .int .i64 0, .int .i64 0, .int .i64 0, .int .i64 0, .int .i64 0, .int .i64 0, .int .i64 0, .int .i64 0, .int .i64 0, .int .i64 0, .int .i64 0, .int .i64 0, .int .i64 0, .int .i64 0, .int .i64 0, .int .i64 0] := by
  have := blk_alloc (blk_new ((w.alloc (.cells (bytesV kb) 23)).alloc (.cells (pkV n s) 49)) 47 #[Value.int .i64 0, .int .i64 0, .int .i64 0, .int .i64 0, .int .i64 0, .int .i64 0, .int .i64 0, .int .i64 0, .int .i64 0, .int .i64 0, .int .i64 0, .int .i64 0, .int .i64 0, .int .i64 0, .int .i64 0, .int .i64 0, .int .i64 0, .int .i64 0, .int .i64 0, .int .i64 0, .int .i64 0, .int .i64 0, .int .i64 0, .int .i64 0, .int .i64 0, .int .i64 0, .int .i64 0, .int .i64 0, .int .i64 0, .int .i64 0, .int .i64 0, .int .i64 0, .int .i64 0, .int .i64 0, .int .i64 0, .int .i64 0, .int .i64 0, .int .i64 0, .int .i64 0, .int .i64 0]) (.cells #[Value.int .i64 0, .int .i64 0, .int .i64 0, .int .i64 0, .int .i64 0, .int .i64 0, .int .i64 0, .int .i64 0, .int .i64 0, .int .i64 0, .int .i64 0, .int .i64 0, .int .i64 0, .int .i64 0, .int .i64 0, .int .i64 0, .int .i64 0, .int .i64 0, .int .i64 0, .int .i64 0, .int .i64 0, .int .i64 0, .int .i64 0, .int .i64 0, .int .i64 0, .int .i64 0, .int .i64 0, .int .i64 0, .int .i64 0, .int .i64 0, .int .i64 0, .int .i64 0, .int .i64 0, .int .i64 0, .int .i64 0, .int .i64 0, .int .i64 0, .int .i64 0, .int .i64 0, .int .i64 0] 47)
  rw [World.size_alloc, World.size_alloc] at this
  exact this
 have s1 : Blk w1 (w.heap.size + 1 + 1 + 1) 47 #[Value.int .i64 0, .int .i64 0, .int .i64 0, .int .i64 0, .int .i64 0, .int .i64 0, .int .i64 0, .int .i64 0, .int .i64 0, .int .i64 0, .int .i64 0, .int .i64 0, .int .i64 0, .int .i64 0, .int .i64 0, .int .i64 0, .int .i64 0, .int .i64 0, .int .i64 0, .int .i64 0, .int .i64 0, .int .i64 0, .int .i64 0, .int .i64 0, .int .i64 0, .int .i64 0, .int .i64 0, .int .i64 0, .int .i64 0, .int .i64 0, .int .i64 0, .int .i64 0, .int .i64 0, .int .i64 0, .int .i64 0, .int .i64 0, .int .i64 0, .int .i64 0, .int .i64 0, .int .i64 0] := by
  have := blk_new (((w.alloc (.cells (bytesV kb) 23)).alloc (.cells (pkV n s) 49)).alloc (.cells #[Value.int .i64 0, .int .i64 0, .int .i64 0, .int .i64 0, .int .i64 0, .int .i64 0, .int .i64 0, .int .i64 0, .int .i64 0, .int .i64 0, .int .i64 0, .int .i64 0, .int .i64 0, .int .i64 0, .int .i64 0, .int .i64 0, .int .i64 0, .int .i64 0, .int .i64 0, .int .i64 0, .int .i64 0, .int .i64 0, .int .i64 0, .int .i64 0, .int .i64 0, .int .i64 0, .int .i64 0, .int .i64 0, .int .i64 0, .int .i64 0, .int .i64 0, .int .i64 0, .int .i64 0, .int .i64 0, .int .i64 0, .int .i64 0, .int .i64 0, .int .i64 0, .int .i64 0, .int .i64 0] 47)) 47 #[Value.int .i64 0, .int .i64 0, .int .i64 0, .int .i64 0, .int .i64 0, .int .i64 0, .int .i64 0, .int .i64 0, .int .i64 0, .int .i64 0, .int .i64 0, .int .i64 0, .int .i64 0, .int .i64 0, .int .i64 0, .int .i64 0, .int .i64 0, .int .i64 0, .int .i64 0, .int .i64 0, .int .i64 0, .int .i64 0, .int .i64 0, .int .i64 0, .int .i64 0, .int .i64 0, .int .i64 0, .int .i64 0, .int .i64 0, .int .i64 0, .int .i64 0, .int .i64 0, .int .i64 0, .int .i64 0, .int .i64 0, .int .i64 0, .int .i64 0, .int .i64 0, .int .i64 0, .int .i64 0]
  rw [World.size_alloc, World.size_alloc, World.size_alloc] at this
  exact this
 have b1 : Below w.heap.size w w1 := ((((Below.refl w.heap.size w).alloc (Nat.le_refl _) _).alloc (by simp) _).alloc (by simp; omega) _).alloc (by simp; omega) _
 have HKS := hid (key_size hk)
 have HPZ := hid (pk_size h.ok n)
 have HSZ := hid (shp_size h.ok)
 have HSL := hid (show (Tryz.prog.info? 47).map (·.size) = some (shV s).toList.length by rw [Array.length_toList]; exact shp_size h.ok)
 have HS40 := hid (show (shV s).size = (#[Value.int .i64 0, .int .i64 0, .int .i64 0, .int .i64 0, .int .i64 0, .int .i64 0, .int .i64 0, .int .i64 0, .int .i64 0, .int .i64 0, .int .i64 0, .int .i64 0, .int .i64 0, .int .i64 0, .int .i64 0, .int .i64 0, .int .i64 0, .int .i64 0, .int .i64 0, .int .i64 0, .int .i64 0, .int .i64 0, .int .i64 0, .int .i64 0, .int .i64 0, .int .i64 0, .int .i64 0, .int .i64 0, .int .i64 0, .int .i64 0, .int .i64 0, .int .i64 0, .int .i64 0, .int .i64 0, .int .i64 0, .int .i64 0, .int .i64 0, .int .i64 0, .int .i64 0, .int .i64 0] : Array Value).size by rw [ints_size, shp_len h.ok]; rfl)
 have PS := hid (pk_shape p0)
 have K1 := hid k1
 have P1 := hid p1
 have R1 := hid r1
 have S1 := hid s1
 have B1 := hid b1
 have HG := hid hS
 have HK := hid hk
 have HN := hid hn
 have HS := hid h
 have HP := hid hp
 have HW := hid (show tputL kb n s p = (wishL (bandI kb n).toNat (ownI kb n s) (aheadI kb p)).foldl (tstep kb n) s from rfl)
 clear k1 p1 p0 r1 s1 b1 hS hk hn h hp
 go_enter Tryz.func21, Tryz.ntmps21
 go_wp2_with (first | (refine wpList_load_mid rfl 47 _ rfl (w.heap.size + 1) 1 rfl _ _ PS.out Tryz.underlying47 rfl HSL.out ?_) | (refine wpList_store_blk rfl 47 _ _ rfl (w.heap.size + 1 + 1 + 1) 47 #[Value.int .i64 0, .int .i64 0, .int .i64 0, .int .i64 0, .int .i64 0, .int .i64 0, .int .i64 0, .int .i64 0, .int .i64 0, .int .i64 0, .int .i64 0, .int .i64 0, .int .i64 0, .int .i64 0, .int .i64 0, .int .i64 0, .int .i64 0, .int .i64 0, .int .i64 0, .int .i64 0, .int .i64 0, .int .i64 0, .int .i64 0, .int .i64 0, .int .i64 0, .int .i64 0, .int .i64 0, .int .i64 0, .int .i64 0, .int .i64 0, .int .i64 0, .int .i64 0, .int .i64 0, .int .i64 0, .int .i64 0, .int .i64 0, .int .i64 0, .int .i64 0, .int .i64 0, .int .i64 0] (shV s) rfl rfl S1.out HS40.out HSZ.out (ints_one s.flat) ?_; intro w2 n0 n1; have S2 := hid n0; have K2 := hid (blk_grown K1.out n1 (fun e => by injection e with e; omega)); have P2 := hid (blk_grown P1.out n1 (fun e => by injection e with e; omega)); have R2 := hid (blk_grown R1.out n1 (fun e => by injection e with e; omega)); have B2 := hid (below_grown B1.out n1 B1.out.size (by omega)); clear n0 n1) | (refine wpList_load_blk (by rfl) 47 _ rfl (w.heap.size + 1 + 1 + 1) rfl 47 (shV s) _ S2.out Tryz.underlying47 rfl HSZ.out ?_))
 have cr := tright_calls s w2 HS.out
 clear K1 P1 R1 S1 B1 PS
 refine cr.mono ?_
 rintro e w3 ⟨rfl, B3⟩
 have K3 := hid (blk_below K2.out B3 (blk_lt K2.out))
 have P3 := hid (blk_below P2.out B3 (blk_lt P2.out))
 have R3 := hid (blk_below R2.out B3 (blk_lt R2.out))
 have S3 := hid (blk_below S2.out B3 (blk_lt S2.out))
 have BB3 := hid (bnext B2.out B3)
 have cw := wishes_calls kb n s p w3 HK.out HN.out (signs_below HG.out BB3.out (signs_size HG.out)) HS.out HP.out
 clear cr B3 K2 P2 R2 S2 B2
 have hbi := bandI_in kb n
 have ho8 : (bandI kb n).toNat < 8 := by omega
 clear hbi
 generalize ownI kb n s = own at *
 generalize aheadI kb p = back at *
 generalize (bandI kb n).toNat = o at *
 have hwl : (wishL o own back).length = 6 := by simp [wishL]
 have hww : ∀ x ∈ wishL o own back, x.length = 2 := fun x hx => by
  obtain ⟨i, _, rfl⟩ := List.mem_map.1 hx
  rfl
 have HWI := hid (fun x hx => wishL_in (own := own) (back := back) ho8 x hx)
 generalize wishL o own back = ws at *
 have HWL := hid hwl
 have HXR := hid (fun (i : Nat) (hi : i < 6) (W : World) => run_index_row (P := Tryz.prog) (t := 100) (e := 99) (sz := 2) Tryz.underlying100 Tryz.underlying99 rfl (by kernel_rfl) (ints ws.flatten) i hi W)
 have HFE : Hid (∀ i, i < 6 → (ints ws.flatten).extract (i * 2) (i * 2 + 2) = ints (ws.getD i [])) := hid (fun i hi => by
  have hl := getD_all hww (i := i) (by omega) []
  apply Array.ext_getElem?
  intro j
  have hfl := row_len hww
  by_cases hj : j < 2
  · rw [Array.getElem?_extract, if_pos (by rw [ints_size, hfl]; omega), ints_get, row_at hww i j (by omega) hj, ints_get, List.getD_eq_getElem?_getD (l := ws.getD i []), List.getElem?_eq_getElem (by omega)]
    rfl
  · rw [Array.getElem?_eq_none (by rw [Array.size_extract, ints_size, hfl]; omega), Array.getElem?_eq_none (by rw [ints_size, hl]; omega)])
 clear hwl hww ho8
 go_wp2_with (first | (refine wpList_load_blk (by rfl) 23 _ rfl w.heap.size rfl 23 (bytesV kb) _ K3.out Tryz.underlying23 rfl HKS.out ?_) | (refine wpList_load_blk (by rfl) 49 _ rfl (w.heap.size + 1) rfl 49 (pkV n s) _ P3.out Tryz.underlying49 rfl HPZ.out ?_))
 refine cw.mono ?_
 rintro e w4 ⟨rfl, B4⟩
 have K4 := hid (blk_below K3.out B4 (blk_lt K3.out))
 have P4 := hid (blk_below P3.out B4 (blk_lt P3.out))
 have R4 := hid (blk_below R3.out B4 (blk_lt R3.out))
 have S4 := hid (blk_below S3.out B4 (blk_lt S3.out))
 have BB4 := hid (bnext BB3.out B4)
 clear cw B4 K3 P3 R3 S3 BB3
 go_wp2_with fail
 go_loopg [23] 6 (fun gg s23 wr => ∃ (i : Nat) (sx : Shp), i ≤ 6 ∧ 6 - i ≤ gg ∧ s23 = .int .i64 i ∧ Aside (SK sx ∧ (ws.take i).foldl (tstep kb n) s = sx) ∧ Aside (Below w.heap.size w wr) ∧ Aside (Blk wr w.heap.size 23 (bytesV kb)) ∧ Aside (Blk wr (w.heap.size + 1) 49 (pkV n s)) ∧ Aside (Blk wr (w.heap.size + 1 + 1) 47 #[Value.int .i64 0, .int .i64 0, .int .i64 0, .int .i64 0, .int .i64 0, .int .i64 0, .int .i64 0, .int .i64 0, .int .i64 0, .int .i64 0, .int .i64 0, .int .i64 0, .int .i64 0, .int .i64 0, .int .i64 0, .int .i64 0, .int .i64 0, .int .i64 0, .int .i64 0, .int .i64 0, .int .i64 0, .int .i64 0, .int .i64 0, .int .i64 0, .int .i64 0, .int .i64 0, .int .i64 0, .int .i64 0, .int .i64 0, .int .i64 0, .int .i64 0, .int .i64 0, .int .i64 0, .int .i64 0, .int .i64 0, .int .i64 0, .int .i64 0, .int .i64 0, .int .i64 0, .int .i64 0]) ∧ Aside (Blk wr (w.heap.size + 1 + 1 + 1) 47 (shV sx)))
 case atStart => exact ⟨0, s, Nat.zero_le _, by omega, rfl, ⟨HS.out, rfl⟩, BB4.out, K4.out, P4.out, R4.out, S4.out⟩
 case round =>
  clear K4 P4 R4 S4 BB4
  obtain ⟨i, sx, hi, hgi, rfl, hI, B, KK, P, R, S⟩ := hrel
  obtain ⟨hsx, hE⟩ := hI.out
  clear hI
  by_cases hlt : i < 6
  · have hiz : (i : Int) < 6 := by omega
    have hi0 : (0 : Int) ≤ i := by omega
    have hx := fun W => HXR.out i hlt W
    rw [HFE.out i hlt] at hx
    have hiw : i < ws.length := by rw [HWL.out]; exact hlt
    obtain ⟨b, bit, hxe, hb8⟩ := HWI.out _ (show ws.getD i [] ∈ ws by rw [List.getD_eq_getElem?_getD, List.getElem?_eq_getElem hiw]; exact List.getElem_mem hiw)
    have hE2 : (ws.take (i + 1)).foldl (tstep kb n) s = tstep kb n sx [(b : Int), bit] := by
     rw [List.take_add_one, List.getElem?_eq_getElem hiw, List.foldl_append, hE, ← hxe, List.getD_eq_getElem?_getD, List.getElem?_eq_getElem hiw]; rfl
    rw [hxe] at hx
    have HE2 := hid hE2
    have HSX := hid hsx
    have HB8 := hid hb8
    clear hE2 hE hiw hxe hsx
    have HTS := hid (show tstep kb n sx [(b : Int), bit] = if canB (sx.ys.getD b []) (subsetL kb n b) = false ∨ bit = oddI (sx.ys.getD b []) (subsetL kb n b) then sx else sx.put b (nearL (goodF kb n b bit sx.sd (sx.ys.getD b [])) (sx.ys.getD b [])) from rfl)
    obtain ⟨y, hy⟩ : ∃ y, sx.ys.getD b [] = y := ⟨_, rfl⟩
    rw [hy] at HTS
    have HY := hid hy
    have hyl : y.length = 4 := by rw [← hy]; exact shp_ylen HSX.out.ok hb8
    have hys : sumA y ≤ 12 := by rw [← hy]; exact getD_all HSX.out.sum (i := b) (by rw [HSX.out.ok.yl]; exact hb8) []
    have HYL := hid hyl
    have HYS := hid hys
    have HYP := hid (pul_size hyl)
    have hbz : (b : Int) < 8 := by omega
    have hbz0 : (0 : Int) ≤ b := by omega
    have hw2 : (ints [(b : Int), bit]).size = 2 := rfl
    have HW2 := hid hw2
    have K1 := hid (blk_alloc KK.out (.cells #[.int .i64 b, .int .i64 bit] 99))
    have P1 := hid (blk_alloc P.out (.cells #[.int .i64 b, .int .i64 bit] 99))
    have R1 := hid (blk_alloc R.out (.cells #[.int .i64 b, .int .i64 bit] 99))
    have S1 := hid (blk_alloc S.out (.cells #[.int .i64 b, .int .i64 bit] 99))
    have B1 := hid (B.out.alloc B.out.size (.cells #[.int .i64 b, .int .i64 bit] 99))
    have W1 : Hid (Blk (wr.alloc (.cells #[.int .i64 b, .int .i64 bit] 99)) wr.heap.size 99 (ints [(b : Int), bit])) := hid (blk_new wr _ _)
    have HGW := hid (blk_lt S.out)
    rw [show ints [(b : Int), bit] = #[.int .i64 b, .int .i64 bit] from rfl] at hx
    clear hw2 hyl hys hy hb8 KK P R S B
    go_wp2_with fail
    clear hx
    generalize wr.heap.size = gw at *
    generalize wr.alloc (.cells #[.int .i64 b, .int .i64 bit] 99) = w6 at *
    have k6 := blk_drew K1.out
    have n6 := pk_num (blk_drew P1.out)
    have b6 : w6.drew.cell? ⟨gw, 0, none⟩ = some (.int .i64 b) := blk_int (blk_drew W1.out) (i := 0) (by simp)
    have y6 : w6.drew.rangeAt (w.heap.size + 1 + 1 + 1) (8 + b * 4) (y.map (Value.int .i64)) := HY.out ▸ shp_range (blk_drew S1.out) HSX.out.ok HB8.out
    have cp := fun W hS => parity_calls kb n b y W HK.out (Nat.le_trans HN.out (by decide)) HB8.out hS HYL.out HYS.out
    refine plain_region (S := (fun L W => (L.getD 10 true = true ∨ Blk W w.heap.size 23 (bytesV kb)) ∧ (L.getD 10 true = true ∨ W.cell? ⟨w.heap.size + 1, 0, none⟩ = some (.int .i64 n)) ∧ (L.getD 10 true = true ∨ W.cell? ⟨gw, 0, none⟩ = some (.int .i64 b)) ∧ W.cell? ⟨gw, 0, none⟩ = some (.int .i64 b) ∧ (L.getD 10 true = true ∨ W.rangeAt (w.heap.size + 1 + 1 + 1) (8 + b * 4) (y.map (Value.int .i64))))) (by kernel_rfl) (⟨Or.inr k6, Or.inr n6, Or.inr b6, b6, Or.inr y6⟩) (fun hHeld => ?_)
    clear hHeld
    refine aB 0 10 rfl (fun _ _ h k => rL k.1 h) (yields_blk (by rfl) 23 _ rfl w.heap.size rfl 23 (bytesV kb) _ (fun _ h => h) Tryz.underlying23 rfl HKS.out) ⟨Or.inr k6, Or.inr n6, Or.inr b6, b6, Or.inr y6⟩ ?_
    refine aW 1 ⟨Or.inr k6, Or.inr n6, Or.inr b6, b6, Or.inr y6⟩ ?_
    refine aL 2 10 (fun _ _ h k => rL k.2.1 h) ⟨Or.inr k6, Or.inr n6, Or.inr b6, b6, Or.inr y6⟩ ?_
    refine aW 3 ⟨Or.inr k6, Or.inr n6, Or.inr b6, b6, Or.inr y6⟩ ?_
    refine aL 4 10 (fun _ _ h k => rL k.2.2.1 h) ⟨Or.inr k6, Or.inr n6, Or.inr b6, b6, Or.inr y6⟩ ?_
    refine aW 5 ⟨Or.inr k6, Or.inr n6, Or.inr b6, b6, Or.inr y6⟩ ?_
    refine aL 6 8 (fun _ _ _ k => k.2.2.2.1) ⟨Or.inr k6, Or.inr n6, Or.inr b6, b6, Or.inr y6⟩ ?_
    refine aW 7 ⟨Or.inr k6, Or.inr n6, Or.inr b6, b6, Or.inr y6⟩ ?_
    refine aW 8 ⟨Or.inr k6, Or.inr n6, Or.inr b6, b6, Or.inr y6⟩ ?_
    refine aB 9 10 rfl (fun _ _ h k => rL k.2.2.2.2 h) (yieldsIf_load_mid (by rfl) 44 _ rfl (w.heap.size + 1 + 1 + 1) (8 + b * 4) rfl _ _ (fun _ h => h) Tryz.underlying44 rfl HYP.out) ⟨Or.inr k6, Or.inr n6, Or.inr b6, b6, Or.inr y6⟩ ?_
    refine aR 10 (fun K hK => ?_)
    go_simp
    refine (cp _ (show Signs w6.drew from signs_below HG.out (below_draws B1.out 1) (signs_size HG.out))).mono ?_
    rintro e w7 ⟨rfl, B7⟩
    have K7 := hid (blk_below (blk_drew K1.out) B7 (blk_lt K1.out))
    have P7 := hid (blk_below (blk_drew P1.out) B7 (blk_lt P1.out))
    have R7 := hid (blk_below (blk_drew R1.out) B7 (blk_lt R1.out))
    have S7 := hid (blk_below (blk_drew S1.out) B7 (blk_lt S1.out))
    have W7 := hid (blk_below (blk_drew W1.out) B7 (blk_lt W1.out))
    have BB7 := hid (bnext (below_draws B1.out 1) B7)
    clear B7
    have b6 : w7.cell? ⟨gw, 0, none⟩ = some (.int .i64 b) := blk_int W7.out (i := 0) (by simp)
    refine hK.out _ _ (⟨Or.inl (by rfl), Or.inl (by rfl), Or.inl (by rfl), b6, Or.inl (by rfl)⟩) (fun hHeld => ?_)
    clear hK K
    try simp only [Act.put, tA, tB, tC]
    clear hHeld
    refine aW 11 ⟨Or.inl (by rfl), Or.inl (by rfl), Or.inl (by rfl), b6, Or.inl (by rfl)⟩ ?_
    refine aW 12 ⟨Or.inl (by rfl), Or.inl (by rfl), Or.inl (by rfl), b6, Or.inl (by rfl)⟩ ?_
    refine aW 13 ⟨Or.inl (by rfl), Or.inl (by rfl), Or.inl (by rfl), b6, Or.inl (by rfl)⟩ ?_
    refine aW 14 ⟨Or.inl (by rfl), Or.inl (by rfl), Or.inl (by rfl), b6, Or.inl (by rfl)⟩ ?_
    refine aW 15 ⟨Or.inl (by rfl), Or.inl (by rfl), Or.inl (by rfl), b6, Or.inl (by rfl)⟩ ?_
    refine anyU_done (by kernel_rfl) ?_ _
    clear k6 n6 b6 y6 cp K1 P1 R1 S1 B1 W1
    generalize canB y (subsetL kb n b) = can at *
    generalize oddI y (subsetL kb n b) = od at *
    cases can with
    | false =>
     have HX := hid (show tstep kb n sx [(b : Int), bit] = sx by rw [HTS.out, if_pos (Or.inl rfl)])
     clear HTS
     go_wp2_with fail
     go_roundg (6 - (i + 1))
     case measure => omega
     case rel => exact ⟨i + 1, sx, by omega, by omega, by go_num, ⟨HSX.out, HE2.out.trans HX.out⟩, BB7.out, K7.out, P7.out, R7.out, S7.out⟩
    | true =>
     have b7 : w7.cell? ⟨gw, 0, none⟩ = some (.int .i64 b) := blk_int W7.out (i := 0) (by simp)
     have he := fun W => eq_wish b bit b od W
     have HWZ := hid (show (Tryz.prog.info? 99).map (·.size) = some (#[.int .i64 b, .int .i64 bit] : Array Value).size by kernel_rfl)
     clear b6
     by_cases h : bit = od
     · rw [show ((b : Int) == b && bit == od) = true by simp [h]] at he
       have HX := hid (show tstep kb n sx [(b : Int), bit] = sx by rw [HTS.out, if_pos (Or.inr h)])
       clear HTS h
       go_wp2_with (first | (refine wpList_load_midG (by rfl) 99 _ rfl gw 0 rfl [.int .i64 b, .int .i64 bit] _ (blk_range W7.out) Tryz.underlying99 rfl HWZ.out ?_))
       go_roundg (6 - (i + 1))
       case measure => omega
       case rel => exact ⟨i + 1, sx, by omega, by omega, by go_num, ⟨HSX.out, HE2.out.trans HX.out⟩, BB7.out, K7.out, P7.out, R7.out, S7.out⟩
     · rw [show ((b : Int) == b && bit == od) = false by simp [h]] at he
       have HX := hid (show tstep kb n sx [(b : Int), bit] = sx.put b (nearL (goodF kb n b bit sx.sd y) y) by rw [HTS.out, if_neg (fun e => e.elim (fun e => Bool.noConfusion e) h)])
       clear HTS h
       have y7 := shp_range S7.out HSX.out.ok HB8.out
       rw [HY.out] at y7
       have Y7 := hid y7
       have K8 := hid (blk_alloc K7.out (.cells #[Value.int .i64 0, .int .i64 0, .int .i64 0, .int .i64 0] 44))
       have P8 := hid (blk_alloc P7.out (.cells #[Value.int .i64 0, .int .i64 0, .int .i64 0, .int .i64 0] 44))
       have R8 := hid (blk_alloc R7.out (.cells #[Value.int .i64 0, .int .i64 0, .int .i64 0, .int .i64 0] 44))
       have S8 := hid (blk_alloc S7.out (.cells #[Value.int .i64 0, .int .i64 0, .int .i64 0, .int .i64 0] 44))
       have W8 := hid (blk_alloc W7.out (.cells #[Value.int .i64 0, .int .i64 0, .int .i64 0, .int .i64 0] 44))
       have BB8 := hid (BB7.out.alloc BB7.out.size (.cells #[Value.int .i64 0, .int .i64 0, .int .i64 0, .int .i64 0] 44))
       have HGZ := hid (blk_lt W7.out)
       have HYZ := hid (show (Tryz.prog.info? 44).map (·.size) = some (ints y).size by rw [ints_size, HYL.out]; kernel_rfl)
       have HYW := hid (show (ints y).size = (#[Value.int .i64 0, .int .i64 0, .int .i64 0, .int .i64 0] : Array Value).size by rw [ints_size, HYL.out]; rfl)
       clear y7
       go_wp2_with (first | (refine wpList_load_midG (by rfl) 99 _ rfl gw 0 rfl [.int .i64 b, .int .i64 bit] _ (blk_range W7.out) Tryz.underlying99 rfl HWZ.out ?_) | (refine wpList_load_mid rfl 44 _ rfl (w.heap.size + 1 + 1 + 1) (8 + b * 4) rfl _ _ Y7.out Tryz.underlying44 rfl HYP.out ?_) | (refine wpList_store_blk rfl 44 _ _ rfl w7.heap.size 44 #[Value.int .i64 0, .int .i64 0, .int .i64 0, .int .i64 0] (ints y) rfl rfl (blk_new w7 _ _) HYW.out HYZ.out (ints_one _) ?_; intro w9 n0 n1; have Z9 := hid n0; have K9 := hid (blk_grown K8.out n1 (fun e => by injection e with e; have := HGZ.out; have := HGW.out; omega)); have P9 := hid (blk_grown P8.out n1 (fun e => by injection e with e; have := HGZ.out; have := HGW.out; omega)); have R9 := hid (blk_grown R8.out n1 (fun e => by injection e with e; have := HGZ.out; have := HGW.out; omega)); have S9 := hid (blk_grown S8.out n1 (fun e => by injection e with e; have := HGZ.out; have := HGW.out; omega)); have W9 := hid (blk_grown W8.out n1 (fun e => by injection e with e; have := HGZ.out; omega)); have BB9 := hid (below_grown BB8.out n1 BB8.out.size (by have := HGZ.out; have := HGW.out; omega)); clear n0 n1))
       clear K7 P7 R7 S7 W7 BB7 K8 P8 R8 S8 W8 BB8 Y7 he b7 HWZ HYW
       generalize w7.heap.size = gz at *
       obtain ⟨hnl, hns⟩ := nearL_in (good := goodF kb n b bit sx.sd y) HYL.out
       have HNP := hid (pul_size hnl)
       have HGI : Hid (GI kb n b bit s sx y w.heap.size (w.heap.size + 1) gw (w.heap.size + 1 + 1 + 1) gz w9.drew) := hid ⟨blk_drew K9.out, blk_drew P9.out, blk_drew W9.out, blk_drew S9.out, blk_drew Z9.out, signs_below HG.out (below_draws BB9.out 1) (signs_size HG.out)⟩
       have cn := nearest_calls y (goodF kb n b bit sx.sd y) (.pointer (some ⟨w.heap.size, 0, none⟩)) (.pointer (some ⟨w.heap.size + 1, 0, none⟩)) (.pointer (some ⟨gw, 0, none⟩)) (.pointer (some ⟨w.heap.size + 1 + 1 + 1, 0, none⟩)) (.pointer (some ⟨gz, 0, none⟩)) w9.drew HYL.out HYS.out (fun z W hz hzs hB => good_calls kb n b bit s sx y z w.heap.size (w.heap.size + 1) gw (w.heap.size + 1 + 1 + 1) gz W HK.out HN.out HB8.out HSX.out (sumA_pin HYL.out rfl HYS.out) hz hzs (gi_below HGI.out hB))
       have b9 : w9.drew.cell? ⟨gw, 0, none⟩ = some (.int .i64 b) := blk_int (blk_drew W9.out) (i := 0) (by simp)
       have z9 := blk_drew Z9.out
       clear hns HGI
       have HNL := hid hnl
       clear hnl
       generalize nearL (goodF kb n b bit sx.sd y) y = y2 at *
       refine plain_region (S := (fun L W => (L.getD 7 true = true ∨ W.cell? ⟨gw, 0, none⟩ = some (.int .i64 b)) ∧ (L.getD 4 true = true ∨ Blk W gz 44 (ints y)))) (by kernel_rfl) (⟨Or.inr b9, Or.inr z9⟩) (fun hHeld => ?_)
       clear hHeld
       refine aW 0 ⟨Or.inr b9, Or.inr z9⟩ ?_
       refine aL 1 7 (fun _ _ h k => rL k.1 h) ⟨Or.inr b9, Or.inr z9⟩ ?_
       refine aB 2 4 rfl (fun _ _ h k => rL k.2 h) (yields_blk (by rfl) 44 _ rfl gz rfl 44 (ints y) _ (fun _ h => h) Tryz.underlying44 rfl HYZ.out) ⟨Or.inr b9, Or.inr z9⟩ ?_
       refine aW 3 ⟨Or.inr b9, Or.inr z9⟩ ?_
       refine aW 5 ⟨Or.inr b9, Or.inr z9⟩ ?_
       refine aR 4 (fun K hK => ?_)
       go_simp
       refine cn.mono ?_
       rintro e w10 ⟨rfl, B10⟩
       have K10 := hid (blk_below (blk_drew K9.out) B10 (blk_lt K9.out))
       have P10 := hid (blk_below (blk_drew P9.out) B10 (blk_lt P9.out))
       have R10 := hid (blk_below (blk_drew R9.out) B10 (blk_lt R9.out))
       have S10 := hid (blk_below (blk_drew S9.out) B10 (blk_lt S9.out))
       have W10 := hid (blk_below (blk_drew W9.out) B10 (blk_lt W9.out))
       have BB10 := hid (bnext (below_draws BB9.out 1) B10)
       clear B10
       have b9 : w10.cell? ⟨gw, 0, none⟩ = some (.int .i64 b) := blk_int W10.out (i := 0) (by simp)
       refine hK.out _ _ (⟨Or.inr b9, Or.inl (by rfl)⟩) (fun hHeld => ?_)
       clear hK K
       try simp only [Act.put, tA, tB, tC]
       clear hHeld
       refine aW 6 ⟨Or.inr b9, Or.inl (by rfl)⟩ ?_
       refine aR 7 (fun K hK => ?_)
       obtain ⟨q1, q2⟩ := shp_store S10.out HSX.out.ok HB8.out HNL.out
       have S11 := hid q1
       have K11 := hid (blk_grown K10.out q2 (fun e => by injection e with e; omega))
       have P11 := hid (blk_grown P10.out q2 (fun e => by injection e with e; omega))
       have R11 := hid (blk_grown R10.out q2 (fun e => by injection e with e; omega))
       have BB11 := hid (below_grown BB10.out q2 BB10.out.size (by omega))
       have T10 := shp_there S10.out HSX.out.ok HB8.out
       clear q1 q2
       refine stepU_store (by rfl) 44 _ _ rfl (w.heap.size + 1 + 1 + 1) (8 + b * 4) (y2.map (Value.int .i64)) rfl rfl (by rw [List.length_map, HNL.out]; exact T10) HNP.out (ints_one1 _) ?_
       refine hK.out _ _ (⟨Or.inl (by rfl), Or.inl (by rfl)⟩) (fun hHeld => ?_)
       clear hK K
       try simp only [Act.put]
       clear hHeld
       refine anyU_done (by kernel_rfl) ?_ _
       clear b9 z9 T10
       generalize w10.setCells (w.heap.size + 1 + 1 + 1) (8 + b * 4) (y2.map (Value.int .i64)) = w11 at *
       go_wp2_with fail
       have HO := hid (tstep_ok (kb := kb) (n := n) (s := sx) (x := [(b : Int), bit]) HSX.out (show ((b : Int)).toNat < 8 by rw [Int.toNat_natCast]; exact HB8.out)).1
       go_roundg (6 - (i + 1))
       case measure => omega
       case rel => exact ⟨i + 1, sx.put b y2, by omega, by omega, by go_num, ⟨HX.out ▸ HO.out, HE2.out.trans HX.out⟩, BB11.out, K11.out, P11.out, R11.out, S11.out⟩
  · obtain rfl : i = 6 := by omega
    have HX := hid (show tputL kb n s p = sx by rw [HW.out, ← hE, ← HWL.out, List.take_length])
    have HSX := hid hsx
    have HSZ2 := hid (shp_size hsx.ok)
    have HS42 := hid (show (shV sx).size = (#[Value.int .i64 0, .int .i64 0, .int .i64 0, .int .i64 0, .int .i64 0, .int .i64 0, .int .i64 0, .int .i64 0, .int .i64 0, .int .i64 0, .int .i64 0, .int .i64 0, .int .i64 0, .int .i64 0, .int .i64 0, .int .i64 0, .int .i64 0, .int .i64 0, .int .i64 0, .int .i64 0, .int .i64 0, .int .i64 0, .int .i64 0, .int .i64 0, .int .i64 0, .int .i64 0, .int .i64 0, .int .i64 0, .int .i64 0, .int .i64 0, .int .i64 0, .int .i64 0, .int .i64 0, .int .i64 0, .int .i64 0, .int .i64 0, .int .i64 0, .int .i64 0, .int .i64 0, .int .i64 0] : Array Value).size by rw [ints_size, shp_len hsx.ok]; rfl)
    clear hE hsx
    go_wp2_with (first | (refine wpList_load_blk (by rfl) 47 _ rfl (w.heap.size + 1 + 1 + 1) rfl 47 (shV sx) _ S.out Tryz.underlying47 rfl HSZ2.out ?_) | (refine wpList_store_blk rfl 47 _ _ rfl (w.heap.size + 1 + 1) 47 #[Value.int .i64 0, .int .i64 0, .int .i64 0, .int .i64 0, .int .i64 0, .int .i64 0, .int .i64 0, .int .i64 0, .int .i64 0, .int .i64 0, .int .i64 0, .int .i64 0, .int .i64 0, .int .i64 0, .int .i64 0, .int .i64 0, .int .i64 0, .int .i64 0, .int .i64 0, .int .i64 0, .int .i64 0, .int .i64 0, .int .i64 0, .int .i64 0, .int .i64 0, .int .i64 0, .int .i64 0, .int .i64 0, .int .i64 0, .int .i64 0, .int .i64 0, .int .i64 0, .int .i64 0, .int .i64 0, .int .i64 0, .int .i64 0, .int .i64 0, .int .i64 0, .int .i64 0, .int .i64 0] (shV sx) rfl rfl R.out HS42.out HSZ2.out (ints_one sx.flat) ?_; intro w9 n0 n1))
    have B9 := hid (below_grown B.out n1 B.out.size (by omega))
    exact bodyPost_ret (results_cell_row rfl _ _ (w.heap.size + 1 + 1) 47 (shV sx) (0, 0) _ rfl n0 Tryz.underlying47 rfl HSZ2.out) rfl ⟨by rw [HX.out], B9.out⟩
end Go.Proofs.YtiigipnfnfpepaaGreatDoor
