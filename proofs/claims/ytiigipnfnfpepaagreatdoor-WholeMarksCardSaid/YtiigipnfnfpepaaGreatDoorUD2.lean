/- Towers: packets, one behind the other (plain). Towers: sent, walked. Towers: what Send does to a shape. Towers: Send. -/
import Derived.Test.YtiigipnfnfpepaaGreatDoorUD1
import Derived.Test.YtiigipnfnfpepaaGreatDoorUA
namespace Go.Proofs.YtiigipnfnfpepaaGreatDoor

theorem shapeL_y (f : List Int) (n : Int) {b : Nat} (hb : b < 8) : (shapeL f n).ys.getD b [] = yOf (f.map clampZ) n b := by
 show ((List.range 8).map (yOf (f.map clampZ) n)).getD b [] = _
 rw [List.getD_eq_getElem?_getD, List.getElem?_map, List.getElem?_range hb]; rfl
theorem shapeL_sk (f : List Int) (hl : f.length = 32) {n : Int} (hn : 0 ≤ n) : SK (shapeL f n) ∧ Given n (shapeL f n) := by
 have h : ∀ b, b < 8 → sumA ((shapeL f n).ys.getD b []) = (gpL (stepsL (f.map clampZ)) n).getD b 0 := fun b hb => by
  rw [shapeL_y f n hb]; exact (yOf_ok f hl hn hb).sum
 have hk := (gpL_keeps (stepsL (f.map clampZ)) hn).1
 refine ⟨⟨by have := shTo_ok f hl hn 8; rwa [shTo_all] at this, fun y hy => ?_⟩, h⟩
 obtain ⟨b, hb, rfl⟩ := List.mem_map.1 (show y ∈ (List.range 8).map (yOf (f.map clampZ) n) from hy)
 have hb := List.mem_range.1 hb
 have h1 := h b hb
 rw [shapeL_y f n hb] at h1
 rw [h1]
 exact (getD_all hk.all (i := b) (by rw [hk.len]; exact hb) 0).2
theorem given_same {n : Int} {s t : Shp} (h : Given n s) (k : Same s t) : Given n t := fun b hb => by
 rw [k.sum b hb, h b hb, k.sd]

def Does (D : Nat → Shp → List UInt8 → Shp) : Prop := ∀ n s p, SK s → SK (D n s p) ∧ Same s (D n s p)
def pktL (D : Nat → Shp → List UInt8 → Shp) (sz : Nat) (L : List (List Int)) : Nat → List UInt8
 | 0 => layL 0 (D 0 (shapeL (L.getD 0 []) (8 * (sz : Int) - 64)) []) sz
 | k + 1 => layL (k + 1) (D (k + 1) (shapeL (L.getD (k + 1) []) (8 * (sz : Int) - 64)) (pktL D sz L k)) sz
def aheadP (D : Nat → Shp → List UInt8 → Shp) (sz : Nat) (L : List (List Int)) : Nat → List UInt8
 | 0 => []
 | k + 1 => pktL D sz L k
theorem pktL_at (D : Nat → Shp → List UInt8 → Shp) (sz : Nat) (L : List (List Int)) (k : Nat) : pktL D sz L k = layL k (D k (shapeL (L.getD k []) (8 * (sz : Int) - 64)) (aheadP D sz L k)) sz := by
 cases k <;> rfl
theorem pktL_near {D : Nat → Shp → List UInt8 → Shp} {sz : Nat} {L M : List (List Int)} : ∀ k, (∀ i, i ≤ k → L.getD i [] = M.getD i []) → pktL D sz L k = pktL D sz M k
 | 0, h => by rw [pktL, pktL, h 0 (Nat.le_refl _)]
 | k + 1, h => by rw [pktL, pktL, h (k + 1) (Nat.le_refl _), pktL_near k (fun i hi => h i (by omega))]
def pktsL (D : Nat → Shp → List UInt8 → Shp) (sz : Nat) (L : List (List Int)) (k : Nat) : List (List UInt8) := (List.range k).map (pktL D sz L)
theorem pktsL_succ (D : Nat → Shp → List UInt8 → Shp) (sz : Nat) (L : List (List Int)) (k : Nat) : pktsL D sz L (k + 1) = pktsL D sz L k ++ [pktL D sz L k] := by
 simp [pktsL, List.range_succ]
theorem pktsL_len (D : Nat → Shp → List UInt8 → Shp) (sz : Nat) (L : List (List Int)) (k : Nat) : (pktsL D sz L k).length = k := by simp [pktsL]

theorem foldl_inv {A B : Type} {P : A → Prop} {f : A → B → A} (h : ∀ a b, P a → P (f a b)) : ∀ (l : List B) (a : A), P a → P (l.foldl f a)
 | [], _, ha => ha
 | b :: l, a, ha => foldl_inv h l (f a b) (h a b ha)
theorem oneO_cells (o : List UInt8) (n : Nat) (bit : Int) (h : o.length = (n + 7) / 8) : (oneO o n bit).length = (n + 1 + 7) / 8 := by
 rw [oneO, List.length_set, roomO]
 split
 · rw [List.length_append, h]; simp; omega
 · rw [h]; omega
theorem putS_cells (x : Int) : ∀ (n : Nat) (s : List UInt8 × Nat), s.1.length = (s.2 + 7) / 8 → (putS x n s).1.length = ((putS x n s).2 + 7) / 8
 | 0, _, h => h
 | i + 1, s, h => by rw [putS]; exact putS_cells x i _ (oneO_cells _ _ _ h)
theorem putO_cells (x : Int) (n : Nat) (s : List UInt8 × Nat) (h : s.1.length = (s.2 + 7) / 8) : (putO x n s).1.length = ((putO x n s).2 + 7) / 8 := by
 unfold putO
 split
 · exact h
 · exact putS_cells x n s h
theorem layW_cells (n : Nat) (s : Shp) : (layW n s).1.length = ((layW n s).2 + 7) / 8 := by
 unfold layW pulsW sidesW numW
 refine foldl_inv (P := fun st : Bits => st.1.length = (st.2 + 7) / 8) (fun st b h => putO_cells _ _ _ h) _ _ ?_
 exact foldl_inv (P := fun st : Bits => st.1.length = (st.2 + 7) / 8) (fun st b h => putO_cells _ _ _ h) _ _ (putO_cells _ _ _ rfl)
theorem layL_len {n : Nat} {s : Shp} {size : Nat} (h : SK s) (hG : Given (8 * (size : Int) - 64) s) (hn : n ≤ 65535) (h0 : 12 ≤ size) : (layL n s size).length = size := by
 have h1 := layW_len h hG hn h0
 rw [layL, sealL_len, List.length_append, List.length_replicate, layW_cells]
 omega
end Go.Proofs.YtiigipnfnfpepaaGreatDoor
namespace Go.Proofs.YtiigipnfnfpepaaGreatDoor
open Go.RowKit

def frL (ch : Nat) (zs : List Int) : List (List Int) := if ch = 1 then framesL zs else bothTo (framesL (midsL zs)) (framesL (sidesL zs)) (countN (zs.length / 2))
theorem frL_len {ch : Nat} (h : ch = 1 ∨ ch = 2) (zs : List Int) : (frL ch zs).length = cntN ch zs.length := by
 rcases h with rfl | rfl
 · rw [frL, if_pos rfl, framesL_len, cntN, Nat.one_mul, Nat.div_one]
 · rw [frL, if_neg (by decide), bothTo_len, cntN]
theorem tframes_calls (kb : List UInt8) (sz ch : Nat) (a : Option Addr) (n c : Nat) (zs : List Int) (w : World) (h : SetOk kb sz ch) (hz : zs.length = n) (hs : SlA w a zs) (h0 : a = none → c = 0) (hc : n ≤ c) (hc2 : c ≤ 9223372036854775807) (hS : Snd ch zs) :
 Calls Tryz.prog 44 #[.agg (setV kb sz ch), .slice a n c] w fun e w' => ∃ v, e = .returned (.tuple #[v, .int .i64 0]) ∧ SRow w' w.heap.size 94 32 v (frL ch zs) ∧ Below w.heap.size w w' := by
 rcases h.c with rfl | rfl
 · rw [frL, if_pos rfl]
   exact tframes1_calls kb sz a n c zs w h.k hz hs hS
 · rw [frL, if_neg (by decide)]
   exact tframes2_calls kb sz a n c zs w h.k hz hs h0 hc hc2 hS

theorem built_pk (n : Int) (l : List Int) (h : l.length = 40) : Tryz.prog.built 49 [(0, .int .i64 n), (1, .agg (ints l))] = some (ints (n :: l)) :=
 match l, h with
 | a0 :: a1 :: a2 :: a3 :: a4 :: a5 :: a6 :: a7 :: a8 :: a9 :: a10 :: a11 :: a12 :: a13 :: a14 :: a15 :: a16 :: a17 :: a18 :: a19 :: a20 :: a21 :: a22 :: a23 :: a24 :: a25 :: a26 :: a27 :: a28 :: a29 :: a30 :: a31 :: a32 :: a33 :: a34 :: a35 :: a36 :: a37 :: a38 :: a39 :: [], _ => (show _ = _ from by kernel_rfl)
theorem build_pk (n : Nat) {s : Shp} (h : SOk s) {a : Act} {op : Oper} (x y : Operand) (ho : op.op = .build 49 #[(0, x), (1, y)]) (hx : a.eval x = .int .i64 n) (hy : a.eval y = .agg (shV s)) (W : World) :
 (execOp a.eval op).run Tryz.prog W = .ok (.value (.agg (pkV n s))) W := by
 have := Go.run_build (P := Tryz.prog) W 49 #[(0, .int .i64 n), (1, .agg (shV s))] (pkV n s) (built_pk n s.flat (shp_len h))
 unfold execOp
 simp only [ho, List.map_toArray, List.map_cons, List.map_nil, hx, hy, Sem.run_bind, this, Result.andThen_ok]
 rfl

def DoOk (F : Nat) (caps : Array Value) (D : Nat → Shp → List UInt8 → Shp) (w0 : World) : Prop :=
 ∀ (W : World) (n : Nat) (s : Shp) (p : List UInt8), Below w0.heap.size w0 W → n ≤ 5000 → SK s → p.length ≤ 1000 →
  Calls Tryz.prog F (#[.int .i64 n, .agg (shV s), .string (str p)] ++ caps) W fun e w' => e = .returned (.agg (shV (D n s p))) ∧ Below W.heap.size W w'
theorem owns_ge {w : World} {base n s : Nat} {v : Value} {t : TypeId} {xs : List Value} (h : w.ownsRow base t s v n xs) : ∀ k, v.ownBlock = some k → base ≤ k := fun k hk => by
 rcases h.2 with ⟨rfl, _⟩ | ⟨g, cap, cur, rfl, hb, _⟩
 · simp [Value.ownBlock] at hk
 · simp only [Value.ownBlock, Option.some.injEq] at hk
   omega
theorem owns_base {w : World} {base base' n s : Nat} {v : Value} {t : TypeId} {xs : List Value} (h : w.ownsRow base t s v n xs) (hb : base' ≤ base) : w.ownsRow base' t s v n xs := by
 refine ⟨h.1, ?_⟩
 rcases h.2 with h | ⟨g, cap, cur, h1, h2, h3⟩
 · exact .inl h
 · exact .inr ⟨g, cap, cur, h1, by omega, h3⟩
def strsV (l : List (List UInt8)) : List Value := l.map fun p => Value.string (str p)

set_option maxRecDepth 20000 in
set_option maxHeartbeats 4000000 in
theorem sent_calls (kb : List UInt8) (sz ch : Nat) (a : Option Addr) (n c : Nat) (zs : List Int) (F : Nat) (caps : Array Value) (D : Nat → Shp → List UInt8 → Shp) (w : World) (h : SetOk kb sz ch) (hz : zs.length = n) (hs : SlA w a zs) (h0 : a = none → c = 0) (hc : n ≤ c) (hc2 : c ≤ 9223372036854775807) (hS : Snd ch zs) (hD : Does D)
 (eg : ∀ args w, (callFunc F args).run Tryz.prog w = .ok (.enter F args) w) (hF : DoOk F caps D w) :
 Calls Tryz.prog 19 #[.agg (setV kb sz ch), .slice a n c, .func (.func F) #[] caps] w fun e w' => ∃ v, e = .returned (.tuple #[v, .int .i64 0]) ∧ w'.ownsRow w.heap.size 9 1 v (frL ch zs).length (strsV (pktsL D sz (frL ch zs) (frL ch zs).length)) ∧ Below w.heap.size w w' := by
 have S1 := hid (blk_new w 28 (setV kb sz ch))
 have B1 := hid ((Below.refl w.heap.size w).alloc (Nat.le_refl _) (.cells (setV kb sz ch) 28))
 have HZ := hid (set_size kb sz ch h.k)
 have HK := hid h.k
 have HSA := hid hs
 have HF := hid hF
 have HD := hid hD
 have HS := hid (And.intro h.lo h.hi)
 have ck := checked_calls kb sz ch a n c zs (w.alloc (.cells (setV kb sz ch) 28)) h hz (slA_below hs B1.out) hS
 have cf := hid (fun W hW => tframes_calls kb sz ch a n c zs W h hz hW h0 hc hc2 hS)
 have hlen := frL_len h.c zs
 rw [hz] at hlen
 have hn : n ≤ 1000 := by have := hS.len; omega
 have hle := cntN_le h.c hn
 have hpos : 0 < cntN ch n := by unfold cntN countN; rcases h.c with rfl | rfl <;> omega
 generalize cntN ch n = k at *
 have HLE := hid (And.intro hpos hle)
 obtain ⟨L, hL⟩ : ∃ L, frL ch zs = L := ⟨_, rfl⟩
 have EL := hid hL
 have HLL := hid (show L.length = k by rw [← hL]; exact hlen)
 clear hlen hle hpos hn hS hs hz h hc hc2 h0 hF hD hL
 go_enter Tryz.func19, Tryz.ntmps19
 go_wp2_with (first | (refine wpList_load_blk (by rfl) 28 _ rfl w.heap.size rfl 28 (setV kb sz ch) _ S1.out Tryz.underlying28 rfl HZ.out ?_))
 refine ck.mono ?_
 rintro e w2 ⟨rfl, B⟩
 have S2 := hid (blk_below S1.out B (blk_lt S1.out))
 have B2 := hid (bnext B1.out B)
 have cf2 := cf.out w2 (slA_below HSA.out B2.out)
 rw [EL.out] at cf2
 clear ck S1 B1 B cf HSA
 go_wp2_with (first | (refine wpList_load_blk (by rfl) 28 _ rfl w.heap.size rfl 28 (setV kb sz ch) _ S2.out Tryz.underlying28 rfl HZ.out ?_))
 refine cf2.mono ?_
 rintro e w3 ⟨v, rfl, R, B⟩
 have S3 := hid (blk_below S2.out B (blk_lt S2.out))
 have B3 := hid (bnext B2.out B)
 obtain ⟨g, cap, rfl, hg, hg3, _⟩ := srow_at R (i := 0) (by rw [HLL.out]; exact HLE.out.1)
 rw [HLL.out] at R
 have R3 := hid R
 have HGG := hid (show w.heap.size < g from Nat.lt_of_lt_of_le (blk_lt S2.out) hg)
 rw [HLL.out]
 clear cf2 S2 B2 B R hg
 go_wp2_with fail
 have HSZ := hid (show ∀ u : List Int, u.length = 32 → (Tryz.prog.info? 94).map (·.size) = some (u.map (Value.int .i64)).length from fun u hu => by rw [List.length_map, hu]; kernel_rfl)
 have HFZ := hid (show ∀ u : List Int, u.length = 32 → (Tryz.prog.info? 94).map (·.size) = some (ints u).size from fun u hu => by rw [ints_size, hu]; kernel_rfl)
 have HFS := hid (show ∀ u : List Int, u.length = 32 → (ints u).size = (#[Value.int .i64 0, .int .i64 0, .int .i64 0, .int .i64 0, .int .i64 0, .int .i64 0, .int .i64 0, .int .i64 0, .int .i64 0, .int .i64 0, .int .i64 0, .int .i64 0, .int .i64 0, .int .i64 0, .int .i64 0, .int .i64 0, .int .i64 0, .int .i64 0, .int .i64 0, .int .i64 0, .int .i64 0, .int .i64 0, .int .i64 0, .int .i64 0, .int .i64 0, .int .i64 0, .int .i64 0, .int .i64 0, .int .i64 0, .int .i64 0, .int .i64 0, .int .i64 0] : Array Value).size from fun u hu => by rw [ints_size, hu]; rfl)
 have HG3 := hid hg3
 have HIS := hid (info_parts (P := Tryz.prog) (e := 9) (z := .string (str [])) (size := 1) (bytes := 16) (by kernel_rfl))
 go_loopg [11, 12, 36] k (fun gg s11 s12 s36 wr => ∃ i : Nat, i ≤ k ∧ k - i ≤ gg ∧ s36 = .int .i64 i ∧ s12 = .string (str (aheadP D sz L i)) ∧ Aside ((aheadP D sz L i).length ≤ 1000) ∧ Aside (Below w.heap.size w wr) ∧ Aside (Below w3.heap.size w3 wr) ∧ Aside (wr.ownsRow w3.heap.size 9 1 s11 i (strsV (pktsL D sz L i))))
 case atStart => exact ⟨0, Nat.zero_le _, by omega, rfl, rfl, Nat.zero_le _, B3.out, Below.refl _ _, World.ownsRow_nil _ _ _ _⟩
 case round =>
  obtain ⟨i, hi, hgi, rfl, rfl, AL, B, BW, O⟩ := hrel
  have S := hid (blk_below S3.out BW.out (blk_lt S3.out))
  have R := hid (srow_below R3.out BW.out (Nat.le_refl _))
  by_cases hlt : i < k
  · have hiz : (i : Int) < k := by omega
    have hi0 : (0 : Int) ≤ i := by omega
    have hi1 : (i : Int) ≤ 4096 := by have := HLE.out; omega
    obtain ⟨_, _, e1, hg2, hg3, y4⟩ := srow_at R.out (i := i) (by rw [HLL.out]; exact hlt)
    rw [HLL.out] at e1
    cases e1
    have hul : (L.getD i []).length = 32 := getD_all R.out.wid (i := i) (by rw [HLL.out]; exact hlt) []
    have HPK := hid (pktL_at D sz L i)
    have HPS := hid (pktsL_succ D sz L i)
    obtain ⟨u, hu⟩ : ∃ u, u = L.getD i [] := ⟨_, rfl⟩
    rw [← hu] at y4 hul HPK
    clear hu
    obtain ⟨ah, hah⟩ : ∃ ah, ah = aheadP D sz L i := ⟨_, rfl⟩
    rw [← hah] at HPK AL ⊢
    have HAH := hid hah
    clear hah
    have HU := hid hul
    have Y4 := hid y4
    have BX5 := hid ((Below.refl wr.heap.size wr).alloc (Nat.le_refl _) (.cells #[Value.int .i64 0, .int .i64 0, .int .i64 0, .int .i64 0, .int .i64 0, .int .i64 0, .int .i64 0, .int .i64 0, .int .i64 0, .int .i64 0, .int .i64 0, .int .i64 0, .int .i64 0, .int .i64 0, .int .i64 0, .int .i64 0, .int .i64 0, .int .i64 0, .int .i64 0, .int .i64 0, .int .i64 0, .int .i64 0, .int .i64 0, .int .i64 0, .int .i64 0, .int .i64 0, .int .i64 0, .int .i64 0, .int .i64 0, .int .i64 0, .int .i64 0, .int .i64 0] 94))
    have hgw := blk_lt S.out
    have HGX := hid hgw
    clear hul hg2 hg3 y4
    go_wp2_with (first | (refine wpList_load_mid rfl 94 _ rfl g (i * 32) rfl (u.map (Value.int .i64)) _ Y4.out Tryz.underlying94 rfl (HSZ.out u HU.out) ?_) | (refine wpList_store_blk rfl 94 _ _ rfl wr.heap.size 94 #[Value.int .i64 0, .int .i64 0, .int .i64 0, .int .i64 0, .int .i64 0, .int .i64 0, .int .i64 0, .int .i64 0, .int .i64 0, .int .i64 0, .int .i64 0, .int .i64 0, .int .i64 0, .int .i64 0, .int .i64 0, .int .i64 0, .int .i64 0, .int .i64 0, .int .i64 0, .int .i64 0, .int .i64 0, .int .i64 0, .int .i64 0, .int .i64 0, .int .i64 0, .int .i64 0, .int .i64 0, .int .i64 0, .int .i64 0, .int .i64 0, .int .i64 0, .int .i64 0] (ints u) rfl rfl (blk_new wr _ _) (HFS.out u HU.out) (HFZ.out u HU.out) (ints_one u) ?_; intro w6 n0 n1; have U6 := hid n0; have BX6 := hid (below_grown BX5.out n1 (by simp) (Nat.le_refl _)); have S6 := hid (blk_below S.out BX6.out (blk_lt S.out)); have c6 := set_sz S6.out HK.out; clear n0 n1 BX5) | (refine wpList_load_blk (by rfl) 94 _ rfl wr.heap.size rfl 94 (ints u) _ U6.out Tryz.underlying94 rfl (HFZ.out u HU.out) ?_))
    refine (shape_calls u sz w6 HU.out HS.out.1 HS.out.2).mono ?_
    rintro e w7 ⟨rfl, B7⟩
    have hsk := shapeL_sk u HU.out (show (0 : Int) ≤ 8 * (sz : Int) - 64 by have := HS.out; omega)
    obtain ⟨sh, hsh⟩ : ∃ sh, sh = shapeL u (8 * (sz : Int) - 64) := ⟨_, rfl⟩
    rw [← hsh] at hsk HPK ⊢
    have HSK := hid hsk.1
    have HGV := hid hsk.2
    have HSS := hid (shp_size hsk.1.ok)
    have HSO := hid (show (shV sh).size = (#[Value.int .i64 0, .int .i64 0, .int .i64 0, .int .i64 0, .int .i64 0, .int .i64 0, .int .i64 0, .int .i64 0, .int .i64 0, .int .i64 0, .int .i64 0, .int .i64 0, .int .i64 0, .int .i64 0, .int .i64 0, .int .i64 0, .int .i64 0, .int .i64 0, .int .i64 0, .int .i64 0, .int .i64 0, .int .i64 0, .int .i64 0, .int .i64 0, .int .i64 0, .int .i64 0, .int .i64 0, .int .i64 0, .int .i64 0, .int .i64 0, .int .i64 0, .int .i64 0, .int .i64 0, .int .i64 0, .int .i64 0, .int .i64 0, .int .i64 0, .int .i64 0, .int .i64 0, .int .i64 0] : Array Value).size by rw [ints_size, shp_len hsk.1.ok]; rfl)
    have BX7 := hid ((bnext BX6.out B7).alloc (bnext BX6.out B7).size (.cells #[Value.int .i64 0, .int .i64 0, .int .i64 0, .int .i64 0, .int .i64 0, .int .i64 0, .int .i64 0, .int .i64 0, .int .i64 0, .int .i64 0, .int .i64 0, .int .i64 0, .int .i64 0, .int .i64 0, .int .i64 0, .int .i64 0, .int .i64 0, .int .i64 0, .int .i64 0, .int .i64 0, .int .i64 0, .int .i64 0, .int .i64 0, .int .i64 0, .int .i64 0, .int .i64 0, .int .i64 0, .int .i64 0, .int .i64 0, .int .i64 0, .int .i64 0, .int .i64 0, .int .i64 0, .int .i64 0, .int .i64 0, .int .i64 0, .int .i64 0, .int .i64 0, .int .i64 0, .int .i64 0] 47))
    have HG7 := hid (bnext BX6.out B7).size
    clear B7 hsk hsh c6 U6 S6 BX6 Y4
    go_wp2_with (first | (refine wpList_store_blk rfl 47 _ _ rfl w7.heap.size 47 #[Value.int .i64 0, .int .i64 0, .int .i64 0, .int .i64 0, .int .i64 0, .int .i64 0, .int .i64 0, .int .i64 0, .int .i64 0, .int .i64 0, .int .i64 0, .int .i64 0, .int .i64 0, .int .i64 0, .int .i64 0, .int .i64 0, .int .i64 0, .int .i64 0, .int .i64 0, .int .i64 0, .int .i64 0, .int .i64 0, .int .i64 0, .int .i64 0, .int .i64 0, .int .i64 0, .int .i64 0, .int .i64 0, .int .i64 0, .int .i64 0, .int .i64 0, .int .i64 0, .int .i64 0, .int .i64 0, .int .i64 0, .int .i64 0, .int .i64 0, .int .i64 0, .int .i64 0, .int .i64 0] (shV sh) rfl rfl (blk_new w7 _ _) HSO.out HSS.out (ints_one sh.flat) ?_; intro w8 n0 n1; have Q8 := hid n0; have BX8 := hid (below_grown BX7.out n1 (by have := HG7.out; simp; omega) HG7.out); clear n0 n1 BX7))
    generalize w7.heap.size = gs at *
    have y3 := blk_drew Q8.out
    have BX8d := hid (below_draws BX8.out 1)
    have c8 : w8.drew.cell? ⟨w.heap.size, 16, none⟩ = some (.int .i64 sz) := set_sz (blk_below S.out BX8d.out HGX.out) HK.out
    have cF := HF.out w8.drew i sh ah (bnext B.out BX8d.out) (by have := HLE.out; omega) HSK.out AL.out
    have hd := HD.out i sh ah HSK.out
    obtain ⟨s2, hs2⟩ : ∃ s2, s2 = D i sh ah := ⟨_, rfl⟩
    rw [← hs2] at hd HPK cF
    have HSK2 := hid hd.1
    have hgv2 := given_same HGV.out hd.2
    have cl := fun W => pLay_calls i s2 sz W (by have := HLE.out; omega) hd.1 HS.out.1 HS.out.2 hgv2
    have HPL := hid (layL_len (n := i) hd.1 hgv2 (by have := HLE.out; omega) HS.out.1)
    clear hd hs2 hgv2
    rw [← HPK.out] at cl HPL
    obtain ⟨pk, hpk⟩ : ∃ pk, pk = pktL D sz L i := ⟨_, rfl⟩
    rw [← hpk] at cl HPL HPS
    have HPE := hid hpk
    clear hpk HPK
    refine plain_region (S := (fun L W => (L.getD 5 true = true ∨ Blk W gs 47 (shV sh)) ∧ (L.getD 9 true = true ∨ W.cell? ⟨w.heap.size, 16, none⟩ = some (.int .i64 sz)))) (by kernel_rfl) (⟨Or.inr y3, Or.inr c8⟩) (fun hHeld => ?_)
    clear hHeld
    refine aW 0 ⟨Or.inr y3, Or.inr c8⟩ ?_
    refine aW 1 ⟨Or.inr y3, Or.inr c8⟩ ?_
    refine aW 2 ⟨Or.inr y3, Or.inr c8⟩ ?_
    refine aB 3 5 rfl (fun _ _ h k => rL k.1 h) (yields_blk (by rfl) 47 _ rfl gs rfl 47 (shV sh) _ (fun _ h => h) Tryz.underlying47 rfl HSS.out) ⟨Or.inr y3, Or.inr c8⟩ ?_
    refine aW 4 ⟨Or.inr y3, Or.inr c8⟩ ?_
    refine aW 7 ⟨Or.inr y3, Or.inr c8⟩ ?_
    refine aL 8 9 (fun _ _ h k => rL k.2 h) ⟨Or.inr y3, Or.inr c8⟩ ?_
    refine aR 5 (fun K hK => ?_)
    go_simp
    refine cF.mono ?_
    rintro e w9 ⟨rfl, B9⟩
    have BX9 := hid (bnext BX8d.out B9)
    have c8 := set_sz (blk_below S.out BX9.out HGX.out) HK.out
    clear B9 cF
    refine hK.out _ _ (⟨Or.inl (by rfl), Or.inr c8⟩) (fun hHeld => ?_)
    clear hK K
    try simp only [Act.put, tA, tB, tC]
    clear hHeld
    refine aZ 6 (v := (.agg (pkV i s2))) rfl (Or.inl ⟨by rfl, fun W _ => build_pk i HSK2.out.ok (.tmp 49) (.tmp 54) rfl rfl rfl W⟩) ⟨Or.inl (by rfl), Or.inr c8⟩ ?_
    refine aR 9 (fun K hK => ?_)
    go_simp
    refine (cl _).mono ?_
    rintro e w10 ⟨rfl, B10⟩
    have BX10 := hid (bnext BX9.out B10)
    clear B10 cl c8
    refine hK.out _ _ (⟨Or.inl (by rfl), Or.inl (by rfl)⟩) (fun hHeld => ?_)
    clear hK K
    try simp only [Act.put, tA, tB, tC]
    clear hHeld
    refine aW 10 ⟨Or.inl (by rfl), Or.inl (by rfl)⟩ ?_
    refine aW 11 ⟨Or.inl (by rfl), Or.inl (by rfl)⟩ ?_
    refine aW 12 ⟨Or.inl (by rfl), Or.inl (by rfl)⟩ ?_
    refine aW 13 ⟨Or.inl (by rfl), Or.inl (by rfl)⟩ ?_
    refine aW 14 ⟨Or.inl (by rfl), Or.inl (by rfl)⟩ ?_
    refine anyU_done (by kernel_rfl) ?_ _
    clear y3 BX8 BX8d Q8 BX9
    obtain ⟨ie, hi1', hi2', hi3', hi4'⟩ := HIS.out
    have BX11 := hid (BX10.out.alloc BX10.out.size (.cells #[.string (str pk)] 9))
    have O11 := owns_below O.out BX11.out (Nat.le_refl _)
    have hb3 : w3.heap.size ≤ (w10.alloc (.cells #[.string (str pk)] 9)).heap.size := by have := BW.out.size; have := BX11.out.size; omega
    obtain ⟨v5, w5, hr5, O5, G5, _, P5⟩ := run_append_own_at (P := Tryz.prog) (w10.alloc (.cells #[.string (str pk)] 9)) w3.heap.size 31 31 9 ie (.string (str [])) 1 16 Tryz.underlying31 hi1' hi2' hi3' hi4' rfl (by decide) u11 i _ O11 ⟨w10.heap.size, 0, none⟩ 1 1 [.string (str pk)] rfl
     (fun j u hj => by
      match j, hj with
      | 0, hj => rw [← Option.some.inj hj]; exact (blk_cell (blk_new w10 9 #[.string (str pk)]) 0)
      | j + 1, hj => exact absurd hj (by simp)) (fun u hu => by rw [List.mem_singleton.1 hu]; rfl) (by unfold maxLen; have := HLE.out; omega) (by have := HLE.out; omega) hb3
    rw [show strsV (pktsL D sz L i) ++ [.string (str pk)] = strsV (pktsL D sz L (i + 1)) by rw [HPS.out, strsV, strsV, List.map_append]; rfl] at O5
    have HR5 := hid hr5
    have O5' := hid O5
    have hge := owns_ge O11
    have hlt3 := blk_lt S3.out
    have BB5 := hid ((bnext B.out BX11.out).grown G5 (bnext B.out BX11.out).size (fun q e => by have := hge q e; omega))
    have BW5 := hid ((bnext BW.out BX11.out).grown G5 (bnext BW.out BX11.out).size (fun q e => hge q e))
    have HAL : Hid ((aheadP D sz L (i + 1)).length ≤ 1000) := hid (by have := HPL.out; have := HS.out; rw [show aheadP D sz L (i + 1) = pk from HPE.out.symm]; omega)
    have HPE2 := hid (show aheadP D sz L (i + 1) = pk from HPE.out.symm)
    clear hge hlt3 hr5 O5 G5 P5 O11 hb3 BX11 BX10 hi1' hi2' hi3' hi4' c8 S R O B BW AL
    go_wp2_with (first | (at_builtin; refine Lib.wpList_append_run _ rfl _ _ _ _ rfl _ _ rfl rfl _ _ HR5.out ?_))
    go_roundg (k - (i + 1))
    case measure => omega
    case rel => exact ⟨i + 1, by omega, by omega, by go_num, by rw [HPE2.out], HAL.out, BB5.out, BW5.out, O5'.out⟩
  · obtain rfl : k = i := by omega
    have O5 := hid (owns_base O.out (show w.heap.size ≤ w3.heap.size by have := blk_lt S3.out; omega))
    clear S R O BW AL
    go_wp2_with fail
    go_ret2
    exact ⟨_, rfl, by rw [EL.out, HLL.out]; exact O5.out, B.out⟩
end Go.Proofs.YtiigipnfnfpepaaGreatDoor
namespace Go.Proofs.YtiigipnfnfpepaaGreatDoor
open Go.RowKit

def sendD (kb : List UInt8) (bw : List Bool) (n : Nat) (s : Shp) (p : List UInt8) : Shp := tputL kb n (mputL kb n (bw.getD (placeI kb n).toNat false) s).1 p
theorem sendD_does (kb : List UInt8) (bw : List Bool) : Does (sendD kb bw) := fun n s p h => by
 have h1 := mputL_ok (kb := kb) (n := n) (bit := bw.getD (placeI kb n).toNat false) h (by have := bandI_in kb n; omega)
 have h2 := tputL_ok (kb := kb) (n := n) (p := p) h1.1
 exact ⟨h2.1, same_trans h1.2 h2.2⟩

theorem stepU_store_blk {P : Program} {ops : Array Oper} {Q : Exit → Act → World → Prop} {o : Oper} {a : Act} {w : World} {K : Act → World → Prop} (hw : Region.wanted o (yielded ops a.tmps) = true) (ty : TypeId) (x y : Operand) (ho : o.op = .store ty x y)
 (g : Nat) (t : TypeId) (old new : Array Value) (hx : a.eval x = .pointer (some ⟨g, 0, none⟩)) (hy : a.eval y = .agg new)
 (hb : Blk w g t old) (hs : new.size = old.size) (hi : (P.info? ty).map (·.size) = some new.size) (h1 : new.all (·.oneCell') = true)
 (h : ∀ w', Blk w' g t new → w.grownBy w' (some g) → K (a.put o.dst undef) w') : if Region.wanted o (yielded ops a.tmps) = true then o.wp P a w K Q else K (a.put o.dst undef) w := by
 rw [if_pos hw]
 exact wp_store_mid ty x y ho g 0 new hx hy (by rw [hs]; exact blk_there hb) hi h1 (h _ (setCells_whole hb hs).1 (setCells_whole hb hs).2)

set_option maxRecDepth 20000 in
set_option maxHeartbeats 4000000 in
theorem sendF_calls (kb : List UInt8) (sz ch : Nat) (bw : List Bool) (gs gw : Nat) (n : Nat) (s : Shp) (p : List UInt8) (w : World) (hk : kb.length = 16) (hs : Blk w gs 28 (setV kb sz ch)) (hw : Blk w gw 38 (bools bw)) (hbw : bw.length = 127) (hS : Signs w) (hn : n ≤ 5000) (h : SK s) (hp : p.length ≤ 1000) :
 Calls Tryz.prog 20 #[.int .i64 n, .agg (shV s), .string (str p), .pointer (some ⟨gs, 0, none⟩), .pointer (some ⟨gw, 0, none⟩)] w fun e w' => e = .returned (.agg (shV (sendD kb bw n s p))) ∧ Below w.heap.size w w' := by
 have hpl := placeI_in kb n
 obtain ⟨pl, hpe⟩ : ∃ pl : Nat, placeI kb n = pl := ⟨(placeI kb n).toNat, by omega⟩
 have hpl0 : (0 : Int) ≤ pl := by omega
 have hpl1 : (pl : Int) < 127 := by omega
 have HSD := hid (show sendD kb bw n s p = tputL kb n (mputL kb n (bw.getD pl false) s).1 p by rw [sendD, hpe, Int.toNat_natCast])
 obtain ⟨bit, hbit⟩ : ∃ bit, bit = bw.getD pl false := ⟨_, rfl⟩
 rw [← hbit] at HSD
 have HGW := hid (show ∀ W, Blk W gw 38 (bools bw) → W.cell? ⟨gw, pl, none⟩ = some (.bool bit) from fun W hb => by rw [blk_bool hb (by omega), hbit])
 have hm := mputL_ok (kb := kb) (n := n) (bit := bit) h (by have := bandI_in kb n; omega)
 have cp := hid (fun W hS => place_calls kb n W hk (by omega) hS)
 rw [hpe] at cp
 have cm := hid (fun W hS => mput_calls kb n bit s W hk (by omega) hS h)
 have HSK1 := hid hm.1
 obtain ⟨s1, hs1⟩ : ∃ s1, s1 = (mputL kb n bit s).1 := ⟨_, rfl⟩
 obtain ⟨o1, ho1⟩ : ∃ o1, o1 = (mputL kb n bit s).2 := ⟨_, rfl⟩
 rw [← hs1] at cm HSK1 HSD
 rw [← ho1] at cm
 have ct := hid (fun W hS => tput_calls kb n s1 p W hk hn hS HSK1.out hp)
 have HSK2 := hid (show SK (tputL kb n s1 p) from (tputL_ok HSK1.out).1)
 rw [← HSD.out] at ct HSK2
 obtain ⟨s2, hs2⟩ : ∃ s2, s2 = sendD kb bw n s p := ⟨_, rfl⟩
 rw [← hs2] at ct HSK2 ⊢
 have HK := hid hk
 have HKS := hid (key_size hk)
 have S1 := hid hs
 have W1 := hid hw
 have G1 := hid hS
 have HSZ := hid (shp_size h.ok)
 have HSZ1 := hid (shp_size HSK1.out.ok)
 have HSZ2 := hid (shp_size HSK2.out.ok)
 have HSO1 := hid (show (shV s1).size = (shV s).size by rw [ints_size, ints_size, shp_len HSK1.out.ok, shp_len h.ok])
 have HSO2 := hid (show (shV s2).size = (#[Value.int .i64 0, .int .i64 0, .int .i64 0, .int .i64 0, .int .i64 0, .int .i64 0, .int .i64 0, .int .i64 0, .int .i64 0, .int .i64 0, .int .i64 0, .int .i64 0, .int .i64 0, .int .i64 0, .int .i64 0, .int .i64 0, .int .i64 0, .int .i64 0, .int .i64 0, .int .i64 0, .int .i64 0, .int .i64 0, .int .i64 0, .int .i64 0, .int .i64 0, .int .i64 0, .int .i64 0, .int .i64 0, .int .i64 0, .int .i64 0, .int .i64 0, .int .i64 0, .int .i64 0, .int .i64 0, .int .i64 0, .int .i64 0, .int .i64 0, .int .i64 0, .int .i64 0, .int .i64 0] : Array Value).size by rw [ints_size, shp_len HSK2.out.ok]; rfl)
 have BX := hid (((Below.refl w.heap.size w).alloc (Nat.le_refl _) (.cells (shV s) 47)).alloc (by simp) (.cells #[Value.int .i64 0, .int .i64 0, .int .i64 0, .int .i64 0, .int .i64 0, .int .i64 0, .int .i64 0, .int .i64 0, .int .i64 0, .int .i64 0, .int .i64 0, .int .i64 0, .int .i64 0, .int .i64 0, .int .i64 0, .int .i64 0, .int .i64 0, .int .i64 0, .int .i64 0, .int .i64 0, .int .i64 0, .int .i64 0, .int .i64 0, .int .i64 0, .int .i64 0, .int .i64 0, .int .i64 0, .int .i64 0, .int .i64 0, .int .i64 0, .int .i64 0, .int .i64 0, .int .i64 0, .int .i64 0, .int .i64 0, .int .i64 0, .int .i64 0, .int .i64 0, .int .i64 0, .int .i64 0] 47))
 have T1 := hid (blk_alloc (blk_new w 47 (shV s)) (.cells #[Value.int .i64 0, .int .i64 0, .int .i64 0, .int .i64 0, .int .i64 0, .int .i64 0, .int .i64 0, .int .i64 0, .int .i64 0, .int .i64 0, .int .i64 0, .int .i64 0, .int .i64 0, .int .i64 0, .int .i64 0, .int .i64 0, .int .i64 0, .int .i64 0, .int .i64 0, .int .i64 0, .int .i64 0, .int .i64 0, .int .i64 0, .int .i64 0, .int .i64 0, .int .i64 0, .int .i64 0, .int .i64 0, .int .i64 0, .int .i64 0, .int .i64 0, .int .i64 0, .int .i64 0, .int .i64 0, .int .i64 0, .int .i64 0, .int .i64 0, .int .i64 0, .int .i64 0, .int .i64 0] 47))
 have R1 := hid (show Blk ((w.alloc (.cells (shV s) 47)).alloc (.cells #[Value.int .i64 0, .int .i64 0, .int .i64 0, .int .i64 0, .int .i64 0, .int .i64 0, .int .i64 0, .int .i64 0, .int .i64 0, .int .i64 0, .int .i64 0, .int .i64 0, .int .i64 0, .int .i64 0, .int .i64 0, .int .i64 0, .int .i64 0, .int .i64 0, .int .i64 0, .int .i64 0, .int .i64 0, .int .i64 0, .int .i64 0, .int .i64 0, .int .i64 0, .int .i64 0, .int .i64 0, .int .i64 0, .int .i64 0, .int .i64 0, .int .i64 0, .int .i64 0, .int .i64 0, .int .i64 0, .int .i64 0, .int .i64 0, .int .i64 0, .int .i64 0, .int .i64 0, .int .i64 0] 47)) (w.heap.size + 1) 47 #[Value.int .i64 0, .int .i64 0, .int .i64 0, .int .i64 0, .int .i64 0, .int .i64 0, .int .i64 0, .int .i64 0, .int .i64 0, .int .i64 0, .int .i64 0, .int .i64 0, .int .i64 0, .int .i64 0, .int .i64 0, .int .i64 0, .int .i64 0, .int .i64 0, .int .i64 0, .int .i64 0, .int .i64 0, .int .i64 0, .int .i64 0, .int .i64 0, .int .i64 0, .int .i64 0, .int .i64 0, .int .i64 0, .int .i64 0, .int .i64 0, .int .i64 0, .int .i64 0, .int .i64 0, .int .i64 0, .int .i64 0, .int .i64 0, .int .i64 0, .int .i64 0, .int .i64 0, .int .i64 0] by
  have := blk_new (w.alloc (.cells (shV s) 47)) 47 #[Value.int .i64 0, .int .i64 0, .int .i64 0, .int .i64 0, .int .i64 0, .int .i64 0, .int .i64 0, .int .i64 0, .int .i64 0, .int .i64 0, .int .i64 0, .int .i64 0, .int .i64 0, .int .i64 0, .int .i64 0, .int .i64 0, .int .i64 0, .int .i64 0, .int .i64 0, .int .i64 0, .int .i64 0, .int .i64 0, .int .i64 0, .int .i64 0, .int .i64 0, .int .i64 0, .int .i64 0, .int .i64 0, .int .i64 0, .int .i64 0, .int .i64 0, .int .i64 0, .int .i64 0, .int .i64 0, .int .i64 0, .int .i64 0, .int .i64 0, .int .i64 0, .int .i64 0, .int .i64 0]
  rw [World.size_alloc] at this
  exact this)
 have HN := hid hn
 clear hpl hpe hbit hm hs1 ho1 hs2 hk hs hw hbw hS h hp HSD hn
 go_enter Tryz.func20, Tryz.ntmps20
 go_wp2_with fail
 generalize (w.alloc (.cells (shV s) 47)).alloc (.cells #[Value.int .i64 0, .int .i64 0, .int .i64 0, .int .i64 0, .int .i64 0, .int .i64 0, .int .i64 0, .int .i64 0, .int .i64 0, .int .i64 0, .int .i64 0, .int .i64 0, .int .i64 0, .int .i64 0, .int .i64 0, .int .i64 0, .int .i64 0, .int .i64 0, .int .i64 0, .int .i64 0, .int .i64 0, .int .i64 0, .int .i64 0, .int .i64 0, .int .i64 0, .int .i64 0, .int .i64 0, .int .i64 0, .int .i64 0, .int .i64 0, .int .i64 0, .int .i64 0, .int .i64 0, .int .i64 0, .int .i64 0, .int .i64 0, .int .i64 0, .int .i64 0, .int .i64 0, .int .i64 0] 47) = w1 at *
 have HKL := hid (show (Tryz.prog.info? 23).map (·.size) = some (bytesV kb).toList.length by rw [Array.length_toList]; exact HKS.out)
 have HGS := hid (blk_lt S1.out)
 have HGW2 := hid (blk_lt W1.out)
 have BXd := hid (below_draws BX.out 1)
 have k1 := set_key (blk_below S1.out BXd.out HGS.out) HK.out
 have k4 := k1
 have b8 := HGW.out _ (blk_below W1.out BXd.out HGW2.out)
 have s9 := blk_drew T1.out
 have R1d := hid (blk_drew R1.out)
 have T1d := hid s9
 have cp1 := cp.out w1.drew (signs_below G1.out BXd.out (signs_size G1.out))
 refine plain_region (S := (fun L W => (L.getD 10 true = true ∨ W.rangeAt gs 0 (bytesV kb).toList) ∧ (L.getD 6 true = true ∨ W.rangeAt gs 0 (bytesV kb).toList) ∧ (L.getD 10 true = true ∨ W.cell? ⟨gw, pl, none⟩ = some (.bool bit)) ∧ (L.getD 10 true = true ∨ Blk W w.heap.size 47 (shV s)))) (by kernel_rfl) (⟨Or.inr k1, Or.inr k4, Or.inr b8, Or.inr s9⟩) (fun hHeld => ?_)
 clear hHeld
 refine aW 0 ⟨Or.inr k1, Or.inr k4, Or.inr b8, Or.inr s9⟩ ?_
 refine aB 1 10 rfl (fun _ _ h k => rL k.1 h) (yieldsIf_load_mid (by rfl) 23 _ rfl gs 0 rfl _ _ (fun _ h => h) Tryz.underlying23 rfl HKL.out) ⟨Or.inr k1, Or.inr k4, Or.inr b8, Or.inr s9⟩ ?_
 refine aW 2 ⟨Or.inr k1, Or.inr k4, Or.inr b8, Or.inr s9⟩ ?_
 refine aW 3 ⟨Or.inr k1, Or.inr k4, Or.inr b8, Or.inr s9⟩ ?_
 refine aB 4 6 rfl (fun _ _ h k => rL k.2.1 h) (yieldsIf_load_mid (by rfl) 23 _ rfl gs 0 rfl _ _ (fun _ h => h) Tryz.underlying23 rfl HKL.out) ⟨Or.inr k1, Or.inr k4, Or.inr b8, Or.inr s9⟩ ?_
 refine aW 5 ⟨Or.inr k1, Or.inr k4, Or.inr b8, Or.inr s9⟩ ?_
 refine aB 9 10 rfl (fun _ _ h k => rL k.2.2.2 h) (yields_blk (by rfl) 47 _ rfl w.heap.size rfl 47 (shV s) _ (fun _ h => h) Tryz.underlying47 rfl HSZ.out) ⟨Or.inr k1, Or.inr k4, Or.inr b8, Or.inr s9⟩ ?_
 refine aR 6 (fun K hK => ?_)
 go_simp
 refine cp1.mono ?_
 rintro e w2 ⟨rfl, B2⟩
 have BX2 := hid (bnext BXd.out B2)
 have k1 := set_key (blk_below S1.out BX2.out HGS.out) HK.out
 have b8 := HGW.out _ (blk_below W1.out BX2.out HGW2.out)
 have s9 := blk_below T1d.out B2 (blk_lt T1d.out)
 have T2 := hid s9
 have R2 := hid (blk_below R1d.out B2 (blk_lt R1d.out))
 have cm2 := cm.out w2 (signs_below G1.out BX2.out (signs_size G1.out))
 clear B2 cp1 k4
 refine hK.out _ _ (⟨Or.inr k1, Or.inl (by rfl), Or.inr b8, Or.inr s9⟩) (fun hHeld => ?_)
 clear hK K
 try simp only [Act.put, tA, tB, tC]
 clear hHeld
 refine aW 7 ⟨Or.inr k1, Or.inl (by rfl), Or.inr b8, Or.inr s9⟩ ?_
 refine aL 8 10 (fun _ _ h k => rL k.2.2.1 h) ⟨Or.inr k1, Or.inl (by rfl), Or.inr b8, Or.inr s9⟩ ?_
 refine aR 10 (fun K hK => ?_)
 go_simp
 refine cm2.mono ?_
 rintro e w3 ⟨rfl, B3⟩
 have BX3 := hid (bnext BX2.out B3)
 have T3 := hid (blk_below T2.out B3 (blk_lt T2.out))
 have R3 := hid (blk_below R2.out B3 (blk_lt R2.out))
 clear B3 cm2 k1 b8 s9
 refine hK.out _ _ (⟨Or.inl (by rfl), Or.inl (by rfl), Or.inl (by rfl), Or.inl (by rfl)⟩) (fun hHeld => ?_)
 clear hK K
 try simp only [Act.put, tA, tB, tC]
 clear hHeld
 refine aW 11 ⟨Or.inl (by rfl), Or.inl (by rfl), Or.inl (by rfl), Or.inl (by rfl)⟩ ?_
 refine aW 12 ⟨Or.inl (by rfl), Or.inl (by rfl), Or.inl (by rfl), Or.inl (by rfl)⟩ ?_
 refine aW 13 ⟨Or.inl (by rfl), Or.inl (by rfl), Or.inl (by rfl), Or.inl (by rfl)⟩ ?_
 refine aR 14 (fun K hK => ?_)
 refine stepU_store_blk (by rfl) 47 _ _ rfl w.heap.size 47 (shV s) (shV s1) rfl rfl T3.out HSO1.out HSZ1.out (ints_one s1.flat) ?_
 intro w4 n0 n1
 have T4 := hid n0
 have R4 := hid (blk_grown R3.out n1 (fun e => by injection e with e; omega))
 have BX4 := hid (below_grown BX3.out n1 BX3.out.size (Nat.le_refl _))
 clear n0 n1
 refine hK.out _ _ (⟨Or.inl (by rfl), Or.inl (by rfl), Or.inl (by rfl), Or.inl (by rfl)⟩) (fun hHeld => ?_)
 clear hK K
 try simp only [Act.put]
 clear hHeld
 refine anyU_done (by kernel_rfl) ?_ _
 clear T3 R3 BX3 T2 R2 BX2 T1d R1d BXd
 clear k1 b8 s9 cp cm HGW BX T1 R1
 have KR := hid (set_key (blk_below S1.out BX4.out HGS.out) HK.out)
 have ct4 := ct.out w4 (signs_below G1.out BX4.out (signs_size G1.out))
 go_wp2_with (first | (refine wpList_load_mid rfl 23 _ rfl gs 0 rfl _ _ KR.out Tryz.underlying23 rfl HKL.out ?_) | (refine wpList_load_blk (by rfl) 47 _ rfl w.heap.size rfl 47 (shV s1) _ T4.out Tryz.underlying47 rfl HSZ1.out ?_) | (refine wpList_val (.agg (pkV n s1)) (by rfl) (build_pk n HSK1.out.ok (.tmp 25) (.tmp 26) rfl rfl rfl _) ?_))
 refine ct4.mono ?_
 rintro e w5 ⟨rfl, B5⟩
 have R5 := hid (blk_below R4.out B5 (blk_lt R4.out))
 have BX5 := hid (bnext BX4.out B5)
 clear ct ct4 B5 KR T4 R4 BX4
 go_wp2_with (first | (refine wpList_store_blk rfl 47 _ _ rfl (w.heap.size + 1) 47 #[Value.int .i64 0, .int .i64 0, .int .i64 0, .int .i64 0, .int .i64 0, .int .i64 0, .int .i64 0, .int .i64 0, .int .i64 0, .int .i64 0, .int .i64 0, .int .i64 0, .int .i64 0, .int .i64 0, .int .i64 0, .int .i64 0, .int .i64 0, .int .i64 0, .int .i64 0, .int .i64 0, .int .i64 0, .int .i64 0, .int .i64 0, .int .i64 0, .int .i64 0, .int .i64 0, .int .i64 0, .int .i64 0, .int .i64 0, .int .i64 0, .int .i64 0, .int .i64 0, .int .i64 0, .int .i64 0, .int .i64 0, .int .i64 0, .int .i64 0, .int .i64 0, .int .i64 0, .int .i64 0] (shV s2) rfl rfl R5.out HSO2.out HSZ2.out (ints_one s2.flat) ?_; intro w6 n0 n1; have R6 := hid n0; have BX6 := hid (below_grown BX5.out n1 BX5.out.size (by omega)); clear n0 n1))
 exact bodyPost_ret (results_cell_row rfl _ _ (w.heap.size + 1) 47 (shV s2) (0, 0) _ rfl R6.out Tryz.underlying47 rfl HSZ2.out) rfl ⟨rfl, BX6.out⟩
end Go.Proofs.YtiigipnfnfpepaaGreatDoor
namespace Go.Proofs.YtiigipnfnfpepaaGreatDoor
open Go.RowKit

def packetsL (kb : List UInt8) (sz ch : Nat) (pay : Int) (zs : List Int) : List (List UInt8) := pktsL (sendD kb (payW kb pay)) sz (frL ch zs) (frL ch zs).length

set_option maxRecDepth 20000 in
set_option maxHeartbeats 4000000 in
theorem send_calls (kb : List UInt8) (sz ch : Nat) (pay : Int) (a : Option Addr) (n c : Nat) (zs : List Int) (w : World) (h : SetOk kb sz ch) (hp0 : 0 ≤ pay) (hp1 : pay < 281474976710656) (hz : zs.length = n) (hs : SlA w a zs) (h0 : a = none → c = 0) (hc : n ≤ c) (hc2 : c ≤ 9223372036854775807) (hS : Snd ch zs) (hG : Signs w) :
 Calls Tryz.prog 8 #[.agg (setV kb sz ch), .int .i64 pay, .slice a n c] w fun e w' => ∃ v, e = .returned (.tuple #[v, .int .i64 0]) ∧ w'.ownsRow w.heap.size 9 1 v (packetsL kb sz ch pay zs).length (strsV (packetsL kb sz ch pay zs)) ∧ Below w.heap.size w w' := by
 rw [show (packetsL kb sz ch pay zs).length = (frL ch zs).length from pktsL_len _ _ _ _]
 have HPE := hid (show packetsL kb sz ch pay zs = pktsL (sendD kb (payW kb pay)) sz (frL ch zs) (frL ch zs).length from rfl)
 obtain ⟨pl, hpl⟩ : ∃ pl, pl = packetsL kb sz ch pay zs := ⟨_, rfl⟩
 rw [← hpl] at HPE ⊢
 clear hpl
 have S1 := hid (blk_new w 28 (setV kb sz ch))
 have B1 := hid ((Below.refl w.heap.size w).alloc (Nat.le_refl _) (.cells (setV kb sz ch) 28))
 have HZ := hid (set_size kb sz ch h.k)
 have HK := hid h.k
 have HKL := hid (show (Tryz.prog.info? 23).map (·.size) = some (bytesV kb).toList.length by rw [Array.length_toList]; exact key_size h.k)
 have K1 := hid (set_key S1.out HK.out)
 have HSA := hid hs
 have HG := hid hG
 have ck := loadLay_calls kb pay (w.alloc (.cells (setV kb sz ch) 28)) h.k hp0 hp1 (signs_below hG B1.out (signs_size hG))
 have cm := hid (fun W => tMay_calls kb sz ch W h)
 have HBL := hid (payW_len kb pay)
 have cs := hid (fun (W : World) (g g2 : Nat) (hW : SlA W a zs) (h1 : Blk W g 28 (setV kb sz ch)) (h2 : Blk W g2 38 (bools (payW kb pay))) (h3 : Signs W) => sent_calls kb sz ch a n c zs 20 #[.pointer (some ⟨g, 0, none⟩), .pointer (some ⟨g2, 0, none⟩)] (sendD kb (payW kb pay)) W h hz hW h0 hc hc2 hS (sendD_does kb _)
  (enters_at Tryz.func20 (by kernel_rfl) rfl)
  (fun V k s p hb hk hsk hp => sendF_calls kb sz ch (payW kb pay) g g2 k s p V h.k (blk_below h1 hb (blk_lt h1)) (blk_below h2 hb (blk_lt h2)) (payW_len kb pay) (signs_below h3 hb (signs_size h3)) hk hsk hp))
 obtain ⟨bw, hbw⟩ : ∃ bw, bw = payW kb pay := ⟨_, rfl⟩
 rw [← hbw] at ck HBL cs HPE
 clear hbw hS hs hz h hc hc2 h0 hG
 have HWZ := hid (show (Tryz.prog.info? 38).map (·.size) = some (bools bw).size by rw [bools_size, HBL.out]; kernel_rfl)
 have HWS := hid (show (bools bw).size = Tryz.zeroCells38.size by rw [show Tryz.zeroCells38 = bools (wTo 0 0) by kernel_rfl, bools_size, bools_size, HBL.out, wTo_len])
 go_enter Tryz.func8, Tryz.ntmps8
 go_wp2_with (first | (refine wpList_load_mid rfl 23 _ rfl w.heap.size 0 rfl _ _ K1.out Tryz.underlying23 rfl HKL.out ?_))
 refine ck.mono ?_
 rintro e w2 ⟨rfl, B⟩
 have S2 := hid (blk_alloc (blk_below S1.out B (blk_lt S1.out)) (.cells Tryz.zeroCells38 38))
 have B2 := hid ((bnext B1.out B).alloc (bnext B1.out B).size (.cells Tryz.zeroCells38 38))
 have HLT := hid (show w.heap.size < w2.heap.size from Nat.lt_of_lt_of_le (blk_lt S1.out) B.size)
 clear ck S1 B1 B K1
 go_wp2_with (first | (refine wpList_store_blk rfl 38 _ _ rfl w2.heap.size 38 Tryz.zeroCells38 (bools bw) rfl rfl (blk_new w2 _ _) HWS.out HWZ.out (bools_one bw) ?_; intro w3 n0 n1; have W3 := hid n0; have S3 := hid (blk_grown S2.out n1 (fun e => by injection e with e; have := HLT.out; omega)); have B3 := hid (below_grown B2.out n1 B2.out.size (by have := HLT.out; omega)); clear n0 n1 S2 B2) | (refine wpList_load_blk (by rfl) 28 _ rfl w.heap.size rfl 28 (setV kb sz ch) _ S3.out Tryz.underlying28 rfl HZ.out ?_))
 refine (cm.out _).mono ?_
 rintro e w4 ⟨rfl, B⟩
 have S4 := hid (blk_below S3.out B (blk_lt S3.out))
 have W4 := hid (blk_below W3.out B (blk_lt W3.out))
 have B4 := hid (bnext B3.out B)
 clear S3 W3 B3 B cm
 go_wp2_with (first | (refine wpList_load_blk (by rfl) 28 _ rfl w.heap.size rfl 28 (setV kb sz ch) _ S4.out Tryz.underlying28 rfl HZ.out ?_))
 refine (cs.out w4 w.heap.size w2.heap.size (slA_below HSA.out B4.out) S4.out W4.out (signs_below HG.out B4.out (signs_size HG.out))).mono ?_
 rintro e w5 ⟨v, rfl, O, B⟩
 have O5 := hid (owns_base O (show w.heap.size ≤ w4.heap.size from B4.out.size))
 have B5 := hid (bnext B4.out B)
 clear cs S4 W4 B4 O B
 go_wp2_with fail
 go_ret2
 exact ⟨_, rfl, by rw [HPE.out]; exact O5.out, B5.out⟩
end Go.Proofs.YtiigipnfnfpepaaGreatDoor
