/- The walk of LapNear. -/
import Derived.Test.YtlfiaaoegeodnaaLapN
namespace Go.Proofs.Ytlfiaaoegeodnaa
open Go.RowKit
attribute [local go_sem ↓] Go.wp_at_zero Go.wp_at_succ

theorem ownsRow_cut {w : World} {base n k : Nat} {g c : Nat} {zs : List Int} (h : w.ownsRow base 3 1 (.slice (some ⟨g, 0, none⟩) n c) n (zs.map (Value.int .i64))) (hk : k ≤ n) : SrcRow w (.slice (some ⟨g, 0, none⟩) k c) (zs.take k) := by
  have hl := h.1
  rw [List.length_map] at hl
  rcases src_owns h with ⟨h1, _⟩ | ⟨g', o, c', h1, h2⟩
  · cases h1
  · cases h1
    refine Or.inr ⟨g, 0, c, by rw [List.length_take, show min k zs.length = k by omega], fun j hj => ?_⟩
    rw [List.length_take] at hj
    rw [h2 j (by omega), getD_take (by omega)]

theorem src_alloc {w : World} {v : Value} {zs : List Int} (h : SrcRow w v zs) (o : Obj) : SrcRow (w.alloc o) v zs := by
  rcases h with h | ⟨g, o2, c, rfl, hc⟩
  · exact Or.inl h
  · exact Or.inr ⟨g, o2, c, rfl, fun j hj => by rw [World.cell?_alloc_lt _ _ _ (World.block_lt_of_cell? w _ (hc j hj))]; exact hc j hj⟩

set_option maxHeartbeats 4000000 in
theorem lapNear_walk (a0 : Option Addr) (n0 c0 : Nat) (zs0 : List Int) (a1 : Option Addr) (n1 c1 : Nat) (zs1 : List Int) (u2 : Int) (w : World) (l0 : zs0.length = n0) (m0 : n0 ≤ maxLen) (h : SlA w a0 zs0) (w0 : ∀ z ∈ zs0, (Lit.int .i64 z).wf = true)
    (l1 : zs1.length = n1) (m1 : n1 ≤ maxLen) (h1 : SlA w a1 zs1) (w1 : ∀ z ∈ zs1, (Lit.int .i64 z).wf = true) (w2 : (Lit.int .u16 u2).wf = true) :
    Calls Try.prog 25 #[.slice a0 n0 c0, .slice a1 n1 c1, .int .u16 u2] w (LawTrue w) := by
  have b2 : 0 ≤ u2 ∧ u2 ≤ 65535 := by simp [Lit.wf, IntKind.min, IntKind.max, IntKind.signed, IntKind.bits] at w2; omega
  clear w2
  obtain ⟨cut, rfl⟩ : ∃ c : Nat, u2 = c := ⟨u2.toNat, by omega⟩
  have hx := heldS_in zs0
  have hy := heldS_in zs1
  have hxl := heldS_len zs0
  have hyl := heldS_len zs1
  have ch0 := fun W (hW : SlA W a0 zs0) => held11_owns a0 n0 c0 zs0 W l0 m0 hW (wf_i64' w0)
  have ch1 := fun W (hW : SlA W a1 zs1) => held11_owns a1 n1 c1 zs1 W l1 m1 hW (wf_i64' w1)
  have H0 := Lib.hid h
  have H1 := Lib.hid h1
  clear h h1 w0 w1 l0 l1
  generalize heldS zs0 = x at *
  generalize heldS zs1 = y at *
  generalize hk : cut % (x.length + 1) = k at *
  have hkx : k ≤ x.length := by have := Nat.mod_lt cut (show 0 < x.length + 1 by omega); omega
  have hk384 : x.length ≤ 384 := by omega
  have hy384 : y.length ≤ 384 := by omega
  have htl : (x.take k).length = k := by rw [List.length_take]; omega
  have hzl : (x.take k ++ y).length = k + y.length := by rw [List.length_append, htl]
  have hz : AllIn 1048576 (x.take k ++ y) := by
    intro z hz
    rcases List.mem_append.1 hz with hz | hz
    · exact hx z (List.mem_of_mem_take hz)
    · exact hy z hz
  have hzg : ∀ q, q < k → x.getD q 0 = (x.take k ++ y).getD q 0 := fun q hq => by
    rw [List.getD_eq_getElem?_getD (l := x.take k ++ y), List.getElem?_append_left (by omega), ← List.getD_eq_getElem?_getD, getD_take hq]
  have cfx := fun W a c (hW : SlA W a x) => frames_calls a x.length c x W rfl (by omega) hW hx
  have cfz := fun W a c (hW : SlA W a (x.take k ++ y)) => frames_calls a (x.take k ++ y).length c (x.take k ++ y) W rfl (by omega) hW hz
  have hcx : ∀ i, 32 * i + 48 ≤ k → i + 1 < countN x.length := fun i hi => by unfold countN; omega
  have hcz : ∀ i, 32 * i + 48 ≤ k → i + 1 < countN (x.take k ++ y).length := fun i hi => by unfold countN; omega
  have hnear : ∀ i, 32 * i + 48 ≤ k → (framesL x).getD i [] = (framesL (x.take k ++ y)).getD i [] := fun i hi =>
    frames_near (fun q hq => hzg q (by omega)) (hcx i hi) (hcz i hi)
  have hcr := countN_room x.length
  have hcr2 := countN_room (x.take k ++ y).length
  have hfx := framesL_len x
  have hfz := framesL_len (x.take k ++ y)
  have hax := framesL_all x
  rw [hzl] at cfz hcz hcr2 hfz
  have X1 := Lib.hid hnear
  have X2 := Lib.hid hfx
  have X3 := Lib.hid hfz
  have X4 := Lib.hid hax
  have X5 := Lib.hid hcx
  have X6 := Lib.hid hcz
  have hkz3 : (cut : Int) % ((x.length : Int) + 1) = k := by rw [← hk]; push_cast; rfl
  have X8 := Lib.hid hzl
  have hkz2 : (k : Int) ≤ x.length := by omega
  clear hnear hfx hfz hax hcx hcz hzg hx hy hz hxl hyl hk htl hzl
  generalize framesL x = fx at *
  generalize framesL (x.take k ++ y) = fz at *
  generalize countN x.length = cx at *
  generalize countN (k + y.length) = cz at *
  go_enter Try.func25, Try.ntmps25
  go_wp2_with fail
  refine (awake11_calls _).mono ?_
  rintro e w1 ⟨rfl, hB⟩
  go_wp2_with fail
  refine (ch0 _ (slA_below H0.out hB)).mono ?_
  rintro e w2 ⟨v2, rfl, hO2, hC⟩
  have B2 := Lib.hid (bnext hB hC)
  have HH1 := Lib.hid (slA_below H1.out B2.out)
  obtain ⟨a2, c2, hv2, -, hS2⟩ := slA_owns hO2
  have S2 := Lib.hid hS2
  clear hB hC ch0 H0 H1 hS2
  have hs2 := B2.out.size
  rcases hO2.2 with ⟨rfl, hx0⟩ | ⟨g, cap, cur, hv3, hg, hg2, hcap, -⟩
  · have hxe : x = [] := List.length_eq_zero_iff.1 hx0
    subst hxe
    have hk00 : k = 0 := by simpa using hkx
    subst hk00
    clear hx0 hv2 hkz3 hkz2 hkx hk384
    have hkz3 : (cut : Int) % 1 = 0 := by omega
    have hkz4 : cut % 1 = 0 := by omega
    simp only [List.take_nil, List.nil_append, List.length_nil, Nat.zero_add] at cfx cfz hcr hcr2 S2
    clear X1 X2 X3 X4 X5 X6 X8
    have HE := Lib.hid (World.ownsRow_lit (e := 3) (size := 1) w2 #[] 0 (Nat.le_refl _) (by unfold maxLen; omega) rfl)
    clear hO2
    go_wp2_with (first | (at_builtin; refine wpList_append_src _ rfl _ _ rfl w2.heap.size _ 0 [] rfl HE.out _ [] rfl (Or.inl ⟨rfl, rfl⟩) (by simp) (by simp) ?_; intro v3 w3 hO3 hG3))
    rw [List.nil_append, Nat.zero_add, List.length_nil] at hO3
    have O3 := Lib.hid hO3
    have hE3 : Below w2.heap.size w2 w3 := (((Below.refl _ w2).alloc (Nat.le_refl _) (.cells #[] 3))).grown hG3 (by simp) (fun k e => by cases e; exact Nat.le_refl _)
    have HH3 := Lib.hid (slA_below HH1.out hE3)
    have E3 := Lib.hid hE3
    clear hO3 hG3 hE3 HE HH1
    go_wp2_with fail
    refine (ch1 _ HH3.out).mono ?_
    rintro e w4 ⟨v4, rfl, hO4, hC⟩
    have O4 := Lib.hid (owns_below O3.out hC (Nat.le_refl _))
    have R4 := Lib.hid (src_owns hO4)
    have hE4 := bnext E3.out hC
    have hs4 := hE4.size
    have E4 := Lib.hid hE4
    clear hO4 hC hE4 O3 E3 HH3 ch1
    go_wp2_with (first | (at_builtin; refine wpList_append_src _ rfl _ _ rfl w2.heap.size _ 0 [] rfl O4.out _ y rfl R4.out (by omega) hs4 ?_; intro v5 w5 hO5 hG5))
    have hol := O4.out.lt
    have hE5 := E4.out.grown hG5 hs4 (fun k e => (hol k e).1)
    have B5 := Lib.hid (bnext B2.out hE5)
    rw [List.nil_append, Nat.zero_add] at hO5
    obtain ⟨a5, c5, rfl, -, hZ5⟩ := slA_owns hO5
    have Z5 := Lib.hid hZ5
    clear hE5 hol hG5 hO5 hZ5 O4 E4 R4 B2
    go_wp2_with fail
    refine (cfx _ none 0 (slA_nil _ _)).mono ?_
    rintro e w6 ⟨g6, rfl, hg6, hb6, hC⟩
    have Z6 := Lib.hid (slA_below Z5.out hC)
    have B6 := Lib.hid (bnext B5.out hC)
    have F6 := Lib.hid (blkP_of hb6)
    clear hC Z5 B5 hb6 cfx
    go_wp2_with fail
    refine (cfz _ _ _ Z6.out).mono ?_
    rintro e w7 ⟨g7, rfl, hg7, hb7, hC⟩
    have B7 := Lib.hid (bnext B6.out hC)
    have F7 := Lib.hid (blkP_below F6.out hC (blkP_lt F6.out))
    have G7 := Lib.hid (blkP_of hb7)
    clear hC Z6 B6 F6 hb7 cfz
    clear hg6 hg7
    clear hs4
    go_wp2_with fail
    go_loopg [14] cx (fun gg s14 wr => ∃ i : Nat, i ≤ cx ∧ cx - i ≤ gg ∧ s14 = .int .i64 i ∧ Aside (Below w.heap.size w wr) ∧ Aside (BlkP wr g6 44 (flat fx)) ∧ Aside (BlkP wr g7 44 (flat fz)))
    case atStart => exact ⟨0, Nat.zero_le _, by omega, rfl, B7.out, F7.out, G7.out⟩
    case round =>
      clear B7 F7 G7
      obtain ⟨i, hi, hgi, rfl, B, F, G⟩ := hrel
      have k3 : ¬ 32 * (i : Int) + 48 ≤ 0 := by omega
      by_cases h1 : i < cx
      · have k1 : (i : Int) < cx := by omega
        by_cases h2 : i < cz
        · have k2 : (i : Int) < cz := by omega
          go_wp2_with fail
          go_ret
          exact ⟨rfl, B.out⟩
        · have k2 : ¬ (i : Int) < cz := by omega
          go_wp2_with fail
          go_ret
          exact ⟨rfl, B.out⟩
      · have k1 : ¬ (i : Int) < cx := by omega
        go_wp2_with fail
        go_ret
        exact ⟨rfl, B.out⟩
  · subst hv3
    have C2 := Lib.hid (ownsRow_cut hO2 hkx)
    cases hv2
    have hkc : (k : Int) ≤ c2 := by omega
    have hk0 : 0 ≤ (k : Int) := by omega
    have HE := Lib.hid (World.ownsRow_lit (e := 3) (size := 1) w2 #[] 0 (Nat.le_refl _) (by unfold maxLen; omega) rfl)
    have hg3 : g < w2.heap.size := (Array.getElem?_eq_some_iff.1 hg2).1
    clear hO2 hcap hg2
    go_wp2_with (first | (at_builtin; refine wpList_append_src _ rfl _ _ rfl w2.heap.size _ 0 [] rfl HE.out _ (x.take k) rfl (src_alloc C2.out _) (by rw [List.length_take]; omega) (by simp) ?_; intro v3 w3 hO3 hG3))
    rw [List.nil_append, Nat.zero_add, List.length_take, Nat.min_eq_left hkx] at hO3
    have O3 := Lib.hid hO3
    have hE3 : Below w2.heap.size w2 w3 := (((Below.refl _ w2).alloc (Nat.le_refl _) (.cells #[] 3))).grown hG3 (by simp) (fun k e => by cases e; exact Nat.le_refl _)
    have HH3 := Lib.hid (slA_below HH1.out hE3)
    have E3 := Lib.hid hE3
    clear hO3 hG3 hE3 HE C2 HH1
    go_wp2_with fail
    refine (ch1 _ HH3.out).mono ?_
    rintro e w4 ⟨v4, rfl, hO4, hC⟩
    have O4 := Lib.hid (owns_below O3.out hC (Nat.le_refl _))
    have R4 := Lib.hid (src_owns hO4)
    have hE4 := bnext E3.out hC
    have hs4 := hE4.size
    have E4 := Lib.hid hE4
    clear hO4 hC hE4 O3 E3 HH3 ch1
    go_wp2_with (first | (at_builtin; refine wpList_append_src _ rfl _ _ rfl w2.heap.size _ k (x.take k) rfl O4.out _ y rfl R4.out (by omega) hs4 ?_; intro v5 w5 hO5 hG5))
    have hol := O4.out.lt
    have hE5 := E4.out.grown hG5 hs4 (fun k e => (hol k e).1)
    have S5 := Lib.hid (slA_below S2.out hE5)
    have B5 := Lib.hid (bnext B2.out hE5)
    obtain ⟨a5, c5, rfl, -, hZ5⟩ := slA_owns hO5
    have Z5 := Lib.hid hZ5
    rw [X8.out]
    clear hE5 hol hG5 hO5 hZ5 O4 E4 R4 S2 B2
    go_wp2_with fail
    refine (cfx _ _ _ S5.out).mono ?_
    rintro e w6 ⟨g6, rfl, hg6, hb6, hC⟩
    have Z6 := Lib.hid (slA_below Z5.out hC)
    have B6 := Lib.hid (bnext B5.out hC)
    have F6 := Lib.hid (blkP_of hb6)
    clear hC S5 Z5 B5 hb6 cfx
    go_wp2_with fail
    refine (cfz _ _ _ Z6.out).mono ?_
    rintro e w7 ⟨g7, rfl, hg7, hb7, hC⟩
    have B7 := Lib.hid (bnext B6.out hC)
    have F7 := Lib.hid (blkP_below F6.out hC (blkP_lt F6.out))
    have G7 := Lib.hid (blkP_of hb7)
    clear hC Z6 B6 F6 hb7 cfz
    clear hg6 hg7
    clear hs4
    go_wp2_with fail
    go_loopg [14] cx (fun gg s14 wr => ∃ i : Nat, i ≤ cx ∧ cx - i ≤ gg ∧ s14 = .int .i64 i ∧ Aside (Below w.heap.size w wr) ∧ Aside (BlkP wr g6 44 (flat fx)) ∧ Aside (BlkP wr g7 44 (flat fz)))
    case atStart => exact ⟨0, Nat.zero_le _, by omega, rfl, B7.out, F7.out, G7.out⟩
    case round =>
      clear B7 F7 G7
      obtain ⟨i, hi, hgi, rfl, B, F, G⟩ := hrel
      by_cases hn : 32 * i + 48 ≤ k
      · have h1 := X5.out i hn
        have h2 := X6.out i hn
        have k1 : (i : Int) < cx := by omega
        have k2 : (i : Int) < cz := by omega
        have k3 : 32 * (i : Int) + 48 ≤ k := by omega
        have k4 : 0 ≤ (i : Int) := by omega
        have hf := X4.out i (by rw [X2.out]; omega)
        have hr1 := frameP_range F.out (i := i) (o := i * 32) (by rw [X2.out]; omega) hf rfl
        have hr2 := frameP_range G.out (i := i) (o := i * 32) (by rw [X3.out]; omega) (by rw [← X1.out i hn]; exact hf) rfl
        rw [← X1.out i hn] at hr2
        generalize fx.getD i [] = f at *
        have ef : ∀ W, (Op.equalIn 10000 44 (.agg (f.map (Value.int .i64)).toArray) (.agg (f.map (Value.int .i64)).toArray)).run Try.prog W = .ok true W := fun W => same_frames hf W
        have hfs : (Try.prog.info? 44).map (·.size) = some (f.map (Value.int .i64)).length := by rw [List.length_map, hf]; kernel_rfl
        have hu := Try.underlying44
        clear hf
        go_upto_region 11 with (fail)
        refine wp_region_held_drew (S := (fun W => W.rangeAt g6 (i * 32) (f.map (Value.int .i64)) ∧ W.rangeAt g7 (i * 32) (f.map (Value.int .i64)))) (by kernel_rfl) ⟨(World.rangeAt_drew _ _ _ _).2 hr1, (World.rangeAt_drew _ _ _ _).2 hr2⟩ (fun hHeld => ?_)
        refine wpAnyH_take (i := 0) (oi := ⟨_, _, _, _, _, _⟩) (v := ?_) rfl (by kernel_rfl) (by kernel_rfl) (by kernel_rfl) (fun _ _ _ h => h) (Or.inl ⟨by rfl, ?_⟩) (by assumption) ?_
        rotate_left
        · intro W hSw
          try dsimp only at hSw
          go_simp
          try with_reducible rfl
        try simp only [Act.put, List.setIfInBounds_toArray, List.set_cons_zero, List.set_cons_succ]
        refine wpAnyH_take (i := 1) (oi := ⟨_, _, _, _, _, _⟩) (v := ?_) rfl (by kernel_rfl) (by kernel_rfl) (by kernel_rfl) (fun _ _ _ h => h) (Or.inl ⟨by rfl, ?_⟩) (by assumption) ?_
        rotate_left
        · intro W hSw
          try dsimp only at hSw
          go_simp
          try with_reducible rfl
        try simp only [Act.put, List.setIfInBounds_toArray, List.set_cons_zero, List.set_cons_succ]
        refine wpAnyH_take (i := 2) (oi := ⟨_, _, _, _, _, _⟩) (v := ?_) rfl (by kernel_rfl) (by kernel_rfl) (by kernel_rfl) (fun _ _ _ h => h) (Or.inl ⟨by rfl, ?_⟩) (by assumption) ?_
        rotate_left
        · intro W hSw
          try dsimp only at hSw
          go_simp
          try with_reducible rfl
        try simp only [Act.put, List.setIfInBounds_toArray, List.set_cons_zero, List.set_cons_succ]
        refine wpAnyH_take (i := 3) (oi := ⟨_, _, _, _, _, _⟩) (v := _) rfl (by kernel_rfl) (by kernel_rfl) (by kernel_rfl) (fun _ _ _ h => h) (yieldsIf_load_mid (by rfl) _ _ rfl _ _ rfl _ _ (fun _ h => h.1) hu rfl hfs) (by assumption) ?_
        try simp only [Act.put, List.setIfInBounds_toArray, List.set_cons_zero, List.set_cons_succ]
        refine wpAnyH_take (i := 4) (oi := ⟨_, _, _, _, _, _⟩) (v := ?_) rfl (by kernel_rfl) (by kernel_rfl) (by kernel_rfl) (fun _ _ _ h => h) (Or.inl ⟨by rfl, ?_⟩) (by assumption) ?_
        rotate_left
        · intro W hSw
          try dsimp only at hSw
          go_simp
          try with_reducible rfl
        try simp only [Act.put, List.setIfInBounds_toArray, List.set_cons_zero, List.set_cons_succ]
        refine wpAnyH_take (i := 5) (oi := ⟨_, _, _, _, _, _⟩) (v := ?_) rfl (by kernel_rfl) (by kernel_rfl) (by kernel_rfl) (fun _ _ _ h => h) (Or.inl ⟨by rfl, ?_⟩) (by assumption) ?_
        rotate_left
        · intro W hSw
          try dsimp only at hSw
          go_simp
          try with_reducible rfl
        try simp only [Act.put, List.setIfInBounds_toArray, List.set_cons_zero, List.set_cons_succ]
        refine wpAnyH_take (i := 6) (oi := ⟨_, _, _, _, _, _⟩) (v := ?_) rfl (by kernel_rfl) (by kernel_rfl) (by kernel_rfl) (fun _ _ _ h => h) (Or.inl ⟨by rfl, ?_⟩) (by assumption) ?_
        rotate_left
        · intro W hSw
          try dsimp only at hSw
          go_simp
          try with_reducible rfl
        try simp only [Act.put, List.setIfInBounds_toArray, List.set_cons_zero, List.set_cons_succ]
        refine wpAnyH_take (i := 7) (oi := ⟨_, _, _, _, _, _⟩) (v := _) rfl (by kernel_rfl) (by kernel_rfl) (by kernel_rfl) (fun _ _ _ h => h) (yieldsIf_load_mid (by rfl) _ _ rfl _ _ rfl _ _ (fun _ h => h.2) hu rfl hfs) (by assumption) ?_
        try simp only [Act.put, List.setIfInBounds_toArray, List.set_cons_zero, List.set_cons_succ]
        refine wpAnyH_take (i := 8) (oi := ⟨_, _, _, _, _, _⟩) (v := ?_) rfl (by kernel_rfl) (by kernel_rfl) (by kernel_rfl) (fun _ _ _ h => h) (Or.inl ⟨by rfl, ?_⟩) (by assumption) ?_
        rotate_left
        · intro W hSw
          try dsimp only at hSw
          go_simp
          try with_reducible rfl
        try simp only [Act.put, List.setIfInBounds_toArray, List.set_cons_zero, List.set_cons_succ]
        refine wpAnyH_done (by kernel_rfl) ?_ _
        have BB := Lib.hid (below_draws B.out 1)
        clear hr1 hr2 ef hfs hu B
        go_wp2_with fail
        go_roundg (cx - (i + 1))
        case measure => omega
        case rel => exact ⟨i + 1, by omega, by omega, by go_num, BB.out, F.out, G.out⟩
      · have k3 : ¬ 32 * (i : Int) + 48 ≤ k := by omega
        by_cases h1 : i < cx
        · have k1 : (i : Int) < cx := by omega
          by_cases h2 : i < cz
          · have k2 : (i : Int) < cz := by omega
            go_wp2_with fail
            go_ret
            exact ⟨rfl, B.out⟩
          · have k2 : ¬ (i : Int) < cz := by omega
            go_wp2_with fail
            go_ret
            exact ⟨rfl, B.out⟩
        · have k1 : ¬ (i : Int) < cx := by omega
          go_wp2_with fail
          go_ret
          exact ⟨rfl, B.out⟩
end Go.Proofs.Ytlfiaaoegeodnaa
