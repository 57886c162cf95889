/- The reference's halves; the walk of MidPlays. -/
import Derived.Test.YtnmhbonheaoldaaMidV
import Derived.IntWalk
namespace Go.Proofs.Ytnmhbonheaoldaa
open Go.RowKit

set_option maxHeartbeats 1000000 in
theorem down2_calls (n : Int) (w : World) (h0 : -8796093022208 ≤ n) (h1 : n ≤ 8796093022208) :
    Calls Try.prog 55 #[.int .i64 n, .int .i64 2] w fun e w' => e = .returned (.int .i64 (n / 2)) ∧ w = w' := by
  rcases Int.lt_or_le n 0 with h | h
  · have e1 : n.tdiv 2 = -((-n) / 2) := by
      have := Int.neg_tdiv (-n) 2
      rw [Int.neg_neg] at this
      rw [this, Int.tdiv_eq_ediv_of_nonneg (by omega)]
    have e2 : n.tmod 2 = -((-n) % 2) := by
      have := Int.neg_tmod (-n) 2
      rw [Int.neg_neg] at this
      rw [this, Int.tmod_eq_emod_of_nonneg (by omega)]
    have hb : -4398046511104 ≤ n.tdiv 2 ∧ n.tdiv 2 ≤ 0 := by omega
    have hc : n / 2 = n.tdiv 2 + n.tmod 2 := by omega
    have hd : -1 ≤ n.tmod 2 ∧ n.tmod 2 ≤ 0 := by omega
    have HC := Lib.hid hc
    clear e1 e2 hc
    by_cases hz : n.tmod 2 < 0
    · go_enter Try.func55, Try.ntmps55
      go_wp2_with fail
      go_ret
      exact ⟨ret_i64 (by have := HC.out; omega), rfl⟩
    · go_enter Try.func55, Try.ntmps55
      go_wp2_with fail
      go_ret
      exact ⟨ret_i64 (by have := HC.out; omega), rfl⟩
  · go_enter Try.func55, Try.ntmps55
    have hz : ¬ n % 2 < 0 := by omega
    go_wp2_with fail
    go_ret
    exact ⟨rfl, rfl⟩

theorem refOf_calls (l r : Int) (w : World) (hl0 : -4398046511104 ≤ l) (hl1 : l ≤ 4398046511104) (hr0 : -4398046511104 ≤ r) (hr1 : r ≤ 4398046511104) :
    Calls Try.prog 44 #[.int .i64 l, .int .i64 r] w fun e w' => e = .returned (.tuple #[.int .i64 (r + (l - r) / 2), .int .i64 (l - r)]) ∧ w = w' := by
  go_enter Try.func44, Try.ntmps44
  go_wp2_with fail
  refine (down2_calls _ _ (by omega) (by omega)).mono ?_
  rintro e w' ⟨rfl, rfl⟩
  go_wp2_with fail
  go_ret2
  exact ⟨rfl, rfl⟩

theorem refBack_calls (m s : Int) (w : World) (hl0 : -4398046511104 ≤ m) (hl1 : m ≤ 4398046511104) (hr0 : -4398046511104 ≤ s) (hr1 : s ≤ 4398046511104) :
    Calls Try.prog 45 #[.int .i64 m, .int .i64 s] w fun e w' => e = .returned (.tuple #[.int .i64 (m - s / 2 + s), .int .i64 (m - s / 2)]) ∧ w = w' := by
  go_enter Try.func45, Try.ntmps45
  go_wp2_with fail
  refine (down2_calls _ _ (by omega) (by omega)).mono ?_
  rintro e w' ⟨rfl, rfl⟩
  go_wp2_with fail
  go_ret2
  exact ⟨rfl, rfl⟩

/-- what comes back where it is refused: no lists, a number that isn't 0 -/
theorem midPlays_no (a0 : Option Addr) (n0 c0 : Nat) (zs : List Int) (a1 a2 : Int) (e : Int) (w : World) (hn : n0 ≤ 400) (h : SlA w a0 zs) (w1 : (Lit.int .i64 a1).wf = true) (w2 : (Lit.int .i64 a2).wf = true) (he : 1 ≤ e) (he2 : e ≤ 7)
    (hs : ∀ W, SlA W a0 zs → Calls Try.prog 46 #[.slice a0 n0 c0] W fun e' w' => e' = .returned (.tuple #[.slice none 0 0, .slice none 0 0, .int .i64 e]) ∧ Below W.heap.size W w') :
    Calls Try.prog 15 #[.slice a0 n0 c0, .int .i64 a1, .int .i64 a2] w (LawTrue w) := by
  have b1 := heldM_bd a1
  have b2 := heldM_bd a2
  have h1 : ¬ (400 : Int) < n0 := by omega
  have h2 : ((e : Int) == 0) = false := by simp; omega
  have h3 : (e != 0) = true := by simp; omega
  have cs := hs w h
  clear hs h
  go_enter Try.func15, Try.ntmps15
  go_wp2_with (first
    | (go_at_call 17; refine (heldM_calls _ _ (by assumption)).mono ?_; rintro e w' ⟨rfl, rfl⟩)
    | (go_at_call 18; refine (midOf_calls _ _ _ (by omega) (by omega) (by omega) (by omega)).mono ?_; rintro e w' ⟨rfl, rfl⟩)
    | (go_at_call 20; refine (midBack_calls _ _ _ (by omega) (by omega) (by omega) (by omega)).mono ?_; rintro e w' ⟨rfl, rfl⟩)
    | (go_at_call 44; refine (refOf_calls _ _ _ (by omega) (by omega) (by omega) (by omega)).mono ?_; rintro e w' ⟨rfl, rfl⟩)
    | (go_at_call 45; refine (refBack_calls _ _ _ (by omega) (by omega) (by omega) (by omega)).mono ?_; rintro e w' ⟨rfl, rfl⟩)
    | (go_at_call 19; refine (awakeM_calls _).mono ?_; rintro e w' ⟨rfl, rfl⟩))
  refine cs.mono ?_
  rintro e' w3 ⟨rfl, B⟩
  have HB := Lib.hid B
  clear B cs
  go_wp2_with fail
  refine wp_loop_rounds 1 ?_
  rw [rounds_succ]
  go_wp2_with fail
  go_ret
  exact ⟨rfl, HB.out⟩

theorem range_getD (f : Nat → Int) {m k : Nat} (h : k < m) : ((List.range m).map f).getD k 0 = f k := by
  rw [List.getD_eq_getElem?_getD, List.getElem?_map, List.getElem?_range h]
  rfl

set_option maxHeartbeats 4000000 in
theorem midPlays_yes (a0 : Option Addr) (m c0 : Nat) (zs : List Int) (a1 a2 : Int) (w : World) (hn : 2 * m ≤ 400) (hc : 2 * m ≤ c0) (hc2 : c0 ≤ 9223372036854775807) (hz : zs.length = 2 * m) (h : SlA w a0 zs) (k0 : a0 = none → c0 = 0) (w1 : (Lit.int .i64 a1).wf = true) (w2 : (Lit.int .i64 a2).wf = true)
    (hi : ∀ z ∈ zs, -1048576 ≤ z ∧ z ≤ 1048576) :
    Calls Try.prog 15 #[.slice a0 (2 * m : Nat) c0, .int .i64 a1, .int .i64 a2] w (LawTrue w) := by
  have b1 := heldM_bd a1
  have b2 := heldM_bd a2
  have h1 : ¬ (400 : Int) < (2 * m : Nat) := by omega
  have cs := split_ok a0 m c0 zs w (by omega) hc hc2 hz h k0 hi
  have H := Lib.hid h
  have HI := Lib.hid hi
  have HZ := Lib.hid hz
  clear h hi hz
  go_enter Try.func15, Try.ntmps15
  go_wp2_with (first
    | (go_at_call 17; refine (heldM_calls _ _ (by assumption)).mono ?_; rintro e w' ⟨rfl, rfl⟩)
    | (go_at_call 18; refine (midOf_calls _ _ _ (by omega) (by omega) (by omega) (by omega)).mono ?_; rintro e w' ⟨rfl, rfl⟩)
    | (go_at_call 20; refine (midBack_calls _ _ _ (by omega) (by omega) (by omega) (by omega)).mono ?_; rintro e w' ⟨rfl, rfl⟩)
    | (go_at_call 44; refine (refOf_calls _ _ _ (by omega) (by omega) (by omega) (by omega)).mono ?_; rintro e w' ⟨rfl, rfl⟩)
    | (go_at_call 45; refine (refBack_calls _ _ _ (by omega) (by omega) (by omega) (by omega)).mono ?_; rintro e w' ⟨rfl, rfl⟩)
    | (go_at_call 19; refine (awakeM_calls _).mono ?_; rintro e w' ⟨rfl, rfl⟩))
  refine cs.mono ?_
  rintro e w3 ⟨vm, vs, rfl, O1, O2, B⟩
  obtain ⟨am, cm, rfl, hl1, S1, _⟩ := slA_row O1
  obtain ⟨ad, cd, rfl, hl2, S2, _⟩ := slA_row O2
  rw [hl1, hl2]
  have S1' := Lib.hid S1
  have S2' := Lib.hid S2
  have B' := Lib.hid B
  have L1 := Lib.hid hl1
  have L2 := Lib.hid hl2
  rename_i ka kb
  clear cs O1 O2 S1 S2 B hl1 hl2 ka kb k0
  go_wp2_with fail
  go_loopg [20] m (fun gg s20 wr => ∃ kk : Nat, kk ≤ m ∧ m - kk ≤ gg ∧ s20 = .int .i64 kk ∧ Aside (Below w.heap.size w wr) ∧ Aside (SlA wr am ((List.range m).map (midAt zs))) ∧ Aside (SlA wr ad ((List.range m).map (sideAt zs))))
  case atStart => exact ⟨0, Nat.zero_le _, by omega, rfl, B'.out, S1'.out, S2'.out⟩
  case round =>
    clear S1' S2' B'
    obtain ⟨kk, hkk, hgk, rfl, B, S1, S2⟩ := hrel
    by_cases hlt : kk < m
    · have hltz : (kk : Int) < m := by omega
      have hk0 : 0 ≤ (kk : Int) := by omega
      obtain ⟨g0, o0, e0, hg0, hc0⟩ := slA_at (slA_below H.out B.out) (k := 2 * kk) (by rw [HZ.out]; omega)
      obtain ⟨g1, o1, e1, hg1, hc1⟩ := slA_at S1.out (k := kk) (by rw [L1.out]; exact hlt)
      obtain ⟨g2, o2, e2, hg2, hc2⟩ := slA_at S2.out (k := kk) (by rw [L2.out]; exact hlt)
      subst e0
      subst e1
      subst e2
      have x0 := hc0 (2 * kk) (by rw [HZ.out]; omega)
      have x1 := hc0 (2 * kk + 1) (by rw [HZ.out]; omega)
      have y0 := hc1 kk (by rw [L1.out]; exact hlt)
      have y1 := hc2 kk (by rw [L2.out]; exact hlt)
      rw [range_getD _ hlt] at y0 y1
      unfold midAt at y0
      unfold sideAt at y1
      have hx0 := HI.out (zs.getD (2 * kk) 0) (by rw [List.getD_eq_getElem?_getD, List.getElem?_eq_getElem (by rw [HZ.out]; omega)]; exact List.getElem_mem (by rw [HZ.out]; omega))
      have hx1 := HI.out (zs.getD (2 * kk + 1) 0) (by rw [List.getD_eq_getElem?_getD, List.getElem?_eq_getElem (by rw [HZ.out]; omega)]; exact List.getElem_mem (by rw [HZ.out]; omega))
      clear hc0 hc1 hc2
      generalize zs.getD (2 * kk) 0 = p at *
      generalize zs.getD (2 * kk + 1) 0 = q at *
      have f0 : (0 : Int) ≤ 2 * (kk : Int) := by omega
      have f1 : (0 : Int) ≤ 2 * (kk : Int) + 1 := by omega
      have f2 : 2 * (kk : Int) < 2 * (m : Int) := by omega
      have f3 : 2 * (kk : Int) + 1 < 2 * (m : Int) := by omega
      go_wp2_with fail
      have i0 : IntKind.i64.wrap (2 * (kk : Int)) = 2 * (kk : Int) := IntWalk.i64_in _ (by omega)
      have i1 : IntKind.i64.wrap (2 * (kk : Int) + 1) = 2 * (kk : Int) + 1 := IntWalk.i64_in _ (by clear i0; omega)
      have t0 : (2 * (kk : Int)).toNat = 2 * kk := by clear i0 i1; omega
      have t1 : (2 * (kk : Int) + 1).toNat = 2 * kk + 1 := by clear i0 i1; omega


      refine plain_region (S := (fun _ W => W.cell? ⟨g0, o0 + 2 * kk, none⟩ = some (.int .i64 p) ∧ W.cell? ⟨g0, o0 + (2 * kk + 1), none⟩ = some (.int .i64 q))) (by kernel_rfl) ⟨x0, x1⟩ (fun hHeld => ?_)
      refine anyU_take0 (i := 0) (oi := ⟨_, _, _, _, _, _⟩) (v := ?_) rfl (by kernel_rfl) (by kernel_rfl) (by kernel_rfl) (fun _ _ _ h => h) (fun _ _ => Iff.rfl) (Or.inl ⟨by rfl, ?_⟩) (by assumption) ?_
      rotate_left
      · intro W hSw
        go_simp
        try with_reducible rfl
      try simp only [Act.put, List.setIfInBounds_toArray, List.set_cons_zero, List.set_cons_succ]
      refine anyU_take0 (i := 1) (oi := ⟨_, _, _, _, _, _⟩) (v := ?_) rfl (by kernel_rfl) (by kernel_rfl) (by kernel_rfl) (fun _ _ _ h => h) (fun _ _ => Iff.rfl) (Or.inl ⟨by rfl, ?_⟩) (by assumption) ?_
      rotate_left
      · intro W hSw
        go_simp
        try with_reducible rfl
      try simp only [Act.put, List.setIfInBounds_toArray, List.set_cons_zero, List.set_cons_succ]
      refine anyU_take0 (i := 2) (oi := ⟨_, _, _, _, _, _⟩) (v := ?_) rfl (by kernel_rfl) (by kernel_rfl) (by kernel_rfl) (fun _ _ _ h => h) (fun _ _ => Iff.rfl) (Or.inl ⟨by rfl, ?_⟩) (by assumption) ?_
      rotate_left
      · intro W hSw
        go_simp
        try with_reducible rfl
      try simp only [Act.put, List.setIfInBounds_toArray, List.set_cons_zero, List.set_cons_succ]
      refine anyU_take0 (i := 3) (oi := ⟨_, _, _, _, _, _⟩) (v := ?_) rfl (by kernel_rfl) (by kernel_rfl) (by kernel_rfl) (fun _ _ _ h => h) (fun _ _ => Iff.rfl) (Or.inl ⟨by rfl, ?_⟩) (by assumption) ?_
      rotate_left
      · intro W hSw
        go_simp
        try with_reducible rfl
      try simp only [Act.put, List.setIfInBounds_toArray, List.set_cons_zero, List.set_cons_succ]
      refine anyU_take (i := 4) (b := 11) (oi := ⟨_, _, _, _, _, _⟩) (ob := ⟨_, _, _, _, _, _⟩) (C := (fun W => W.cell? ⟨g0, o0 + 2 * kk, none⟩ = some (.int .i64 p))) (v := ?_) rfl rfl (by kernel_rfl) (by kernel_rfl) (by kernel_rfl) (by kernel_rfl) (by kernel_rfl) (fun _ _ _ h => h) (fun _ _ => Iff.rfl) (fun _ _ _ h => h.1) (Or.inl ⟨by rfl, ?_⟩) (by assumption) ?_
      rotate_left
      · intro W hSw
        try dsimp only at hSw
        go_simp
        try with_reducible rfl
      try simp only [Act.put, List.setIfInBounds_toArray, List.set_cons_zero, List.set_cons_succ]
      refine anyU_take0 (i := 5) (oi := ⟨_, _, _, _, _, _⟩) (v := ?_) rfl (by kernel_rfl) (by kernel_rfl) (by kernel_rfl) (fun _ _ _ h => h) (fun _ _ => Iff.rfl) (Or.inl ⟨by rfl, ?_⟩) (by assumption) ?_
      rotate_left
      · intro W hSw
        go_simp
        try with_reducible rfl
      try simp only [Act.put, List.setIfInBounds_toArray, List.set_cons_zero, List.set_cons_succ]
      refine anyU_take0 (i := 6) (oi := ⟨_, _, _, _, _, _⟩) (v := ?_) rfl (by kernel_rfl) (by kernel_rfl) (by kernel_rfl) (fun _ _ _ h => h) (fun _ _ => Iff.rfl) (Or.inl ⟨by rfl, ?_⟩) (by assumption) ?_
      rotate_left
      · intro W hSw
        go_simp
        try with_reducible rfl
      try simp only [Act.put, List.setIfInBounds_toArray, List.set_cons_zero, List.set_cons_succ]
      refine anyU_take0 (i := 7) (oi := ⟨_, _, _, _, _, _⟩) (v := ?_) rfl (by kernel_rfl) (by kernel_rfl) (by kernel_rfl) (fun _ _ _ h => h) (fun _ _ => Iff.rfl) (Or.inl ⟨by rfl, ?_⟩) (by assumption) ?_
      rotate_left
      · intro W hSw
        go_simp
        try with_reducible rfl
      try simp only [Act.put, List.setIfInBounds_toArray, List.set_cons_zero, List.set_cons_succ]
      refine anyU_take0 (i := 8) (oi := ⟨_, _, _, _, _, _⟩) (v := ?_) rfl (by kernel_rfl) (by kernel_rfl) (by kernel_rfl) (fun _ _ _ h => h) (fun _ _ => Iff.rfl) (Or.inl ⟨by rfl, ?_⟩) (by assumption) ?_
      rotate_left
      · intro W hSw
        go_simp
        try with_reducible rfl
      try simp only [Act.put, List.setIfInBounds_toArray, List.set_cons_zero, List.set_cons_succ]
      refine anyU_take0 (i := 9) (oi := ⟨_, _, _, _, _, _⟩) (v := ?_) rfl (by kernel_rfl) (by kernel_rfl) (by kernel_rfl) (fun _ _ _ h => h) (fun _ _ => Iff.rfl) (Or.inl ⟨by rfl, ?_⟩) (by assumption) ?_
      rotate_left
      · intro W hSw
        go_simp
        try with_reducible rfl
      try simp only [Act.put, List.setIfInBounds_toArray, List.set_cons_zero, List.set_cons_succ]
      refine anyU_take (i := 10) (b := 11) (oi := ⟨_, _, _, _, _, _⟩) (ob := ⟨_, _, _, _, _, _⟩) (C := (fun W => W.cell? ⟨g0, o0 + (2 * kk + 1), none⟩ = some (.int .i64 q))) (v := ?_) rfl rfl (by kernel_rfl) (by kernel_rfl) (by kernel_rfl) (by kernel_rfl) (by kernel_rfl) (fun _ _ _ h => h) (fun _ _ => Iff.rfl) (fun _ _ _ h => h.2) (Or.inl ⟨by rfl, ?_⟩) (by assumption) ?_
      rotate_left
      · intro W hSw
        try dsimp only at hSw
        go_simp
        try with_reducible rfl
      try simp only [Act.put, List.setIfInBounds_toArray, List.set_cons_zero, List.set_cons_succ]
      refine anyU_ready (rs := [11]) (by kernel_rfl) (by simp) ?_
      refine readyU_cons (o := ⟨_, _, _, _, _, _⟩) rfl (fun K hK => ?_) readyU_nil
      go_simp
      clear i0 i1 t0 t1
      refine (refOf_calls p q _ (by omega) (by omega) (by omega) (by omega)).mono ?_
      rintro e w' ⟨rfl, rfl⟩
      refine hK.out _ _ hHeld (fun hHeld => ?_)
      clear hK K
      try simp only [Act.put, List.setIfInBounds_toArray, List.set_cons_zero, List.set_cons_succ]
      refine anyU_take0 (i := 12) (oi := ⟨_, _, _, _, _, _⟩) (v := ?_) rfl (by kernel_rfl) (by kernel_rfl) (by kernel_rfl) (fun _ _ _ h => h) (fun _ _ => Iff.rfl) (Or.inl ⟨by rfl, ?_⟩) (by assumption) ?_
      rotate_left
      · intro W hSw
        go_simp
        try with_reducible rfl
      try simp only [Act.put, List.setIfInBounds_toArray, List.set_cons_zero, List.set_cons_succ]
      refine anyU_take0 (i := 13) (oi := ⟨_, _, _, _, _, _⟩) (v := ?_) rfl (by kernel_rfl) (by kernel_rfl) (by kernel_rfl) (fun _ _ _ h => h) (fun _ _ => Iff.rfl) (Or.inl ⟨by rfl, ?_⟩) (by assumption) ?_
      rotate_left
      · intro W hSw
        go_simp
        try with_reducible rfl
      try simp only [Act.put, List.setIfInBounds_toArray, List.set_cons_zero, List.set_cons_succ]
      refine anyU_take0 (i := 14) (oi := ⟨_, _, _, _, _, _⟩) (v := ?_) rfl (by kernel_rfl) (by kernel_rfl) (by kernel_rfl) (fun _ _ _ h => h) (fun _ _ => Iff.rfl) (Or.inl ⟨by rfl, ?_⟩) (by assumption) ?_
      rotate_left
      · intro W hSw
        go_simp
        try with_reducible rfl
      try simp only [Act.put, List.setIfInBounds_toArray, List.set_cons_zero, List.set_cons_succ]
      refine anyU_take0 (i := 15) (oi := ⟨_, _, _, _, _, _⟩) (v := ?_) rfl (by kernel_rfl) (by kernel_rfl) (by kernel_rfl) (fun _ _ _ h => h) (fun _ _ => Iff.rfl) (Or.inl ⟨by rfl, ?_⟩) (by assumption) ?_
      rotate_left
      · intro W hSw
        go_simp
        try with_reducible rfl
      try simp only [Act.put, List.setIfInBounds_toArray, List.set_cons_zero, List.set_cons_succ]
      refine anyU_take0 (i := 16) (oi := ⟨_, _, _, _, _, _⟩) (v := ?_) rfl (by kernel_rfl) (by kernel_rfl) (by kernel_rfl) (fun _ _ _ h => h) (fun _ _ => Iff.rfl) (Or.inl ⟨by rfl, ?_⟩) (by assumption) ?_
      rotate_left
      · intro W hSw
        go_simp
        try with_reducible rfl
      try simp only [Act.put, List.setIfInBounds_toArray, List.set_cons_zero, List.set_cons_succ]
      refine anyU_done (by kernel_rfl) ?_ _
      clear hHeld
      obtain ⟨l, hl⟩ : ∃ l, l = q + (p - q) / 2 := ⟨_, rfl⟩
      obtain ⟨r, hr⟩ : ∃ r, r = p - q := ⟨_, rfl⟩
      rw [← hl] at y0
      rw [← hr] at y1
      rw [← hl, ← hr]
      clear hl hr x0 x1 hx0 hx1 f0 f1 f2 f3
      have B3 := Lib.hid (below_draws B.out 1)
      have S3 := Lib.hid (slA_draws S1.out 1)
      have S4 := Lib.hid (slA_draws S2.out 1)
      have y0' : (wr.drewN 1).cell? ⟨g1, o1 + kk, none⟩ = some (.int .i64 l) := y0
      have y1' : (wr.drewN 1).cell? ⟨g2, o2 + kk, none⟩ = some (.int .i64 r) := y1
      clear B S1 S2 y0 y1
      change Exit.then _ _ Exit.normal _ (wr.drewN 1)
      generalize wr.drewN 1 = w4 at *
      go_wp2_with fail
      go_roundg (m - (kk + 1))
      case measure => omega
      case rel => exact ⟨kk + 1, by omega, by omega, by go_num, B3.out, S3.out, S4.out⟩
    · obtain rfl : m = kk := by omega
      have hltz : ¬ (m : Int) < m := by omega
      have hd : (2 * (m : Int)) / 2 = m := by omega
      go_wp2_with fail
      go_ret
      exact ⟨ret_true (by simp), B.out⟩

set_option maxHeartbeats 1000000 in
theorem midPlays_long (a0 : Option Addr) (n0 c0 : Nat) (a1 a2 : Int) (w : World) (hn : 400 < n0) :
    Calls Try.prog 15 #[.slice a0 n0 c0, .int .i64 a1, .int .i64 a2] w (LawTrue w) := by
  have h1 : (400 : Int) < n0 := by omega
  go_enter Try.func15, Try.ntmps15
  go_wp2_with (first | (go_at_call 19; refine (awakeM_calls _).mono ?_; rintro e w' ⟨rfl, rfl⟩))
  go_ret
  exact ⟨rfl, Below.refl _ _⟩

theorem beyond_any {most : Int} {zs : List Int} (h : zs.any (beyond most) = false) : ∀ z ∈ zs, -most ≤ z ∧ z ≤ most := fun z hz => by
  rw [List.any_eq_false] at h
  have := h z hz
  simp [beyond] at this
  omega

theorem midPlays_walk (a0 : Option Addr) (n0 c0 : Nat) (zs : List Int) (a1 a2 : Int) (w : World) (l0 : zs.length = n0) (_ : n0 ≤ maxLen) (h : SlA w a0 zs) (w0 : ∀ z ∈ zs, (Lit.int .i64 z).wf = true) (k0 : a0 = none → c0 = 0) (kc : n0 ≤ c0 ∧ c0 ≤ maxLen) (w1 : (Lit.int .i64 a1).wf = true) (w2 : (Lit.int .i64 a2).wf = true) :
    Calls Try.prog 15 #[.slice a0 n0 c0, .int .i64 a1, .int .i64 a2] w (LawTrue w) := by
  unfold maxLen at kc
  rcases Nat.lt_or_ge 400 n0 with hn | hn
  · exact midPlays_long a0 n0 c0 a1 a2 w hn
  · rcases Nat.mod_two_eq_zero_or_one n0 with he | he
    · cases hg : zs.any (beyond 1048576) with
      | true => exact midPlays_no a0 n0 c0 zs a1 a2 7 w hn h w1 w2 (by omega) (by omega) (fun W hW => split_great a0 n0 c0 zs W (by omega) he l0 (src2_of l0 hW k0) (fun z hz => i64_bounds (w0 z hz)) hg)
      | false =>
        obtain ⟨m, rfl⟩ : ∃ m, n0 = 2 * m := ⟨n0 / 2, by omega⟩
        exact midPlays_yes a0 m c0 zs a1 a2 w hn kc.1 (by omega) l0 h k0 w1 w2 (beyond_any hg)
    · exact midPlays_no a0 n0 c0 zs a1 a2 1 w hn h w1 w2 (by omega) (by omega) (fun W _ => split_odd a0 n0 c0 W (by omega) he)
end Go.Proofs.Ytnmhbonheaoldaa
