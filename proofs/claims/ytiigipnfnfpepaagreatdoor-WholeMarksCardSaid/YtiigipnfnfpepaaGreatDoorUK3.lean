/- pvq.Vector (layer 14): which number is taken. pvq.Vector (layer 14): the place of the number that is taken. pvq.Vector (layer 14): walked. -/
import Derived.Test.YtiigipnfnfpepaaGreatDoorUK2
import Derived.Test.YtiigipnfnfpepaaGreatDoorUD2
import Derived.Test.YtiigipnfnfpepaaGreatDoorUA
namespace Go.Proofs.YtiigipnfnfpepaaGreatDoor
open Go.RowKit
attribute [local go_sem ↓] Go.wp_at_zero Go.wp_at_succ

structure VEnv (W : World) (b8 b3 b10 b4 gt n a k : Nat) : Prop where
 e8 : Blk W b8 178 #[.pointer (some ⟨gt, 0, none⟩)]
 e3 : Blk W b3 3 #[.int .i64 n]
 e10 : Blk W b10 3 #[.int .i64 a]
 e4 : Blk W b4 3 #[.int .i64 k]
 tab : Blk W gt 221 (ints cntL)
structure VOff (b8 b3 b10 b4 gt b5 : Nat) : Prop where
 h8 : b8 ≠ b5
 h3 : b3 ≠ b5
 h10 : b10 ≠ b5
 h4 : b4 ≠ b5
 ht : gt ≠ b5
theorem venv_grown {W W' : World} {b8 b3 b10 b4 gt n a k b5 : Nat} (h : VEnv W b8 b3 b10 b4 gt n a k) (o : VOff b8 b3 b10 b4 gt b5) (g : W.grownBy W' (some b5)) : VEnv W' b8 b3 b10 b4 gt n a k :=
 ⟨blk_grown h.e8 g (fun e => by injection e with e; exact o.h8 e), blk_grown h.e3 g (fun e => by injection e with e; exact o.h3 e), blk_grown h.e10 g (fun e => by injection e with e; exact o.h10 e), blk_grown h.e4 g (fun e => by injection e with e; exact o.h4 e), blk_grown h.tab g (fun e => by injection e with e; exact o.ht e)⟩

set_option maxRecDepth 20000 in
set_option maxHeartbeats 4000000 in
theorem vecf_calls (b8 b3 b10 b4 gt b5 n a k : Nat) (z i : Int) (W : World) (h : VEnv W b8 b3 b10 b4 gt n a k) (hn : n ≤ 8) (ha : a < n) (hk : k ≤ 12) (hz : z.natAbs ≤ k) (h5 : Blk W b5 3 #[.int .i64 i]) (hi0 : 0 ≤ i) (hi1 : i ≤ 1000000) (hc : 0 ≤ cntI (n - a - 1) (k - z.natAbs) ∧ cntI (n - a - 1) (k - z.natAbs) ≤ 1000000) :
 Calls Tryz.prog 111 #[.int .i64 z, .pointer (some ⟨b8, 0, none⟩), .pointer (some ⟨b3, 0, none⟩), .pointer (some ⟨b10, 0, none⟩), .pointer (some ⟨b4, 0, none⟩), .pointer (some ⟨b5, 0, none⟩)] W fun e W' =>
  e = .returned (.bool (decide (i < cntI (n - a - 1) (k - z.natAbs)))) ∧ Blk W' b5 3 #[.int .i64 (if i < cntI (n - a - 1) (k - z.natAbs) then i else i - cntI (n - a - 1) (k - z.natAbs))] ∧ W.grownBy W' (some b5) := by
 have c8 : W.cell? ⟨b8, 0, none⟩ = some (.pointer (some ⟨gt, 0, none⟩)) := by rw [blk_cell h.e8]; rfl
 have c3 : W.cell? ⟨b3, 0, none⟩ = some (.int .i64 n) := by rw [blk_cell h.e3]; rfl
 have c10 : W.cell? ⟨b10, 0, none⟩ = some (.int .i64 a) := by rw [blk_cell h.e10]; rfl
 have c4 : W.cell? ⟨b4, 0, none⟩ = some (.int .i64 k) := by rw [blk_cell h.e4]; rfl
 have c5 : W.cell? ⟨b5, 0, none⟩ = some (.int .i64 i) := by rw [blk_cell h5]; rfl
 have f5 := blk_free h5 0
 have H5 := hid h5
 have hzs := sizeI_of (x := z) (by omega)
 have cs := fun V => pvqSize_calls z V
 rw [hzs] at cs
 obtain ⟨q, hq⟩ : ∃ q, q = z.natAbs := ⟨_, rfl⟩
 rw [← hq] at cs hc hz ⊢
 obtain ⟨R, hR⟩ : ∃ R, R = n - a - 1 := ⟨_, rfl⟩
 obtain ⟨p, hp⟩ : ∃ p, p = k - q := ⟨_, rfl⟩
 rw [← hR, ← hp] at hc ⊢
 have ct := blk_int h.tab (i := R * 13 + p) (by rw [cntL_len]; omega)
 rw [show cntL.getD (R * 13 + p) 0 = cntI R p from rfl] at ct
 obtain ⟨v, hv⟩ : ∃ v, v = cntI R p := ⟨_, rfl⟩
 rw [← hv] at ct hc ⊢
 have e1 : IntKind.i64.wrap ((n : Int) - a) = (R : Int) + 1 := by rw [IntWalk.i64_in _ (by omega)]; omega
 have e2 : IntKind.i64.wrap ((R : Int) + 1 - 1) = (R : Int) := by rw [IntWalk.i64_in _ (by omega)]; omega
 have e3 : IntKind.i64.wrap (R : Int) = (R : Int) := IntWalk.i64_in _ (by omega)
 have e4 : IntKind.i64.wrap ((k : Int) - q) = (p : Int) := by rw [IntWalk.i64_in _ (by omega)]; omega
 have r0 : (0 : Int) ≤ R := by omega
 have r9 : (R : Int) < 9 := by omega
 have p0 : (0 : Int) ≤ p := by omega
 have p13 : (p : Int) < 13 := by omega
 clear h h5 hn ha hk hz hzs hq hR hp hv
 by_cases hlt : i < v
 · rw [if_pos hlt]
   go_enter Tryz.func111, Tryz.ntmps111
   go_wp2_with fail
   go_quiet ((go_at_call 70; exact Calls.quiet_of_same ((cs _).mono fun _ _ h => ⟨h.1, h.2.symm⟩)))
   go_wp2_with fail
   go_ret
   exact ⟨by simp [hlt], blk_draws H5.out nq, grown_draws W nq _⟩
 · rw [if_neg hlt]
   have f6 : ∀ m, (W.drewN m).frozen? ⟨b5, 0, none⟩ = false := fun m => f5
   go_enter Tryz.func111, Tryz.ntmps111
   go_wp2_with fail
   go_quiet ((go_at_call 70; exact Calls.quiet_of_same ((cs _).mono fun _ _ h => ⟨h.1, h.2.symm⟩)))
   go_wp2_with fail
   go_ret
   exact ⟨by simp [hlt], blk_set (blk_draws H5.out nq) 0 (.int .i64 (i - v)), grown_join (grown_draws W nq _) (grownBy_cell (W.drewN nq) b5 0 _)⟩
end Go.Proofs.YtiigipnfnfpepaaGreatDoor
namespace Go.Proofs.YtiigipnfnfpepaaGreatDoor
open Go.RowKit
attribute [local go_sem ↓] Go.wp_at_zero Go.wp_at_succ

set_option maxRecDepth 20000 in
set_option maxHeartbeats 4000000 in
theorem vecidx_calls (b8 b3 b10 b4 gt b5 n a k gl c : Nat) (i : Int) (w : World) (h : VEnv w b8 b3 b10 b4 gt n a k) (o : VOff b8 b3 b10 b4 gt b5) (hgl : gl ≠ b5) (hn : n ≤ 4) (ha : a < n) (hk : k ≤ 12) (h5 : Blk w b5 3 #[.int .i64 i]) (hi0 : 0 ≤ i) (hi1 : i < sumK (n - a - 1) k (numsL k)) (hL : Blk w gl 3 (ints (numsL k)) ∨ Row w gl (numsL k)) (hglt : gl < w.heap.size) (hc : 2 * k + 1 ≤ c) :
 Calls Tryz.prog 110 #[.slice (some ⟨gl, 0, none⟩) (2 * k + 1) c, .func (.func 111) #[] #[.pointer (some ⟨b8, 0, none⟩), .pointer (some ⟨b3, 0, none⟩), .pointer (some ⟨b10, 0, none⟩), .pointer (some ⟨b4, 0, none⟩), .pointer (some ⟨b5, 0, none⟩)]] w fun e W' =>
  ∃ j : Nat, j < 2 * k + 1 ∧ e = .returned (.int .i64 j) ∧ (numsL k).getD j 0 = (pickL (n - a - 1) k (numsL k) i).1 ∧ Blk W' b5 3 #[.int .i64 (pickL (n - a - 1) k (numsL k) i).2] ∧ w.grownBy W' (some b5) := by
 have hR : Row w gl (numsL k) := hL.elim row_blk id
 have hlen := numsL_len k
 have HL := hid hlen
 have HR := hid hR
 have HV := hid h
 have HO := hid o
 have H5 := hid h5
 have HGL := hid hgl
 have HLT := hid hglt
 have HN := hid (And.intro hn (And.intro ha hk))
 have hi2 : i ≤ 1000000 := by
  have h1 := cnt_rec (n - a - 1) (by omega) k (by omega)
  have h2 := (cnt_in (n - a - 1 + 1) (by omega) k (by omega)).2
  omega
 have HI := hid (And.intro hi0 (And.intro hi1 hi2))
 obtain ⟨N, hN⟩ : ∃ N, N = 2 * k + 1 := ⟨_, rfl⟩
 rw [← hN] at HL hc ⊢
 have hN25 : N ≤ 25 := by omega
 have hNz : (N : Int) ≤ 25 := by omega
 obtain ⟨R, hRR⟩ : ∃ R, R = n - a - 1 := ⟨_, rfl⟩
 rw [← hRR] at HI ⊢
 have HRR := hid hRR
 have HMEM := hid (fun z (hz : z ∈ numsL k) => numsL_mem hz)
 obtain ⟨l, hl⟩ : ∃ l, l = numsL k := ⟨_, rfl⟩
 rw [← hl] at HL HR HI HMEM ⊢
 have hncz : (N : Int) ≤ c := by omega
 clear hL hR hlen h o h5 hgl hglt hn ha hk hi0 hi1 hi2 hN hRR hl
 go_enter Tryz.func110, Tryz.ntmps110
 go_wp2_with fail
 go_loopg [5, 8] N (fun gg _ s8 wr => ∃ (kk : Nat) (x : Int), kk ≤ N ∧ N - kk ≤ gg ∧ s8 = .int .i64 kk ∧ Aside (0 ≤ x ∧ x ≤ 1000000 ∧ x < sumK R k (l.drop kk) ∧ pickL R k (l.drop kk) x = pickL R k l i) ∧ Aside (Blk wr b5 3 #[.int .i64 x]) ∧ Aside (w.grownBy wr (some b5)))
 case atStart => exact ⟨0, i, Nat.zero_le _, by omega, rfl, ⟨HI.out.1, HI.out.2.2, HI.out.2.1, rfl⟩, H5.out, World.grownBy.refl w _⟩
 case round =>
  clear H5
  obtain ⟨kk, x, hkk, hgk, rfl, P, X, G⟩ := hrel
  by_cases hlt : kk < N
  · have hkz : (kk : Int) < N := by omega
    have hk0 : (0 : Int) ≤ kk := by omega
    have hd : l.drop kk = l.getD kk 0 :: l.drop (kk + 1) := drop_succ (by rw [HL.out]; exact hlt)
    have hP := P.out
    rw [hd] at hP
    have hzm : l.getD kk 0 ∈ l := by
     rw [List.getD_eq_getElem?_getD, List.getElem?_eq_getElem (by rw [HL.out]; exact hlt)]
     exact List.getElem_mem _
    have hzk := HMEM.out _ hzm
    have cz : wr.cell? ⟨gl, kk, none⟩ = some (.int .i64 (l.getD kk 0)) := by
     have h1 := HR.out kk (by rw [HL.out]; exact hlt)
     have h2 := G.out.block gl HLT.out (fun e => by injection e with e; exact HGL.out e)
     simp only [World.cell?] at h1 ⊢
     rw [h2]; exact h1
    obtain ⟨z, hz⟩ : ∃ z, z = l.getD kk 0 := ⟨_, rfl⟩
    rw [← hz] at hP hzk cz
    have HZ := hid hz
    clear hz hzm hd
    rw [sumK_cons] at hP
    have hR4 : R < 5 := by have := HRR.out; have := HN.out; omega
    have hci := cnt_in R hR4 (k - z.natAbs) (by have := HN.out; omega)
    have hrest := sumK_ge hR4 (show k < 13 by have := HN.out; omega) (l.drop (kk + 1))
    have cf := vecf_calls b8 b3 b10 b4 gt b5 n a k z x wr (venv_grown HV.out HO.out G.out) (by have := HN.out; omega) HN.out.2.1 HN.out.2.2 (by omega) X.out hP.1 hP.2.1 (by rw [← HRR.out]; omega)
    rw [← HRR.out] at cf
    by_cases hx : x < cntI R (k - z.natAbs)
    · have hpk : pickL R k l i = (z, x) := by rw [← hP.2.2.2, pickL, if_pos hx]
      rw [if_pos hx, decide_eq_true hx] at cf
      have HPK := hid hpk
      clear hP P hpk hci hrest hx hzk
      go_wp2_with fail
      refine cf.mono ?_
      rintro e w2 ⟨rfl, X2, G2⟩
      have X3 := hid X2
      have G3 := hid (grown_join G.out G2)
      clear cf X2 G2 X G cz
      go_wp2_with fail
      go_ret
      exact ⟨kk, hlt, rfl, by rw [HPK.out]; exact HZ.out.symm, by rw [HPK.out]; exact X3.out, G3.out⟩
    · have hP2 : 0 ≤ x - cntI R (k - z.natAbs) ∧ x - cntI R (k - z.natAbs) ≤ 1000000 ∧ x - cntI R (k - z.natAbs) < sumK R k (l.drop (kk + 1)) ∧ pickL R k (l.drop (kk + 1)) (x - cntI R (k - z.natAbs)) = pickL R k l i := ⟨by omega, by omega, by omega, by rw [← hP.2.2.2, pickL, if_neg hx]⟩
      rw [if_neg hx, decide_eq_false hx] at cf
      have HP2 := hid hP2
      clear hP P hP2 hci hrest hx hzk
      generalize x - cntI R (k - z.natAbs) = x2 at *
      go_wp2_with fail
      refine cf.mono ?_
      rintro e w2 ⟨rfl, X2, G2⟩
      have X3 := hid X2
      have G3 := hid (grown_join G.out G2)
      clear cf X2 G2 X G cz
      go_wp2_with fail
      go_roundg (N - (kk + 1))
      case measure => omega
      case rel => exact ⟨kk + 1, x2, by omega, by omega, by go_num, HP2.out, X3.out, G3.out⟩
  · exfalso
    obtain rfl : kk = N := by omega
    have hP := P.out
    rw [List.drop_eq_nil_of_le (by rw [HL.out]; exact Nat.le_refl _)] at hP
    have : sumK R k [] = 0 := rfl
    omega
end Go.Proofs.YtiigipnfnfpepaaGreatDoor
namespace Go.Proofs.YtiigipnfnfpepaaGreatDoor
open Go.RowKit
attribute [local go_sem ↓] Go.wp_at_zero Go.wp_at_succ

theorem owns_blk {w w' : World} {base n s : Nat} {v : Value} {t : TypeId} {xs : List Value} (h : w.ownsRow base t s v n xs) (hk : ∀ g cur, base ≤ g → Blk w g t cur → Blk w' g t cur) : w'.ownsRow base t s v n xs := by
 unfold World.ownsRow at h ⊢
 obtain ⟨h0, h⟩ := h
 refine ⟨h0, ?_⟩
 rcases h with h | ⟨g, cap, cur, h4, h1, h2, h5⟩
 · exact Or.inl h
 · have h9 : w'.heap[g]? = some (.cells cur t (0, 0)) := hk g cur h1 h2
   refine Or.inr ?_
   refine Exists.intro g ?_
   refine Exists.intro cap ?_
   refine Exists.intro cur ?_
   refine And.intro h4 ?_
   refine And.intro h1 ?_
   refine And.intro h9 ?_
   exact h5
theorem pick_ok {n k : Nat} (l : List Int) : ∀ i : Int, 0 ≤ i → i < sumK n k l → (pickL n k l i).1 ∈ l ∧ 0 ≤ (pickL n k l i).2 ∧ (pickL n k l i).2 < cntI n (k - (pickL n k l i).1.natAbs) := by
 induction l with
 | nil =>
  intro i h0 h1
  have h2 : sumK n k [] = 0 := rfl
  rw [h2] at h1
  exact absurd h1 (Int.not_lt.2 h0)
 | cons z r ih =>
  intro i h0 h1
  rw [sumK_cons] at h1
  rw [pickL]
  by_cases h : i < cntI n (k - z.natAbs)
  · rw [if_pos h]
    exact ⟨List.mem_cons_self, h0, h⟩
  · rw [if_neg h]
    obtain ⟨h2, h3, h4⟩ := ih (i - cntI n (k - z.natAbs)) (by omega) (by omega)
    exact ⟨List.mem_cons_of_mem _ h2, h3, h4⟩
theorem vecL_len : ∀ (n k : Nat) (i : Int), (vecL n k i).length = n
 | 0, _, _ => rfl
 | n + 1, k, i => by rw [vecL, List.length_cons, vecL_len n]

set_option maxRecDepth 20000 in
set_option maxHeartbeats 4000000 in
theorem vector_calls (k : Nat) (i : Int) (w : World) (hk : k ≤ 12) (h0 : 0 ≤ i) (h1 : i < cntI 4 k) :
 Calls Tryz.prog 65 #[.int .i64 4, .int .i64 k, .int .i64 i] w fun e w' => ∃ g c, e = .returned (.tuple #[.slice (some ⟨g, 0, none⟩) 4 c, .int .i64 0]) ∧ g < w'.heap.size ∧ 4 ≤ c ∧ Row w' g (vecL 4 k i) ∧ Below w.heap.size w w' := by
 have cm := pvqMay_calls 4 k
 have cc := fun W => pvqCount_calls 4 k W (by omega) hk
 have hc1 := (cnt_in 4 (by omega) k (by omega)).2
 obtain ⟨ct, hct⟩ : ∃ ct, ct = cntI 4 k := ⟨_, rfl⟩
 rw [← hct] at cc hc1 h1
 have HCT := hid hct
 let w3 := ((w.alloc (.cells #[.int .i64 4] 3)).alloc (.cells #[.int .i64 k] 3)).alloc (.cells #[.int .i64 i] 3)
 have B3 : Hid (Below w.heap.size w w3) := hid ((((Below.refl w.heap.size w).alloc (Nat.le_refl _) _).alloc (by simp) _).alloc (by simp; omega) _)
 have N3 : Hid (Blk w3 w.heap.size 3 #[.int .i64 4]) := hid (blk_alloc (blk_alloc (blk_new w 3 #[.int .i64 4]) _) _)
 have K3 : Hid (Blk w3 (w.heap.size + 1) 3 #[.int .i64 k]) := hid (by
  have := blk_alloc (blk_new (w.alloc (.cells #[.int .i64 4] 3)) 3 #[.int .i64 k]) (.cells #[.int .i64 i] 3)
  rw [World.size_alloc] at this
  exact this)
 have I3 : Hid (Blk w3 (w.heap.size + 1 + 1) 3 #[.int .i64 i]) := hid (by
  have := blk_new ((w.alloc (.cells #[.int .i64 4] 3)).alloc (.cells #[.int .i64 k] 3)) 3 #[.int .i64 i]
  rw [World.size_alloc, World.size_alloc] at this
  exact this)
 have c3 : w3.cell? ⟨w.heap.size, 0, none⟩ = some (.int .i64 4) := by rw [blk_cell N3.out]; rfl
 have c4 : w3.cell? ⟨w.heap.size + 1, 0, none⟩ = some (.int .i64 k) := by rw [blk_cell K3.out]; rfl
 have c5 : w3.cell? ⟨w.heap.size + 1 + 1, 0, none⟩ = some (.int .i64 i) := by rw [blk_cell I3.out]; rfl
 have hk0 : (0 : Int) ≤ k := by omega
 have hkz : (k : Int) ≤ 12 := by omega
 have HW : Hid (w3.heap.size = w.heap.size + 1 + 1 + 1) := hid (by simp [w3])
 have h0' : ¬ i < 0 := by omega
 have hd1 : decide (i < 0) = false := by simp; omega
 have hd2 : decide (ct ≤ i) = false := by simp; omega
 have HK := hid hk
 clear hk hct
 go_enter Tryz.func65, Tryz.ntmps65
 go_wp2_with fail
 refine (cm w3 (by omega) HK.out).mono ?_
 rintro e w' ⟨rfl, rfl⟩
 clear cm
 go_wp2_with fail
 generalize w3 = w3 at *
 have c3d : w3.drew.cell? ⟨w.heap.size, 0, none⟩ = some (.int .i64 4) := c3
 have c4d : w3.drew.cell? ⟨w.heap.size + 1, 0, none⟩ = some (.int .i64 k) := c4
 have c5d : w3.drew.cell? ⟨w.heap.size + 1 + 1, 0, none⟩ = some (.int .i64 i) := c5
 refine plain_region (S := (fun L W => W.cell? ⟨w.heap.size + 1 + 1, 0, none⟩ = some (.int .i64 i) ∧ W.cell? ⟨w.heap.size + 1 + 1, 0, none⟩ = some (.int .i64 i) ∧ (L.getD 6 true = true ∨ W.cell? ⟨w.heap.size, 0, none⟩ = some (.int .i64 4)) ∧ (L.getD 6 true = true ∨ W.cell? ⟨w.heap.size + 1, 0, none⟩ = some (.int .i64 k)))) (by kernel_rfl) (⟨c5d, c5d, Or.inr c3d, Or.inr c4d⟩) (fun hHeld => ?_)
 clear hHeld
 refine aL 0 1 (fun _ _ _ k => k.1) ⟨c5d, c5d, Or.inr c3d, Or.inr c4d⟩ ?_
 refine aW 1 ⟨c5d, c5d, Or.inr c3d, Or.inr c4d⟩ ?_
 refine aW 2 ⟨c5d, c5d, Or.inr c3d, Or.inr c4d⟩ ?_
 refine aL 3 7 (fun _ _ _ k => k.2.1) ⟨c5d, c5d, Or.inr c3d, Or.inr c4d⟩ ?_
 refine aL 4 6 (fun _ _ h k => rL k.2.2.1 h) ⟨c5d, c5d, Or.inr c3d, Or.inr c4d⟩ ?_
 refine aL 5 6 (fun _ _ h k => rL k.2.2.2 h) ⟨c5d, c5d, Or.inr c3d, Or.inr c4d⟩ ?_
 refine aR 6 (fun K hK => ?_)
 go_simp
 refine (cc w3.drew).mono ?_
 rintro e w4 ⟨rfl, B4⟩
 have BB4 := hid B4
 have c5d : w4.cell? ⟨w.heap.size + 1 + 1, 0, none⟩ = some (.int .i64 i) := (B4.cell (p := ⟨w.heap.size + 1 + 1, 0, none⟩) (show w.heap.size + 1 + 1 < w3.heap.size by rw [HW.out]; omega)).trans c5
 clear B4
 refine hK.out _ _ (⟨c5d, c5d, Or.inl (by rfl), Or.inl (by rfl)⟩) (fun hHeld => ?_)
 clear hK K
 try simp only [Act.put, tA, tB, tC]
 clear hHeld
 refine aW 7 ⟨c5d, c5d, Or.inl (by rfl), Or.inl (by rfl)⟩ ?_
 refine aW 8 ⟨c5d, c5d, Or.inl (by rfl), Or.inl (by rfl)⟩ ?_
 refine aW 9 ⟨c5d, c5d, Or.inl (by rfl), Or.inl (by rfl)⟩ ?_
 refine anyU_done (by kernel_rfl) ?_ _
 have BW4 := hid (B3.out.trans ((below_draws (Below.refl w3.heap.size w3) 1).trans BB4.out |>.mono B3.out.size))
 have N4 := hid (blk_below (blk_drew N3.out) BB4.out (blk_lt (blk_drew N3.out)))
 have K4 := hid (blk_below (blk_drew K3.out) BB4.out (blk_lt (blk_drew K3.out)))
 have I4 := hid (blk_below (blk_drew I3.out) BB4.out (blk_lt (blk_drew I3.out)))
 have HW4 := hid (show w.heap.size + 1 + 1 < w4.heap.size from blk_lt I4.out)
 clear N3 K3 I3 B3 BB4 HW c3 c4 c5 c3d c4d c5d cc hd1 hd2
 go_wp2_with fail
 refine (counts_calls w4).mono ?_
 rintro e w5 ⟨rfl, T5, B5⟩
 have HG := hid (blk_lt T5)
 have hb8 : Below w4.heap.size w4 (w5.alloc (.cells #[.pointer (some ⟨w4.heap.size, 0, none⟩)] 178)) := B5.alloc B5.size _
 have T6 := hid (blk_alloc T5 (.cells #[.pointer (some ⟨w4.heap.size, 0, none⟩)] 178))
 have P6 := hid (blk_new w5 178 #[.pointer (some ⟨w4.heap.size, 0, none⟩)])
 have N6 := hid (blk_below N4.out hb8 (blk_lt N4.out))
 have K6 := hid (blk_below K4.out hb8 (blk_lt K4.out))
 have I6 := hid (blk_below I4.out hb8 (blk_lt I4.out))
 have BW6 := hid (bnext BW4.out hb8)
 have HS6 := hid (show (w5.alloc (.cells #[.pointer (some ⟨w4.heap.size, 0, none⟩)] 178)).heap.size = w5.heap.size + 1 by simp)
 have H45 := hid B5.size
 clear T5 B5 hb8 N4 K4 I4 BW4
 have c3 : (w5.alloc (.cells #[.pointer (some ⟨w4.heap.size, 0, none⟩)] 178)).cell? ⟨w.heap.size, 0, none⟩ = some (.int .i64 4) := by rw [blk_cell N6.out]; rfl
 go_wp2_with fail
 clear c3
 generalize w5.alloc (.cells #[.pointer (some ⟨w4.heap.size, 0, none⟩)] 178) = w6 at *
 obtain ⟨gt, hgt⟩ : ∃ gt, gt = w4.heap.size := ⟨_, rfl⟩
 obtain ⟨b8, hb8⟩ : ∃ b8, b8 = w5.heap.size := ⟨_, rfl⟩
 rw [← hgt] at T6 P6 HG H45 HW4
 rw [← hb8] at P6 HG H45 HS6
 have hvl : (vecL 4 k i).length = 4 := vecL_len 4 k i
 have HPI : Hid (k ≤ 12 ∧ 0 ≤ i ∧ i < cntI (4 - 0) k ∧ vecL (4 - 0) k i = (vecL 4 k i).drop 0) := hid ⟨HK.out, h0, by rw [← HCT.out]; exact h1, rfl⟩
 obtain ⟨V, hV⟩ : ∃ V, V = vecL 4 k i := ⟨_, rfl⟩
 rw [← hV] at hvl HPI
 have EV := hid hV
 have HVL := hid hvl
 obtain ⟨inf, hinf, hzr, hsz, hby⟩ := info_parts (P := Tryz.prog) (e := 3) (z := .int .i64 0) (size := 1) (bytes := 8) (by kernel_rfl)
 rw [← hgt, ← hb8]
 clear hV hvl h0 h1 hc1 HCT h0' HK hkz hgt hb8 c5d
 go_loopg [9, 30] 4 (fun gg s9 s30 wr => ∃ (a ka : Nat) (ia : Int), a ≤ 4 ∧ 4 - a ≤ gg ∧ s30 = .int .i64 a ∧ Aside (ka ≤ 12 ∧ 0 ≤ ia ∧ ia < cntI (4 - a) ka ∧ vecL (4 - a) ka ia = V.drop a) ∧ Aside (Below w.heap.size w wr) ∧ Aside (Blk wr w.heap.size 3 #[.int .i64 4]) ∧ Aside (Blk wr (w.heap.size + 1) 3 #[.int .i64 ka]) ∧ Aside (Blk wr (w.heap.size + 1 + 1) 3 #[.int .i64 ia]) ∧ Aside (Blk wr b8 178 #[.pointer (some ⟨gt, 0, none⟩)]) ∧ Aside (Blk wr gt 221 (ints cntL)) ∧ Aside (wr.ownsRow w6.heap.size 3 1 s9 a ((V.take a).map (Value.int .i64))) ∧ Aside (w6.heap.size ≤ wr.heap.size))
 case atStart => exact ⟨0, k, i, Nat.zero_le _, by omega, rfl, ⟨HPI.out.1, HPI.out.2.1, HPI.out.2.2.1, EV.out.symm⟩, BW6.out, N6.out, K6.out, I6.out, P6.out, T6.out, World.ownsRow_nil _ _ _ _, Nat.le_refl _⟩
 case round =>
  clear HPI BW6 N6 K6 I6 P6 T6
  obtain ⟨a, ka, ia, ha, hga, rfl, HP, B, NN, KK, II, PP, TT, O, HSZ⟩ := hrel
  by_cases hlt : a < 4
  · have haz : (a : Int) < 4 := by omega
    have ha0 : (0 : Int) ≤ a := by omega
    have hP := HP.out
    have hka0 : (0 : Int) ≤ ka := by omega
    have hka : (ka : Int) ≤ 12 := by omega
    have BB1 := hid (B.out.alloc B.out.size (.cells #[.int .i64 a] 3))
    have N1 := hid (blk_alloc NN.out (.cells #[.int .i64 a] 3))
    have K1 := hid (blk_alloc KK.out (.cells #[.int .i64 a] 3))
    have I1 := hid (blk_alloc II.out (.cells #[.int .i64 a] 3))
    have P1 := hid (blk_alloc PP.out (.cells #[.int .i64 a] 3))
    have T1 := hid (blk_alloc TT.out (.cells #[.int .i64 a] 3))
    have A1 := hid (blk_new wr 3 #[.int .i64 a])
    have O1 := hid (owns_blk O.out (fun _ _ _ h => blk_alloc h (.cells #[.int .i64 a] 3)))
    have ck : (wr.alloc (.cells #[.int .i64 a] 3)).cell? ⟨w.heap.size + 1, 0, none⟩ = some (.int .i64 ka) := by rw [blk_cell K1.out]; rfl
    have hb5 := blk_lt II.out
    have hb4 := blk_lt KK.out
    go_wp2_with fail
    have HS1 := hid (show (wr.alloc (.cells #[.int .i64 a] 3)).heap.size = wr.heap.size + 1 by simp)
    generalize wr.alloc (.cells #[.int .i64 a] 3) = w7 at *
    obtain ⟨b10, hb10⟩ : ∃ b10, b10 = wr.heap.size := ⟨_, rfl⟩
    rw [← hb10] at A1 HS1
    have HB10 := hid hb10
    have hol := hid O.out.lt
    clear ck B NN KK II PP TT O
    refine (numbers_calls ka w7 (by omega)).mono ?_
    rintro e w8 ⟨gl, cl, rfl, hcl, hgl, L, B8⟩
    have BB8 := hid (bnext BB1.out B8)
    have N8 := hid (blk_below N1.out B8 (blk_lt N1.out))
    have K8 := hid (blk_below K1.out B8 (blk_lt K1.out))
    have I8 := hid (blk_below I1.out B8 (blk_lt I1.out))
    have P8 := hid (blk_below P1.out B8 (blk_lt P1.out))
    have T8 := hid (blk_below T1.out B8 (blk_lt T1.out))
    have A8 := hid (blk_below A1.out B8 (blk_lt A1.out))
    have O8 := hid (owns_blk O1.out (fun _ _ _ h => blk_below h B8 (blk_lt h)))
    have L8 := hid L
    have H78 := hid B8.size
    have HCL := hid hcl
    have HGL := hid hgl
    clear B8 BB1 N1 K1 I1 P1 T1 A1 O1 L hcl hgl
    go_wp2_with fail
    have hcr := cnt_rec (4 - a - 1) (by omega) ka (by omega)
    rw [show 4 - a - 1 + 1 = 4 - a by omega] at hcr
    have hgt2 := HW4.out
    have hgb := HG.out
    have hsz3 := HSZ.out
    have hs6 := HS6.out
    have hb10 := HB10.out
    have hgl8 : gl < w8.heap.size := World.block_lt_of_cell? w8 _ (L8.out 0 (by rw [numsL_len]; omega))
    rw [← hb10]
    have cv := vecidx_calls b8 w.heap.size b10 (w.heap.size + 1) gt (w.heap.size + 1 + 1) 4 a ka gl cl ia w8 ⟨P8.out, N8.out, A8.out, K8.out, T8.out⟩ ⟨by omega, by omega, by omega, by omega, by omega⟩ (by have := HGL.out; have := HS1.out; omega) (by omega) hlt hP.1 I8.out hP.2.1 (by rw [hcr]; exact hP.2.2.1) (.inr L8.out) hgl8 (by have := HCL.out; omega)
    have hpk := pick_ok (n := 4 - a - 1) (k := ka) (numsL ka) ia hP.2.1 (by rw [hcr]; exact hP.2.2.1)
    have hvr : vecL (4 - a) ka ia = (pickL (4 - a - 1) ka (numsL ka) ia).1 :: vecL (4 - a - 1) (ka - (pickL (4 - a - 1) ka (numsL ka) ia).1.natAbs) (pickL (4 - a - 1) ka (numsL ka) ia).2 := by
     conv => lhs; rw [show 4 - a = (4 - a - 1) + 1 by omega]
     rw [vecL]
    rw [hP.2.2.2] at hvr
    obtain ⟨z, hz⟩ : ∃ z, z = (pickL (4 - a - 1) ka (numsL ka) ia).1 := ⟨_, rfl⟩
    obtain ⟨i2, hi2⟩ : ∃ i2, i2 = (pickL (4 - a - 1) ka (numsL ka) ia).2 := ⟨_, rfl⟩
    rw [← hz, ← hi2] at cv hpk hvr
    have hzk := numsL_mem hpk.1
    have hdr : V.drop a = V.getD a 0 :: V.drop (a + 1) := drop_succ (by rw [HVL.out]; exact hlt)
    rw [hdr] at hvr
    injection hvr with hv1 hv2
    have HNX : Hid (ka - z.natAbs ≤ 12 ∧ 0 ≤ i2 ∧ i2 < cntI (4 - (a + 1)) (ka - z.natAbs) ∧ vecL (4 - (a + 1)) (ka - z.natAbs) i2 = V.drop (a + 1)) := hid ⟨by omega, hpk.2.1, by rw [show 4 - (a + 1) = 4 - a - 1 by omega]; exact hpk.2.2, by rw [show 4 - (a + 1) = 4 - a - 1 by omega]; exact hv2.symm⟩
    have HTK : Hid (V.take (a + 1) = V.take a ++ [z]) := hid (by
     rw [List.take_succ_eq_append_getElem (show a < V.length by rw [HVL.out]; exact hlt)]
     rw [List.getD_eq_getElem?_getD, List.getElem?_eq_getElem (show a < V.length by rw [HVL.out]; exact hlt)] at hv1
     rw [← hv1]; rfl)
    clear hdr hv1 hv2 hcr hP HP hz hi2 hpk
    have hb5' : w.heap.size + 1 + 1 < w8.heap.size := blk_lt I8.out
    refine cv.mono ?_
    rintro e w9 ⟨j, hj, rfl, hjz, I9, G9⟩
    have N9 := hid (blk_grown N8.out G9 (fun e => by injection e with e; omega))
    have K9 := hid (blk_grown K8.out G9 (fun e => by injection e with e; omega))
    have P9 := hid (blk_grown P8.out G9 (fun e => by injection e with e; omega))
    have T9 := hid (blk_grown T8.out G9 (fun e => by injection e with e; omega))
    have B9 := hid (below_grown BB8.out G9 BB8.out.size (by omega))
    have O9 := hid (owns_blk O8.out (fun g cur hg h => blk_grown h G9 (fun e => by injection e with e; omega)))
    have I9' := hid I9
    have cz : w9.cell? ⟨gl, j, none⟩ = some (.int .i64 z) := by
     have h1 := L8.out j (by rw [numsL_len]; exact hj)
     rw [hjz] at h1
     have h2 := G9.block gl hgl8 (fun e => by injection e with e; have := HGL.out; have := HS1.out; omega)
     simp only [World.cell?] at h1 ⊢
     rw [h2]; exact h1
    have HS9 := hid G9.size
    have hj0 : (0 : Int) ≤ j := by omega
    have hjz2 : (j : Int) < 2 * (ka : Int) + 1 := by omega
    have hclz : 2 * (ka : Int) + 1 ≤ cl := by have := HCL.out; omega
    clear cv N8 K8 I8 P8 T8 A8 O8 BB8 L8 G9 I9 hjz
    have hs9 : w6.heap.size ≤ w9.heap.size := by have := HS9.out; have := H78.out; have := HS1.out; omega
    have hlt9 : w.heap.size + 1 + 1 < w9.heap.size := by have := HS9.out; omega
    go_wp2_with (first | (at_builtin; refine wpList_append_own _ rfl _ _ 24 rfl w6.heap.size 3 inf (.int .i64 0) 1 8 Tryz.underlying24 hinf hzr hsz hby rfl (by decide) _ a _ rfl (O9.out.alloc _) ⟨w9.heap.size, 0, none⟩ 1 1 [.int .i64 z] rfl rfl (cell_one_new _ _ _) (by simp [Value.oneCell']) (by unfold maxLen; omega) (by omega) (by simp; omega) ?_; intro v' w10 hown' hgrow _))
    have hge := owns_ge O9.out
    have N10 := hid (blk_grown (blk_alloc N9.out (.cells #[.int .i64 z] 3)) hgrow (fun e => by have := hge _ e.symm; omega))
    have K10 := hid (blk_grown (blk_alloc K9.out (.cells #[.int .i64 z] 3)) hgrow (fun e => by have := hge _ e.symm; omega))
    have I10 := hid (blk_grown (blk_alloc I9'.out (.cells #[.int .i64 z] 3)) hgrow (fun e => by have := hge _ e.symm; omega))
    have P10 := hid (blk_grown (blk_alloc P9.out (.cells #[.int .i64 z] 3)) hgrow (fun e => by have := hge _ e.symm; omega))
    have T10 := hid (blk_grown (blk_alloc T9.out (.cells #[.int .i64 z] 3)) hgrow (fun e => by have := hge _ e.symm; omega))
    have B10 := hid ((B9.out.alloc B9.out.size (.cells #[.int .i64 z] 3)).grown hgrow (by simp; omega) (fun q e => by have := hge q e; omega))
    rw [show [Value.int .i64 z] = [z].map (Value.int .i64) from rfl, ← List.map_append, ← HTK.out] at hown'
    have O10 := hid hown'
    have HS10 := hid (show w6.heap.size ≤ w10.heap.size by have := hgrow.size; simp at this; omega)
    have hgl9 : gl < w9.heap.size := Nat.lt_of_lt_of_le hgl8 HS9.out
    have cz2 : w10.cell? ⟨gl, j, none⟩ = some (.int .i64 z) := by
     have h2 := hgrow.block gl (by simp; omega) (fun e => by have := (hol.out gl e.symm).2; have := HGL.out; have := HS1.out; omega)
     have h3 := cz
     rw [← World.cell?_alloc_lt w9 (.cells #[.int .i64 z] 3) ⟨gl, j, none⟩ hgl9] at h3
     simp only [World.cell?] at h3 ⊢
     rw [h2]; exact h3
    have cz3 : w10.drew.cell? ⟨gl, j, none⟩ = some (.int .i64 z) := cz2
    have ck10 : w10.drew.cell? ⟨w.heap.size + 1, 0, none⟩ = some (.int .i64 ka) := by
     have h2 : w10.cell? ⟨w.heap.size + 1, 0, none⟩ = some (.int .i64 ka) := by rw [blk_cell K10.out]; rfl
     exact h2
    have f4 : w10.frozen? ⟨w.heap.size + 1, 0, none⟩ = false := blk_free K10.out 0
    have hzs := sizeI_of (x := z) (by omega)
    have cs := fun W => pvqSize_calls z W
    rw [hzs] at cs
    obtain ⟨q, hq⟩ : ∃ q, q = z.natAbs := ⟨_, rfl⟩
    obtain ⟨p, hp⟩ : ∃ p, p = ka - q := ⟨_, rfl⟩
    rw [← hq] at cs HNX
    rw [← hp] at HNX
    have hpz : (ka : Int) - q = p := by omega
    have hq0 : (0 : Int) ≤ q := by omega
    have hq12 : (q : Int) ≤ 12 := by omega
    have hp0 : (0 : Int) ≤ p := by omega
    have hp12 : (p : Int) ≤ 12 := by omega
    have e4 : IntKind.i64.wrap ((ka : Int) - q) = (p : Int) := by rw [IntWalk.i64_in _ (by omega)]; omega
    clear hzs hq hp hgrow hown' hge N9 K9 I9' P9 T9 B9 O9 cz cz2 hzk hol
    refine plain_region (S := (fun L W => (L.getD 7 true = true ∨ W.cell? ⟨w.heap.size + 1, 0, none⟩ = some (.int .i64 ka)) ∧ (L.getD 5 true = true ∨ W.cell? ⟨gl, j, none⟩ = some (.int .i64 z)))) (by kernel_rfl) (⟨Or.inr ck10, Or.inr cz3⟩) (fun hHeld => ?_)
    clear hHeld
    refine aL 0 7 (fun _ _ h k => rL k.1 h) ⟨Or.inr ck10, Or.inr cz3⟩ ?_
    refine aW 1 ⟨Or.inr ck10, Or.inr cz3⟩ ?_
    refine aW 2 ⟨Or.inr ck10, Or.inr cz3⟩ ?_
    refine aW 3 ⟨Or.inr ck10, Or.inr cz3⟩ ?_
    refine aL 4 5 (fun _ _ h k => rL k.2 h) ⟨Or.inr ck10, Or.inr cz3⟩ ?_
    refine aR 5 (fun K hK => ?_)
    go_simp
    refine (cs _).mono ?_
    rintro e w' ⟨rfl, rfl⟩
    refine hK.out _ _ (⟨Or.inr ck10, Or.inl (by rfl)⟩) (fun hHeld => ?_)
    clear hK K
    try simp only [Act.put, tA, tB, tC]
    clear hHeld
    refine aW 6 ⟨Or.inr ck10, Or.inl (by rfl)⟩ ?_
    refine aR 7 (fun K hK => ?_)
    go_simp
    skip
    refine hK.out _ _ (⟨Or.inl (by rfl), Or.inl (by rfl)⟩) (fun hHeld => ?_)
    clear hK K
    try simp only [Act.put, tA, tB, tC]
    clear hHeld
    refine anyU_done (by kernel_rfl) ?_ _
    rw [show IntKind.i64.wrap (p : Int) = (p : Int) from IntWalk.i64_in _ (by omega)]
    have N11 := hid (blk_drew (blk_far (b := w.heap.size + 1) (i := 0) N10.out (by omega) (.int .i64 p)))
    have K11 := hid (show Blk (w10.setCell ⟨w.heap.size + 1, 0, none⟩ (.int .i64 p)).drew (w.heap.size + 1) 3 #[.int .i64 p] from blk_drew (blk_set K10.out 0 (.int .i64 p)))
    have I11 := hid (blk_drew (blk_far (b := w.heap.size + 1) (i := 0) I10.out (by omega) (.int .i64 p)))
    have P11 := hid (blk_drew (blk_far (b := w.heap.size + 1) (i := 0) P10.out (by omega) (.int .i64 p)))
    have T11 := hid (blk_drew (blk_far (b := w.heap.size + 1) (i := 0) T10.out (by omega) (.int .i64 p)))
    have B11 := hid (show Below w.heap.size w (w10.setCell ⟨w.heap.size + 1, 0, none⟩ (.int .i64 p)).drew from below_draws (below_set (i := 0) B10.out (b := w.heap.size + 1) (by omega) (.int .i64 p)) 1)
    have O11 := hid (owns_blk O10.out (fun g cur hg h => blk_drew (blk_far (b := w.heap.size + 1) (i := 0) h (by omega) (.int .i64 p))))
    have HS11 := hid (show w6.heap.size ≤ (w10.setCell ⟨w.heap.size + 1, 0, none⟩ (.int .i64 p)).drew.heap.size by have := HS10.out; simpa using this)
    clear N10 K10 I10 P10 T10 B10 O10 HS10 ck10 cz3 f4 cs e4
    generalize (w10.setCell ⟨w.heap.size + 1, 0, none⟩ (.int .i64 p)).drew = w11 at *
    go_wp2_with fail
    go_roundg (4 - (a + 1))
    case measure => omega
    case rel => exact ⟨a + 1, p, i2, by omega, by omega, by go_num, HNX.out, B11.out, N11.out, K11.out, I11.out, P11.out, T11.out, O11.out, HS11.out⟩
  · obtain rfl : a = 4 := by omega
    have hO := O.out
    rw [List.take_of_length_le (by rw [HVL.out]; exact Nat.le_refl _)] at hO
    obtain ⟨g, c, rfl, hnc, hg, hgl, hvl, hR⟩ := owns_ints hO (by decide)
    have HR := hid hR
    have hnc4 : (4 : Int) ≤ c := by omega
    rw [EV.out] at HR
    clear hO O NN KK II PP TT HP
    go_wp2_with fail
    go_ret2
    exact ⟨g, c, rfl, hgl, hnc, HR.out, B.out⟩
end Go.Proofs.YtiigipnfnfpepaaGreatDoor
