/- A band's pulses (layer 14): wants, and their order. A band's pulses (layer 14): the wants' methods. A band's pulses (layer 14): the wants' heap. A band's pulses (layer 14): the plain law of Find. A ba -/
import Derived.Test.YtiigipnfnfpepaaGreatDoorUC7
import Derived.Test.YtiigipnfnfpepaaGreatDoorUA
namespace Go.Proofs.YtiigipnfnfpepaaGreatDoor
open Go.RowKit

structure Want where
 (at' size n gain : Int)
instance : Inhabited Want := ⟨⟨0, 0, 0, 0⟩⟩
def Want.row (x : Want) : List Int := [x.at', x.size, x.n, x.gain]
structure WantOk (x : Want) : Prop where
 a0 : 0 ≤ x.at'
 a1 : x.at' < 4
 s0 : 0 ≤ x.size
 s1 : x.size ≤ 1048576
 n0 : 0 ≤ x.n
 n1 : x.n ≤ 100
 g0 : 0 ≤ x.gain
 g1 : x.gain ≤ 32768
def Want.falls (x : Want) : Int := ((x.size - x.n * x.gain).natAbs : Int) - ((x.size - (x.n + 1) * x.gain).natAbs : Int)
def lessW (x y : Want) : Bool := decide (y.falls < x.falls) || (decide (x.falls = y.falls) && decide (x.at' < y.at'))

set_option maxRecDepth 20000 in
set_option maxHeartbeats 2000000 in
theorem falls_calls (x : Want) (w : World) (h : WantOk x) : Calls Tryz.prog 204 #[.agg (ints x.row)] w fun e w' => e = .returned (.int .i64 x.falls) ∧ Below w.heap.size w w' := by
 obtain ⟨a, s, n, g⟩ := x
 obtain ⟨a0, a1, s0, s1, n0, n1, g0, g1⟩ := h
 dsimp only at *
 have HF : Hid (Want.falls ⟨a, s, n, g⟩ = ((s - n * g).natAbs : Int) - ((s - (n + 1) * g).natAbs : Int)) := hid rfl
 have hp0 : 0 ≤ n * g := Int.mul_nonneg n0 g0
 have hp1 : n * g ≤ 100 * 32768 := Int.mul_le_mul n1 g1 g0 (by omega)
 have hp2 : 0 ≤ (n + 1) * g := Int.mul_nonneg (by omega) g0
 have hp3 : (n + 1) * g ≤ 101 * 32768 := Int.mul_le_mul (by omega) g1 g0 (by omega)
 obtain ⟨nn, hnn⟩ : ∃ x, x = n + 1 := ⟨_, rfl⟩
 rw [← hnn] at hp2 hp3 HF
 obtain ⟨p1, hq1⟩ : ∃ x, x = n * g := ⟨_, rfl⟩
 obtain ⟨p2, hq2⟩ : ∃ x, x = nn * g := ⟨_, rfl⟩
 rw [← hq1] at hp0 hp1 HF
 rw [← hq2] at hp2 hp3 HF
 obtain ⟨d1, hd1⟩ : ∃ x, x = s - p1 := ⟨_, rfl⟩
 obtain ⟨d2, hd2⟩ : ∃ x, x = s - p2 := ⟨_, rfl⟩
 rw [← hd1, ← hd2] at HF
 have w0 : IntKind.i64.wrap (n + 1) = nn := by rw [hnn]; exact IntWalk.i64_in _ (by omega)
 have w1 : IntKind.i64.wrap (n * g) = p1 := by rw [← hq1]; exact IntWalk.i64_in _ (by omega)
 have w2 : IntKind.i64.wrap (nn * g) = p2 := by rw [← hq2]; exact IntWalk.i64_in _ (by omega)
 have w3 : IntKind.i64.wrap (s - p1) = d1 := by rw [hd1]; exact IntWalk.i64_in _ (by omega)
 have w4 : IntKind.i64.wrap (s - p2) = d2 := by rw [hd2]; exact IntWalk.i64_in _ (by omega)
 have w5 : IntKind.i64.wrap ((d1.natAbs : Int) - (d2.natAbs : Int)) = Want.falls ⟨a, s, n, g⟩ := by rw [HF.out]; exact IntWalk.i64_in _ (by omega)
 have c1 := fun W => pSize_calls d1 W (by omega) (by omega)
 have c2 := fun W => pSize_calls d2 W (by omega) (by omega)
 have hb := blk_new w 198 (ints [a, s, n, g])
 have B0 := hid ((Below.refl w.heap.size w).alloc (Nat.le_refl _) (.cells (ints [a, s, n, g]) 198))
 have k1 : (w.alloc (.cells (ints [a, s, n, g]) 198)).cell? ⟨w.heap.size, 1, none⟩ = some (.int .i64 s) := blk_int hb (i := 1) (by simp)
 have k2 : (w.alloc (.cells (ints [a, s, n, g]) 198)).cell? ⟨w.heap.size, 2, none⟩ = some (.int .i64 n) := blk_int hb (i := 2) (by simp)
 have k3 : (w.alloc (.cells (ints [a, s, n, g]) 198)).cell? ⟨w.heap.size, 3, none⟩ = some (.int .i64 g) := blk_int hb (i := 3) (by simp)
 rw [show (Want.row ⟨a, s, n, g⟩) = [a, s, n, g] from rfl]
 generalize Want.falls ⟨a, s, n, g⟩ = res at *
 generalize (d1.natAbs : Int) = m1 at *
 generalize (d2.natAbs : Int) = m2 at *
 clear hd1 hd2 hq1 hq2 hnn HF
 clear hb hp0 hp1 hp2 hp3 a0 a1 s0 s1 n0 n1 g0 g1
 go_enter Tryz.func204, Tryz.ntmps204
 go_wp2_with fail
 generalize w.alloc (.cells (ints [a, s, n, g]) 198) = W0 at *
 refine plain_region (S := (fun L W => W.cell? ⟨w.heap.size, 1, none⟩ = some (.int .i64 s) ∧ W.cell? ⟨w.heap.size, 2, none⟩ = some (.int .i64 n) ∧ W.cell? ⟨w.heap.size, 3, none⟩ = some (.int .i64 g) ∧ W.cell? ⟨w.heap.size, 1, none⟩ = some (.int .i64 s) ∧ W.cell? ⟨w.heap.size, 2, none⟩ = some (.int .i64 n) ∧ W.cell? ⟨w.heap.size, 3, none⟩ = some (.int .i64 g))) (by kernel_rfl) (⟨k1, k2, k3, k1, k2, k3⟩) (fun hHeld => ?_)
 clear hHeld
 refine aW 0 ⟨k1, k2, k3, k1, k2, k3⟩ ?_
 refine aL 1 7 (fun _ _ _ k => k.1) ⟨k1, k2, k3, k1, k2, k3⟩ ?_
 refine aW 2 ⟨k1, k2, k3, k1, k2, k3⟩ ?_
 refine aL 3 6 (fun _ _ _ k => k.2.1) ⟨k1, k2, k3, k1, k2, k3⟩ ?_
 refine aW 4 ⟨k1, k2, k3, k1, k2, k3⟩ ?_
 refine aL 5 6 (fun _ _ _ k => k.2.2.1) ⟨k1, k2, k3, k1, k2, k3⟩ ?_
 refine aW 6 ⟨k1, k2, k3, k1, k2, k3⟩ ?_
 refine aW 7 ⟨k1, k2, k3, k1, k2, k3⟩ ?_
 refine aW 9 ⟨k1, k2, k3, k1, k2, k3⟩ ?_
 refine aL 10 17 (fun _ _ _ k => k.2.2.2.1) ⟨k1, k2, k3, k1, k2, k3⟩ ?_
 refine aW 11 ⟨k1, k2, k3, k1, k2, k3⟩ ?_
 refine aL 12 13 (fun _ _ _ k => k.2.2.2.2.1) ⟨k1, k2, k3, k1, k2, k3⟩ ?_
 refine aW 13 ⟨k1, k2, k3, k1, k2, k3⟩ ?_
 refine aW 14 ⟨k1, k2, k3, k1, k2, k3⟩ ?_
 refine aL 15 16 (fun _ _ _ k => k.2.2.2.2.2) ⟨k1, k2, k3, k1, k2, k3⟩ ?_
 refine aW 16 ⟨k1, k2, k3, k1, k2, k3⟩ ?_
 refine aW 17 ⟨k1, k2, k3, k1, k2, k3⟩ ?_
 refine aR 8 (fun K hK => ?_)
 go_simp
 refine (c1 _).mono ?_
 rintro e w' ⟨rfl, rfl⟩
 refine hK.out _ _ (⟨k1, k2, k3, k1, k2, k3⟩) (fun hHeld => ?_)
 clear hK K
 try simp only [Act.put, tA, tB, tC]
 clear hHeld
 refine aR 18 (fun K hK => ?_)
 go_simp
 refine (c2 _).mono ?_
 rintro e w' ⟨rfl, rfl⟩
 refine hK.out _ _ (⟨k1, k2, k3, k1, k2, k3⟩) (fun hHeld => ?_)
 clear hK K
 try simp only [Act.put, tA, tB, tC]
 clear hHeld
 refine aW 19 ⟨k1, k2, k3, k1, k2, k3⟩ ?_
 refine aW 20 ⟨k1, k2, k3, k1, k2, k3⟩ ?_
 refine anyU_done (by kernel_rfl) ?_ _
 go_wp2_with fail
 go_ret
 exact ⟨rfl, below_draws B0.out 1⟩
end Go.Proofs.YtiigipnfnfpepaaGreatDoor
namespace Go.Proofs.YtiigipnfnfpepaaGreatDoor
open Go.RowKit

theorem range_keep {w w' : World} {g o : Nat} {cs : List Value} (h : w.rangeAt g o cs) (hk : w'.heap[g]? = w.heap[g]?) : w'.rangeAt g o cs := fun j v hj => by
 have := h j v hj
 unfold World.cell? at *
 simpa only [hk] using this
def wL (l : List Want) : List (List Int) := l.map Want.row
theorem wL_get {l : List Want} {i : Nat} (hi : i < l.length) : (wL l).getD i [] = (l.getD i default).row := by
 rw [wL, List.getD_eq_getElem?_getD, List.getElem?_map, List.getElem?_eq_getElem hi, List.getD_eq_getElem?_getD, List.getElem?_eq_getElem hi]
 rfl
theorem wL_len (l : List Want) : (wL l).length = l.length := by simp [wL]
theorem wL_app (l : List Want) (x : Want) : wL (l ++ [x]) = wL l ++ [x.row] := by simp [wL]
structure WInv (F : Nat → Prop) (w0 : World) (g : Nat) (w : World) (l : List Want) : Prop where
 bel : Below g w0 w
 keep : ∀ k, F k → k < w0.heap.size ∧ w.heap[k]? = w0.heap[k]?
 notg : ¬ F g
 small : l.length ≤ 1000
 all : ∀ x ∈ l, WantOk x
 row : ∃ v, Blk w g 196 #[v] ∧ SRow w (g + 1) 198 4 v (wL l) ∧ ∀ k, v.ownBlock = some k → ¬ F k
theorem winv_below {F : Nat → Prop} {w0 w w' : World} {g : Nat} {l : List Want} (h : WInv F w0 g w l) (hb : Below w.heap.size w w') : WInv F w0 g w' l := by
 obtain ⟨v, h1, h2, h3⟩ := h.row
 exact ⟨h.bel.trans (hb.mono (Nat.le_of_lt (blk_lt h1))), fun k hk => ⟨(h.keep k hk).1, (hb.block k (Nat.lt_of_lt_of_le (h.keep k hk).1 h.bel.size)).trans (h.keep k hk).2⟩, h.notg, h.small, h.all, v, blk_below h1 hb (blk_lt h1), srow_below h2 hb (Nat.le_refl _), h3⟩
theorem winv_draws {F : Nat → Prop} {w0 w : World} {g : Nat} {l : List Want} (h : WInv F w0 g w l) (n : Nat) : WInv F w0 g (w.drewN n) l := by
 obtain ⟨v, h1, h2, h3⟩ := h.row
 exact ⟨below_draws h.bel n, h.keep, h.notg, h.small, h.all, v, blk_draws h1 n, srow_draws h2 n, h3⟩
theorem winv_base {F : Nat → Prop} {w0 w : World} {g : Nat} {l : List Want} (h : WInv F w0 g w l) : WInv F w g w l :=
 ⟨Below.refl _ _, fun k hk => ⟨Nat.lt_of_lt_of_le (h.keep k hk).1 h.bel.size, rfl⟩, h.notg, h.small, h.all, h.row⟩
theorem want_size : (Tryz.prog.info? 198).map (·.size) = some 4 := by kernel_rfl
theorem winv_slice {F : Nat → Prop} {w0 w : World} {g : Nat} {l : List Want} (h : WInv F w0 g w l) : ∃ a c, w.cell? ⟨g, 0, none⟩ = some (.slice a l.length c) ∧ SRow w (g + 1) 198 4 (.slice a l.length c) (wL l) := by
 obtain ⟨v, hb, hr, _⟩ := h.row
 have hl := wL_len l
 rcases hr.row with ⟨rfl, h0⟩ | ⟨g', cap, cur, rfl, _⟩
 · have : l.length = 0 := by rw [← hl, h0]; rfl
   exact ⟨none, 0, by rw [this]; exact blk_cell hb 0, by rw [this]; exact hr⟩
 · rw [hl] at hr hb
   exact ⟨_, _, blk_cell hb 0, hr⟩
theorem m_wants {f : FuncId} {name : String} (hm : ((Tryz.prog.info? 194).bind fun i => i.methods.find? (·.name == name)).map (fun m => (m.path, m.func)) = some (#[], some (f, false))) (g : Nat) (a : Option Addr) (n c : Nat) (w : World) (h : w.cell? ⟨g, 0, none⟩ = some (.slice a n c)) :
 (method 366 194 (.pointer (some ⟨g, 0, none⟩)) name).run Tryz.prog w = .ok (f, .slice a n c) w := by
 refine run_method_deref hm Tryz.underlying194 _ _ _ ?_
 go_simp

set_option maxHeartbeats 2000000 in
theorem wLen_calls (a : Option Addr) (n c : Nat) (w : World) : Calls Tryz.prog 199 #[.slice a n c] w fun e w' => e = .returned (.int .i64 n) ∧ w = w' := by
 go_enter Tryz.func199, Tryz.ntmps199
 go_wp2_with fail
 go_ret
 exact ⟨rfl, rfl⟩

set_option maxRecDepth 20000 in
set_option maxHeartbeats 2000000 in
theorem wLess_calls (g n c : Nat) (x y : Want) (i j : Nat) (w : World) (hi : i < n) (hj : j < n) (hg : g < w.heap.size) (hx : WantOk x) (hy : WantOk y)
 (rx : w.rangeAt g (i * 4) (x.row.map (Value.int .i64))) (ry : w.rangeAt g (j * 4) (y.row.map (Value.int .i64))) :
 Calls Tryz.prog 200 #[.slice (some ⟨g, 0, none⟩) n c, .int .i64 i, .int .i64 j] w fun e w' => e = .returned (.bool (lessW x y)) ∧ Below w.heap.size w w' := by
 have hi0 : (0 : Int) ≤ i := by omega
 have hj0 : (0 : Int) ≤ j := by omega
 have hi1 : (i : Int) < n := by omega
 have hj1 : (j : Int) < n := by omega
 have cx := fun W => falls_calls x W hx
 have cy := fun W => falls_calls y W hy
 have HL : Hid (lessW x y = (decide (y.falls < x.falls) || (decide (x.falls = y.falls) && decide (x.at' < y.at')))) := hid rfl
 generalize lessW x y = res at *
 generalize x.falls = fx at *
 generalize y.falls = fy at *
 obtain ⟨xa, xs, xn, xg⟩ := x
 obtain ⟨ya, ys, yn, yg⟩ := y
 have RX := hid rx
 have RY := hid ry
 have HG := hid hg
 clear hx hy hi hj hg
 go_enter Tryz.func200, Tryz.ntmps200
 go_wp2_with fail
 refine plain_region (S := (fun L W => (L.getD 4 true = true ∨ W.rangeAt g (i * 4) ([xa, xs, xn, xg].map (Value.int .i64))) ∧ (L.getD 9 true = true ∨ W.rangeAt g (j * 4) ([ya, ys, yn, yg].map (Value.int .i64))))) (by kernel_rfl) (⟨Or.inr rx, Or.inr ry⟩) (fun hHeld => ?_)
 clear hHeld
 refine aW 0 ⟨Or.inr rx, Or.inr ry⟩ ?_
 refine aW 1 ⟨Or.inr rx, Or.inr ry⟩ ?_
 refine aW 2 ⟨Or.inr rx, Or.inr ry⟩ ?_
 refine aB 3 4 rfl (fun _ _ h k => rL k.1 h) (yieldsIf_load_mid (by rfl) 198 _ rfl g (i * 4) rfl _ _ (fun _ h => h) Tryz.underlying198 rfl want_size) ⟨Or.inr rx, Or.inr ry⟩ ?_
 refine aW 5 ⟨Or.inr rx, Or.inr ry⟩ ?_
 refine aW 6 ⟨Or.inr rx, Or.inr ry⟩ ?_
 refine aW 7 ⟨Or.inr rx, Or.inr ry⟩ ?_
 refine aB 8 9 rfl (fun _ _ h k => rL k.2 h) (yieldsIf_load_mid (by rfl) 198 _ rfl g (j * 4) rfl _ _ (fun _ h => h) Tryz.underlying198 rfl want_size) ⟨Or.inr rx, Or.inr ry⟩ ?_
 refine aR 4 (fun K hK => ?_)
 go_simp
 refine (cx _).mono ?_
 rintro e w1 ⟨rfl, B1⟩
 have ry := range_keep RY.out ((B1.block g HG.out))
 have HB1 := hid B1
 clear B1
 refine hK.out _ _ (⟨Or.inl (by rfl), Or.inr ry⟩) (fun hHeld => ?_)
 clear hK K
 try simp only [Act.put, tA, tB, tC]
 clear hHeld
 refine aR 9 (fun K hK => ?_)
 go_simp
 refine (cy _).mono ?_
 rintro e w2 ⟨rfl, B2⟩
 have HB2 := hid (bnext (below_draws (Below.refl w.heap.size w) 1) (bnext HB1.out B2))
 clear B2
 refine hK.out _ _ (⟨Or.inl (by rfl), Or.inl (by rfl)⟩) (fun hHeld => ?_)
 clear hK K
 try simp only [Act.put, tA, tB, tC]
 clear hHeld
 refine aW 10 ⟨Or.inl (by rfl), Or.inl (by rfl)⟩ ?_
 refine aW 11 ⟨Or.inl (by rfl), Or.inl (by rfl)⟩ ?_
 refine anyU_done (by kernel_rfl) ?_ _
 have rx2 := range_keep RX.out (HB2.out.block g HG.out)
 have ry2 := range_keep RY.out (HB2.out.block g HG.out)
 have kx : w2.cell? ⟨g, i * 4, none⟩ = some (.int .i64 xa) := rx2 0 _ rfl
 have ky : w2.cell? ⟨g, j * 4, none⟩ = some (.int .i64 ya) := ry2 0 _ rfl
 clear rx ry rx2 ry2 cx cy RX RY
 by_cases h1 : fy < fx
 · have HX := hid (show res = true by rw [HL.out, decide_eq_true h1, Bool.true_or])
   clear HL
   go_wp2_with fail
   refine plain_region (S := (fun L W => True)) (by kernel_rfl) (trivial) (fun hHeld => ?_)
   clear hHeld
   refine aW 0 trivial ?_
   refine aW 1 trivial ?_
   refine aW 2 trivial ?_
   refine aW 3 trivial ?_
   refine aS 4 trivial ?_
   refine aS 5 trivial ?_
   refine aS 6 trivial ?_
   refine aS 7 trivial ?_
   refine aS 8 trivial ?_
   refine aS 9 trivial ?_
   refine aS 10 trivial ?_
   refine aS 11 trivial ?_
   refine aS 12 trivial ?_
   refine aS 13 trivial ?_
   refine aS 14 trivial ?_
   refine aS 15 trivial ?_
   refine aS 16 trivial ?_
   refine aS 17 trivial ?_
   refine aS 18 trivial ?_
   refine aS 19 trivial ?_
   refine aW 20 trivial ?_
   refine aW 21 trivial ?_
   refine anyU_done (by kernel_rfl) ?_ _
   go_wp2_with fail
   go_ret
   exact ⟨by rw [HX.out]; rfl, below_draws HB2.out 1⟩
 · by_cases h2 : fx = fy
   · subst h2
     have h1' : decide (fx < fx) = false := decide_eq_false h1
     have h2' : (fx == fx) = true := by simp
     have HX := hid (show res = decide (xa < ya) by rw [HL.out, h1']; simp)
     clear HL h1'
     go_wp2_with fail
     refine plain_region (S := (fun L W => W.cell? ⟨g, i * 4, none⟩ = some (.int .i64 xa) ∧ W.cell? ⟨g, j * 4, none⟩ = some (.int .i64 ya))) (by kernel_rfl) (⟨kx, ky⟩) (fun hHeld => ?_)
     clear hHeld
     refine aW 0 ⟨kx, ky⟩ ?_
     refine aW 1 ⟨kx, ky⟩ ?_
     refine aW 2 ⟨kx, ky⟩ ?_
     refine aW 3 ⟨kx, ky⟩ ?_
     refine aW 4 ⟨kx, ky⟩ ?_
     refine aW 5 ⟨kx, ky⟩ ?_
     refine aW 6 ⟨kx, ky⟩ ?_
     refine aW 7 ⟨kx, ky⟩ ?_
     refine aW 8 ⟨kx, ky⟩ ?_
     refine aW 9 ⟨kx, ky⟩ ?_
     refine aW 10 ⟨kx, ky⟩ ?_
     refine aW 11 ⟨kx, ky⟩ ?_
     refine aL 12 18 (fun _ _ _ k => k.1) ⟨kx, ky⟩ ?_
     refine aW 13 ⟨kx, ky⟩ ?_
     refine aW 14 ⟨kx, ky⟩ ?_
     refine aW 15 ⟨kx, ky⟩ ?_
     refine aW 16 ⟨kx, ky⟩ ?_
     refine aL 17 18 (fun _ _ _ k => k.2) ⟨kx, ky⟩ ?_
     refine aW 18 ⟨kx, ky⟩ ?_
     refine aW 19 ⟨kx, ky⟩ ?_
     refine aW 20 ⟨kx, ky⟩ ?_
     refine aW 21 ⟨kx, ky⟩ ?_
     refine anyU_done (by kernel_rfl) ?_ _
     go_wp2_with fail
     go_ret
     exact ⟨by rw [HX.out]; rfl, below_draws HB2.out 1⟩
   · have HX := hid (show res = false by rw [HL.out, decide_eq_false h1, decide_eq_false h2]; rfl)
     have hq : (fx == fy) = false := by simpa using h2
     have h1' : decide (fy < fx) = false := decide_eq_false h1
     clear h1 h2
     clear HL
     go_wp2_with fail
     refine plain_region (S := (fun L W => True)) (by kernel_rfl) (trivial) (fun hHeld => ?_)
     clear hHeld
     refine aW 0 trivial ?_
     refine aW 1 trivial ?_
     refine aW 2 trivial ?_
     refine aW 3 trivial ?_
     refine aW 4 trivial ?_
     refine aW 5 trivial ?_
     refine aW 6 trivial ?_
     refine aW 7 trivial ?_
     refine aS 8 trivial ?_
     refine aS 9 trivial ?_
     refine aS 10 trivial ?_
     refine aS 11 trivial ?_
     refine aS 12 trivial ?_
     refine aS 13 trivial ?_
     refine aS 14 trivial ?_
     refine aS 15 trivial ?_
     refine aS 16 trivial ?_
     refine aS 17 trivial ?_
     refine aS 18 trivial ?_
     refine aW 19 trivial ?_
     refine aW 20 trivial ?_
     refine aW 21 trivial ?_
     refine anyU_done (by kernel_rfl) ?_ _
     go_wp2_with fail
     go_ret
     exact ⟨by rw [HX.out]; rfl, below_draws HB2.out 1⟩
end Go.Proofs.YtiigipnfnfpepaaGreatDoor
namespace Go.Proofs.YtiigipnfnfpepaaGreatDoor
open Go.RowKit

set_option maxRecDepth 20000 in
set_option maxHeartbeats 2000000 in
theorem wSwap_calls {F : Nat → Prop} {w0 w : World} {g gr cap : Nat} {l : List Want} (i j : Nat) (h : WInv F w0 g w l) (hc : w.cell? ⟨g, 0, none⟩ = some (.slice (some ⟨gr, 0, none⟩) l.length cap)) (hr : SRow w (g + 1) 198 4 (.slice (some ⟨gr, 0, none⟩) l.length cap) (wL l))
 (hi : i < l.length) (hj : j < l.length) : Calls Tryz.prog 203 #[.slice (some ⟨gr, 0, none⟩) l.length cap, .int .i64 i, .int .i64 j] w fun e w' => e = .returned (.tuple #[]) ∧ WInv F w0 g w' (swapA l i j) := by
 obtain ⟨v, hb, _, hF⟩ := h.row
 have hv : v = .slice (some ⟨gr, 0, none⟩) l.length cap := by
  have := blk_cell hb 0
  rw [hc] at this
  simpa using this.symm
 subst hv
 obtain ⟨gr2, cap2, he, hgr, _, ri⟩ := srow_at hr (i := i) (by rw [wL_len]; exact hi)
 obtain ⟨gr', cap', he', _, _, rj⟩ := srow_at hr (i := j) (by rw [wL_len]; exact hj)
 have e1 : gr = gr2 := by simp only [Value.slice.injEq, Option.some.injEq, Addr.mk.injEq] at he; exact he.1.1
 have e2 : gr = gr' := by simp only [Value.slice.injEq, Option.some.injEq, Addr.mk.injEq] at he'; exact he'.1.1
 subst e1
 subst e2
 rw [wL_get hi] at ri
 rw [wL_get hj] at rj
 have q0 := getD_all (P := fun x : Want => True) (k := l) (fun _ _ => trivial) hi default
 obtain ⟨s1, g1⟩ := srow_set (w := w.drew) (i := i) (srow_draws hr 1) (by rw [wL_len]; exact hi) (x := (l.getD j default).row) rfl
 obtain ⟨s2, g2⟩ := srow_set (i := j) s1 (by rw [List.length_set, wL_len]; exact hj) (x := (l.getD i default).row) rfl
 have t1 := srow_there (w := w.drew) (srow_draws hr 1) (i := i) (by rw [wL_len]; exact hi)
 have t2 := srow_there s1 (i := j) (by rw [List.length_set, wL_len]; exact hj)
 have e3 : ((wL l).set i (l.getD j default).row).set j (l.getD i default).row = wL (swapA l i j) := by
  unfold swapA wL
  rw [List.map_set, List.map_set]
 rw [e3] at s2
 have G12 := g1.trans g2
 have HQ : Hid (WInv F w0 g ((w.drew.setCells gr (i * 4) ((l.getD j default).row.map (Value.int .i64))).setCells gr (j * 4) ((l.getD i default).row.map (Value.int .i64))) (swapA l i j)) :=
  hid ⟨below_grown (below_draws h.bel 1) G12 (Nat.le_of_lt (blk_lt (blk_draws hb 1))) (by omega), fun k hk => ⟨(h.keep k hk).1, (G12.block k (Nat.lt_of_lt_of_le (h.keep k hk).1 h.bel.size) (fun e => by injection e with e; exact hF gr rfl (e ▸ hk))).trans (h.keep k hk).2⟩, h.notg, by rw [swapA_len]; exact h.small, swapA_all h.all hi hj, _, blk_grown (blk_draws hb 1) G12 (fun e => by injection e with e; omega), s2, hF⟩
 clear s1 s2 g1 g2 e3 G12 hr q0 hF
 generalize swapA l i j = sl at *
 generalize l.getD i default = x at *
 generalize l.getD j default = y at *
 obtain ⟨xa, xs, xn, xg⟩ := x
 obtain ⟨ya, ys, yn, yg⟩ := y
 have hi0 : (0 : Int) ≤ i := by omega
 have hj0 : (0 : Int) ≤ j := by omega
 have hi1 : (i : Int) < l.length := by omega
 have hj1 : (j : Int) < l.length := by omega
 have T1 := hid t1
 have T2 := hid t2
 clear h hb hi hj t1 t2 hc
 generalize l.length = n at *
 go_enter Tryz.func203, Tryz.ntmps203
 go_wp2_with fail
 refine plain_region (S := (fun L W => (L.getD 13 true = true ∨ W.rangeAt gr (j * 4) ([ya, ys, yn, yg].map (Value.int .i64))) ∧ (L.getD 13 true = true ∨ W.rangeAt gr (i * 4) ([xa, xs, xn, xg].map (Value.int .i64))))) (by kernel_rfl) (⟨Or.inr rj, Or.inr ri⟩) (fun hHeld => ?_)
 clear hHeld
 refine aW 0 ⟨Or.inr rj, Or.inr ri⟩ ?_
 refine aW 1 ⟨Or.inr rj, Or.inr ri⟩ ?_
 refine aW 2 ⟨Or.inr rj, Or.inr ri⟩ ?_
 refine aW 3 ⟨Or.inr rj, Or.inr ri⟩ ?_
 refine aW 4 ⟨Or.inr rj, Or.inr ri⟩ ?_
 refine aW 5 ⟨Or.inr rj, Or.inr ri⟩ ?_
 refine aW 6 ⟨Or.inr rj, Or.inr ri⟩ ?_
 refine aB 7 13 rfl (fun _ _ h k => rL k.1 h) (yieldsIf_load_mid (by rfl) 198 _ rfl gr (j * 4) rfl _ _ (fun _ h => h) Tryz.underlying198 rfl want_size) ⟨Or.inr rj, Or.inr ri⟩ ?_
 refine aW 8 ⟨Or.inr rj, Or.inr ri⟩ ?_
 refine aW 9 ⟨Or.inr rj, Or.inr ri⟩ ?_
 refine aW 10 ⟨Or.inr rj, Or.inr ri⟩ ?_
 refine aB 11 13 rfl (fun _ _ h k => rL k.2 h) (yieldsIf_load_mid (by rfl) 198 _ rfl gr (i * 4) rfl _ _ (fun _ h => h) Tryz.underlying198 rfl want_size) ⟨Or.inr rj, Or.inr ri⟩ ?_
 refine aW 12 ⟨Or.inr rj, Or.inr ri⟩ ?_
 refine aR 13 (fun K hK => ?_)
 refine stepU_store (by rfl) 198 _ _ rfl gr (i * 4) ([ya, ys, yn, yg].map (Value.int .i64)) rfl rfl T1.out want_size (ints_one1 _) ?_
 refine hK.out _ _ (⟨Or.inl (by rfl), Or.inl (by rfl)⟩) (fun hHeld => ?_)
 clear hK K
 try simp only [Act.put]
 clear hHeld
 refine aW 14 ⟨Or.inl (by rfl), Or.inl (by rfl)⟩ ?_
 refine aR 15 (fun K hK => ?_)
 refine stepU_store (by rfl) 198 _ _ rfl gr (j * 4) ([xa, xs, xn, xg].map (Value.int .i64)) rfl rfl T2.out want_size (ints_one1 _) ?_
 refine hK.out _ _ (⟨Or.inl (by rfl), Or.inl (by rfl)⟩) (fun hHeld => ?_)
 clear hK K
 try simp only [Act.put]
 clear hHeld
 refine anyU_done (by kernel_rfl) ?_ _
 have HQ' : Hid (WInv F w0 g ((w.drew.setCells gr (i * 4) ([ya, ys, yn, yg].map (Value.int .i64))).setCells gr (j * 4) ([xa, xs, xn, xg].map (Value.int .i64))) sl) := HQ
 clear HQ T1 T2 ri rj
 generalize (w.drew.setCells gr (i * 4) ([ya, ys, yn, yg].map (Value.int .i64))).setCells gr (j * 4) ([xa, xs, xn, xg].map (Value.int .i64)) = w9 at *
 go_wp2_with fail
 go_end0
 exact ⟨rfl, HQ'.out⟩

abbrev wantV (x : Want) : Value := .iface 198 (.agg (ints x.row))
theorem want_assert (a b c d : Int) (w : World) : (Instr.typeAssert (.iface 198 (.agg (ints [a, b, c, d]))) 20 198 false).run Tryz.prog w = .ok (.agg (ints [a, b, c, d])) w := by kernel_rfl
set_option maxRecDepth 20000 in
set_option maxHeartbeats 2000000 in
theorem wPush_calls {F : Nat → Prop} {w0 w : World} {g : Nat} {l : List Want} (x : Want) (h : WInv F w0 g w l) (hx : WantOk x) (hs : l.length < 1000) : Calls Tryz.prog 202 #[.pointer (some ⟨g, 0, none⟩), wantV x] w fun e w' => e = .returned (.tuple #[]) ∧ WInv F w0 g w' (l ++ [x]) := by
 obtain ⟨v, hb, hr, hF⟩ := h.row
 obtain ⟨xa, xs, xn, xg⟩ := x
 rw [show wantV ⟨xa, xs, xn, xg⟩ = .iface 198 (.agg (ints [xa, xs, xn, xg])) from rfl]
 have hg := blk_lt hb
 have c0 : w.cell? ⟨g, 0, none⟩ = some v := blk_cell hb 0
 have hr1 := srow_alloc (srow_draws hr 1) (.cells (ints [xa, xs, xn, xg]) 198)
 have hb1 := blk_alloc (blk_draws hb 1) (.cells (ints [xa, xs, xn, xg]) 198)
 have c1 : (w.drew.alloc (.cells (ints [xa, xs, xn, xg]) 198)).cell? ⟨g, 0, none⟩ = some v := blk_cell hb1 0
 obtain ⟨v', w2, ra, r2, gw, hv'⟩ := srow_append (P := Tryz.prog) (t := 196) (bytes := 32) (z := .agg #[Value.int .i64 0, .int .i64 0, .int .i64 0, .int .i64 0]) hr1 (by decide) (info_parts (by kernel_rfl)) (by kernel_rfl) Tryz.underlying196 (x := [xa, xs, xn, xg]) rfl (blk_new w.drew 198 (ints [xa, xs, xn, xg])) (by rw [wL_len]; omega) (by decide) (by simp; omega) 196
 have hne : some g ≠ v.ownBlock := fun e => by
  have := (srow_lt hr g e.symm).1
  omega
 have hb2 := blk_grown hb1 gw hne
 have B2 : Below g w0 w2 := (((below_draws h.bel 1).alloc (Nat.le_of_lt hg) _).grown gw (Nat.le_of_lt (blk_lt hb1)) (fun k e => by have := (srow_lt hr k e).1; omega))
 have hF2 : ∀ k, v'.ownBlock = some k → ¬ F k := fun k hk hf => by
  rcases hv' with e | e
  · exact hF k (e.symm.trans hk) hf
  · rw [e] at hk
    injection hk with hk
    have h1 := (h.keep k hf).1
    have h2 := h.bel.size
    simp at hk
    omega
 have K2 : ∀ i u k, F k → k < w0.heap.size ∧ (w2.setCell ⟨g, i, none⟩ u).heap[k]? = w0.heap[k]? := fun i u k hk => by
  have h1 := (h.keep k hk).1
  have h2 := h.bel.size
  refine ⟨h1, (Below.heap_setCell w2 ⟨g, i, none⟩ u k (fun e => h.notg ((show k = g from e) ▸ hk))).trans ((gw.block k (by simp; omega) (fun e => hF k e.symm hk)).trans ((Below.heap_alloc w.drew _ k (show k < w.heap.size by omega)).trans (h.keep k hk).2))⟩
 have c2 : w2.cell? ⟨g, 0, none⟩ = some v := blk_cell hb2 0
 have f2 := blk_free hb2 0
 obtain ⟨gn, cn, rfl, _⟩ := srow_at r2 (i := l.length) (by simp [wL])
 generalize (wL l ++ [[xa, xs, xn, xg]]).length = nn at *
 have HQ : Hid (WInv F w0 g (w2.setCell ⟨g, 0, none⟩ (.slice (some ⟨gn, 0, none⟩) nn cn)) (l ++ [⟨xa, xs, xn, xg⟩])) := hid ⟨below_set B2 (Nat.le_refl _) _, K2 0 _, h.notg, by simp; omega, fun y hy => by
  rcases List.mem_append.1 hy with h1 | h1
  · exact h.all y h1
  · rw [List.mem_singleton.1 h1]; exact hx, _, blk_set hb2 0 _, by
  rw [wL_app]
  exact ⟨srow_far r2 (Nat.lt_succ_self g) 0 _, hF2⟩⟩
 have HR := hid ra
 clear h hb hr hr1 hb1 r2 gw hne hb2 B2 hs ra hx hF hF2 hv' K2
 have ta := want_assert xa xs xn xg
 go_enter Tryz.func202, Tryz.ntmps202
 go_wp2_with fail
 refine plain_region (S := (fun L W => (L.getD 7 true = true ∨ W.cell? ⟨g, 0, none⟩ = some (v)))) (by kernel_rfl) (Or.inr c0) (fun hHeld => ?_)
 clear hHeld
 refine aW 0 (Or.inr c0) ?_
 refine aW 1 (Or.inr c0) ?_
 refine aW 2 (Or.inr c0) ?_
 refine aL 3 7 (fun _ _ h k => rL k h) (Or.inr c0) ?_
 refine aW 4 (Or.inr c0) ?_
 refine aW 5 (Or.inr c0) ?_
 refine aR 6 (fun K hK => ?_)
 go_simp
 have c0 := c1
 refine hK.out _ _ (Or.inr c0) (fun hHeld => ?_)
 clear hK K
 try simp only [Act.put, tA, tB, tC]
 clear hHeld
 refine aR 7 (fun K hK => ?_)
 refine stepU_append (by rfl) _ _ _ _ rfl _ _ rfl rfl _ w2 HR.out ?_
 refine hK.out _ _ (Or.inl (by rfl)) (fun hHeld => ?_)
 clear hK K
 try simp only [Act.put, tA, tB, tC]
 clear hHeld
 refine aW 8 (Or.inl (by rfl)) ?_
 refine aR 9 (fun K hK => ?_)
 go_simp
 skip
 refine hK.out _ _ (Or.inl (by rfl)) (fun hHeld => ?_)
 clear hK K
 try simp only [Act.put, tA, tB, tC]
 clear hHeld
 refine anyU_done (by kernel_rfl) ?_ _
 go_wp2_with fail
 go_end0
 exact ⟨rfl, HQ.out⟩

def wOps (F : Nat → Prop) (w0 : World) (g : Nat) : HeapOps (A := Want) 194 (.pointer (some ⟨g, 0, none⟩)) (WInv F w0 g) lessW where
 kLen := 199
 kLess := 200
 kSwap := 203
 cLen := fun _ _ => by kernel_rfl
 cLess := fun _ _ => by kernel_rfl
 cSwap := fun _ _ => by kernel_rfl
 small := fun h => Nat.le_trans h.small (by decide)
 len := fun {w l} h => by
  obtain ⟨a, c, h1, _⟩ := winv_slice h
  refine ⟨_, m_wants (by kernel_rfl) g a l.length c w h1, (wLen_calls a l.length c w).mono ?_⟩
  rintro e w' ⟨rfl, rfl⟩
  exact ⟨rfl, h⟩
 les := fun {w l} i j h hi hj => by
  obtain ⟨a, c, h1, hr⟩ := winv_slice h
  obtain ⟨gr, cap, e1, _, hlt, ri⟩ := srow_at hr (i := i) (by rw [wL_len]; exact hi)
  obtain ⟨gr', cap', e2, _, _, rj⟩ := srow_at hr (i := j) (by rw [wL_len]; exact hj)
  cases a with
  | none => simp at e1
  | some ad =>
   simp only [Value.slice.injEq, Option.some.injEq] at e1 e2
   obtain ⟨rfl, _, _⟩ := e1
   have e3 := e2.1
   simp only [Addr.mk.injEq] at e3
   obtain ⟨rfl, _⟩ := e3
   rw [wL_get hi] at ri
   rw [wL_get hj] at rj
   refine ⟨_, m_wants (by kernel_rfl) g _ l.length c w h1, (wLess_calls gr l.length c _ _ i j w hi hj hlt (getD_all h.all hi default) (getD_all h.all hj default) ri rj).mono ?_⟩
   rintro e w' ⟨rfl, B⟩
   exact ⟨rfl, winv_below h B⟩
 swp := fun {w l} i j h hi hj => by
  obtain ⟨a, c, h1, hr⟩ := winv_slice h
  obtain ⟨gr, cap, e1, _, hlt, ri⟩ := srow_at hr (i := i) (by rw [wL_len]; exact hi)
  cases a with
  | none => simp at e1
  | some ad =>
   simp only [Value.slice.injEq, Option.some.injEq] at e1
   obtain ⟨rfl, _, _⟩ := e1
   exact ⟨_, m_wants (by kernel_rfl) g _ l.length c w h1, wSwap_calls i j h h1 hr hi hj⟩
theorem wpush_heap {F : Nat → Prop} {w0 w : World} {g : Nat} {l : List Want} (x : Want) (h : WInv F w0 g w l) (hx : WantOk x) (hs : l.length < 1000) :
 Calls Tryz.prog 61 #[.iface 194 (.pointer (some ⟨g, 0, none⟩)), wantV x] w fun e w' => e = .returned (.tuple #[]) ∧ WInv F w0 g w' (pushH lessW l x) :=
 hpush_calls (wOps F w0 g) l w (by omega) (fun _ => by kernel_rfl) (fun _ _ => by kernel_rfl) (wPush_calls x h hx hs)
theorem wfix_heap {F : Nat → Prop} {w0 w : World} {g : Nat} {l : List Want} (h : WInv F w0 g w l) (h0 : 0 < l.length) :
 Calls Tryz.prog 125 #[.iface 194 (.pointer (some ⟨g, 0, none⟩)), .int .i64 0] w fun e w' => e = .returned (.tuple #[]) ∧ WInv F w0 g w' (fixL lessW l) :=
 hfix_calls (wOps F w0 g) l w h h0
theorem srow_first {P : Program} {w : World} {B : Nat} {e t : TypeId} {sz bytes gx b : Nat} {z : Value} (hi : ∃ i : TypeInfo, P.info? e = some i ∧ i.zero = some z ∧ i.size = sz ∧ i.bytes = bytes) (hz : z.cells.size = sz) (ht : P.underlying t = some (.slice e))
 {x : List Int} (hx : x.length = sz) (hb : Blk w gx e (ints x)) (hby : bytes ≤ 64) (hB : B ≤ w.heap.size) (ty : TypeId) :
 ∃ v' w', (Builtin.append_ #[t, t] ty #[.slice (some ⟨b, 0, none⟩) 0 0, .slice (some ⟨gx, 0, none⟩) 1 1]).run P w = .ok v' w' ∧ SRow w' B e sz v' [x] ∧ w.grownBy w' none := by
 obtain ⟨i, hi, hz1, hs1, hb1⟩ := hi
 have hr := run_append_grow (P := P) w t ty e i z ht hi hz1 ⟨b, 0, none⟩ 0 0 [] (by simp) (fun j v hj => by simp at hj) ⟨gx, 0, none⟩ 1 1 (x.map (.int .i64)) (by rw [List.length_map, hx, Nat.one_mul, hs1])
  (fun j u hj => by rw [Addr.add_mid, Nat.zero_add, blk_cell hb, ints_get, ← hj, List.getElem?_map]) (by omega) (by decide) (growslice_fits (by omega) (by rw [hb1]; omega))
 have hge := grownCap_ge w (0 + 1) 0 e
 have hle := grownCap_le_maxLen w (0 + 1) 0 e (by decide)
 refine ⟨_, _, hr, ⟨fun y hy => by rw [List.mem_singleton.1 hy]; exact hx, .inr ⟨w.heap.size, _, _, rfl, hB, heap_alloc_new w.drew _, hge, hle, ?_, ?_⟩⟩, ⟨rfl, rfl, rfl, by simp, fun k hk _ => heap_alloc_old w.drew _ hk⟩⟩
 · have e1 := Nat.mul_le_mul_right sz hge
   simp only [Array.size_append, List.size_toArray, size_zeroCells, List.length_nil, List.length_map, hx, hz, Nat.zero_add, Nat.one_mul] at *
   have e2 := Nat.sub_mul (grownCap w 1 0 e) 1 sz
   rw [e2]
   omega
 · intro p q hp hq
   have hp0 : p = 0 := by simpa using hp
   subst hp0
   rw [Nat.zero_mul, Array.getElem?_append_left (by simp; omega), Array.getElem?_append_right (by simp)]
   simp only [List.size_toArray, List.length_nil, Nat.sub_zero, List.getElem?_toArray, List.getElem?_map, List.getD_cons_zero, Nat.zero_add]
   rw [List.getElem?_eq_getElem (show q < x.length by omega), List.getD_eq_getElem?_getD, List.getElem?_eq_getElem (show q < x.length by omega)]
   rfl

set_option maxRecDepth 20000 in
set_option maxHeartbeats 2000000 in
theorem wPush_first {w : World} {g b : Nat} (x : Want) (hb : Blk w g 196 #[.slice (some ⟨b, 0, none⟩) 0 0]) (hx : WantOk x) : Calls Tryz.prog 202 #[.pointer (some ⟨g, 0, none⟩), wantV x] w fun e w' => e = .returned (.tuple #[]) ∧ WInv (fun _ => False) w g w' ([] ++ [x]) := by
 obtain ⟨xa, xs, xn, xg⟩ := x
 rw [show wantV ⟨xa, xs, xn, xg⟩ = .iface 198 (.agg (ints [xa, xs, xn, xg])) from rfl]
 have hg := blk_lt hb
 have c0 : w.cell? ⟨g, 0, none⟩ = some (.slice (some ⟨b, 0, none⟩) 0 0) := blk_cell hb 0
 have hb1 := blk_alloc (blk_draws hb 1) (.cells (ints [xa, xs, xn, xg]) 198)
 have c1 : (w.drew.alloc (.cells (ints [xa, xs, xn, xg]) 198)).cell? ⟨g, 0, none⟩ = some (.slice (some ⟨b, 0, none⟩) 0 0) := blk_cell hb1 0
 obtain ⟨v', w2, ra, r2, gw⟩ := srow_first (P := Tryz.prog) (B := g + 1) (b := b) (t := 196) (bytes := 32) (z := .agg #[Value.int .i64 0, .int .i64 0, .int .i64 0, .int .i64 0]) (info_parts (by kernel_rfl)) (by kernel_rfl) Tryz.underlying196 (x := [xa, xs, xn, xg]) rfl (blk_new w.drew 198 (ints [xa, xs, xn, xg])) (by decide) (by simp; omega) 196
 have hb2 := blk_grown hb1 gw (by simp)
 have B2 : Below g w w2 := (((below_draws (Below.refl g w) 1).alloc (Nat.le_of_lt hg) _).grown gw (Nat.le_of_lt (blk_lt hb1)) (fun k e => by cases e))
 have c2 : w2.cell? ⟨g, 0, none⟩ = some (.slice (some ⟨b, 0, none⟩) 0 0) := blk_cell hb2 0
 have f2 := blk_free hb2 0
 obtain ⟨gn, cn, rfl, _⟩ := srow_at r2 (i := 0) (by simp)
 generalize [[xa, xs, xn, xg]].length = nn at *
 have HQ : Hid (WInv (fun _ => False) w g (w2.setCell ⟨g, 0, none⟩ (.slice (some ⟨gn, 0, none⟩) nn cn)) ([] ++ [⟨xa, xs, xn, xg⟩])) := hid ⟨below_set B2 (Nat.le_refl _) _, fun _ h => h.elim, id, by simp, fun y hy => by
  rw [List.mem_singleton.1 hy]; exact hx, _, blk_set hb2 0 _, srow_far r2 (Nat.lt_succ_self g) 0 _, fun _ _ => id⟩
 have HR := hid ra
 clear hb hb1 r2 gw hb2 B2 ra hx
 have ta := want_assert xa xs xn xg
 go_enter Tryz.func202, Tryz.ntmps202
 go_wp2_with fail
 refine plain_region (S := (fun L W => (L.getD 7 true = true ∨ W.cell? ⟨g, 0, none⟩ = some (.slice (some ⟨b, 0, none⟩) 0 0)))) (by kernel_rfl) (Or.inr c0) (fun hHeld => ?_)
 clear hHeld
 refine aW 0 (Or.inr c0) ?_
 refine aW 1 (Or.inr c0) ?_
 refine aW 2 (Or.inr c0) ?_
 refine aL 3 7 (fun _ _ h k => rL k h) (Or.inr c0) ?_
 refine aW 4 (Or.inr c0) ?_
 refine aW 5 (Or.inr c0) ?_
 refine aR 6 (fun K hK => ?_)
 go_simp
 have c0 := c1
 refine hK.out _ _ (Or.inr c0) (fun hHeld => ?_)
 clear hK K
 try simp only [Act.put, tA, tB, tC]
 clear hHeld
 refine aR 7 (fun K hK => ?_)
 refine stepU_append (by rfl) _ _ _ _ rfl _ _ rfl rfl _ w2 HR.out ?_
 refine hK.out _ _ (Or.inl (by rfl)) (fun hHeld => ?_)
 clear hK K
 try simp only [Act.put, tA, tB, tC]
 clear hHeld
 refine aW 8 (Or.inl (by rfl)) ?_
 refine aR 9 (fun K hK => ?_)
 go_simp
 skip
 refine hK.out _ _ (Or.inl (by rfl)) (fun hHeld => ?_)
 clear hK K
 try simp only [Act.put, tA, tB, tC]
 clear hHeld
 refine anyU_done (by kernel_rfl) ?_ _
 go_wp2_with fail
 go_end0
 exact ⟨rfl, HQ.out⟩
theorem wpush_first {w : World} {g b : Nat} (x : Want) (hb : Blk w g 196 #[.slice (some ⟨b, 0, none⟩) 0 0]) (hx : WantOk x) :
 Calls Tryz.prog 61 #[.iface 194 (.pointer (some ⟨g, 0, none⟩)), wantV x] w fun e w' => e = .returned (.tuple #[]) ∧ WInv (fun _ => False) w g w' (pushH lessW [] x) :=
 hpush_calls (wOps (fun _ => False) w g) [] w (by decide) (fun _ => by kernel_rfl) (fun _ _ => by kernel_rfl) (wPush_first x hb hx)
end Go.Proofs.YtiigipnfnfpepaaGreatDoor
namespace Go.Proofs.YtiigipnfnfpepaaGreatDoor
open Go.RowKit

section
variable {w : World} {base : Nat} {e : TypeId} {sz : Nat} {L : List (List Int)}
theorem srow_put {g n cap : Nat} (h : SRow w base e sz (.slice (some ⟨g, 0, none⟩) n cap) L) {i j : Nat} (hi : i < L.length) (hj : j < sz) (v : Int) :
 SRow (w.setCell ⟨g, i * sz + j, none⟩ (.int .i64 v)) base e sz (.slice (some ⟨g, 0, none⟩) n cap) (L.set i ((L.getD i []).set j v)) := by
 have hx := h.wid _ (show L.getD i [] ∈ L by rw [List.getD_eq_getElem?_getD, List.getElem?_eq_getElem hi]; exact List.getElem_mem hi)
 rcases h.row with ⟨h0, _⟩ | ⟨g', cap', cur, h1, hb, hg, hc, hm, hcs, hat⟩
 · cases h0
 · cases h1
   have hle : i * sz + sz ≤ cur.size := by
    have := Nat.mul_le_mul_right sz (show i + 1 ≤ cap by omega)
    rw [Nat.add_mul] at this
    omega
   refine ⟨fun y hy => ?_, .inr ⟨g, cap, _, by rw [List.length_set], hb, blk_set hg (i * sz + j) (.int .i64 v), by rw [List.length_set]; exact hc, hm, by simpa using hcs, ?_⟩⟩
   · rcases List.mem_or_eq_of_mem_set hy with h2 | rfl
     · exact h.wid y h2
     · rw [List.length_set]; exact hx
   · intro p q hp hq
     rw [List.length_set] at hp
     rw [Array.getElem?_setIfInBounds]
     by_cases hpi : p = i
     · subst hpi
       have e1 : (L.set p ((L.getD p []).set j v)).getD p [] = (L.getD p []).set j v := by rw [List.getD_eq_getElem?_getD, List.getElem?_set_self hi]; rfl
       rw [e1]
       by_cases hqj : q = j
       · subst hqj
         rw [if_pos rfl, if_pos (by omega), List.getD_eq_getElem?_getD (l := (L.getD p []).set q v), List.getElem?_set_self (by omega)]
         rfl
       · rw [if_neg (by omega), hat p q hi hq, List.getD_eq_getElem?_getD (l := (L.getD p []).set j v), List.getElem?_set_ne (fun h => hqj h.symm), List.getD_eq_getElem?_getD (l := L.getD p [])]
     · have e1 : (L.set i ((L.getD i []).set j v)).getD p [] = L.getD p [] := by rw [List.getD_eq_getElem?_getD, List.getElem?_set_ne (fun h => hpi h.symm), List.getD_eq_getElem?_getD]
       rw [e1, ← hat p q hp hq]
       rw [if_neg]
       rcases Nat.lt_or_gt_of_ne hpi with h2 | h2
       · have := Nat.mul_le_mul_right sz (show p + 1 ≤ i by omega)
         rw [Nat.add_mul] at this
         omega
       · have := Nat.mul_le_mul_right sz (show i + 1 ≤ p by omega)
         rw [Nat.add_mul] at this
         omega
end

def bump (x : Want) : Want := { x with n := x.n + 1 }
def firstW (c : List Int) (s : Nat) : Nat → List Want
 | 0 => []
 | j + 1 => pushH lessW (firstW c s j) ⟨j, ((c.getD j 0).natAbs : Int), 0, 2 ^ s⟩
theorem firstW_len (c : List Int) (s : Nat) : ∀ j, (firstW c s j).length = j
 | 0 => rfl
 | j + 1 => by rw [firstW, pushH_len, firstW_len]
structure WantIn (j : Int) (x : Want) : Prop where
 ok : WantOk x
 n1 : x.n ≤ j
structure Cs (c : List Int) : Prop where
 len : c.length = 4
 all : ∀ i, i < 4 → -1048576 ≤ c.getD i 0 ∧ c.getD i 0 ≤ 1048576
theorem pow15 {s : Nat} (hs : s ≤ 15) : (0 : Int) < 2 ^ s ∧ (2 : Int) ^ s ≤ 32768 := by
 have : ∀ s : Nat, s < 16 → (0 : Int) < 2 ^ s ∧ (2 : Int) ^ s ≤ 32768 := by decide
 exact this s (by omega)
theorem firstW_all {c : List Int} (hc : Cs c) {s : Nat} (hs : s ≤ 15) : ∀ j, j ≤ 4 → ∀ x ∈ firstW c s j, WantIn 0 x
 | 0, _ => fun _ h => by cases h
 | j + 1, hj => pushH_all lessW (firstW_all hc hs j (by omega)) (x := ⟨j, ((c.getD j 0).natAbs : Int), 0, 2 ^ s⟩) (by
  have h1 := hc.all j (by omega)
  have h2 := pow15 hs
  refine ⟨⟨?_, ?_, ?_, ?_, ?_, ?_, ?_, ?_⟩, ?_⟩ <;> dsimp only <;> omega)
def stepY (c : List Int) (a : Nat) (y : List Int) : List Int := y.set a (if c.getD a 0 < 0 then y.getD a 0 - 1 else y.getD a 0 + 1)
def stepQ (q : List Want) : List Want := fixL lessW (q.set 0 (bump (q.getD 0 default)))
def headA (q : List Want) : Nat := (q.getD 0 default).at'.toNat
def findL (c : List Int) : Nat → List Want → List Int → List Int
 | 0, _, y => y
 | k + 1, q, y => findL c k (stepQ q) (stepY c (headA q) y)
def findP (c : List Int) (s k : Nat) : List Int := findL c k (firstW c s 4) [0, 0, 0, 0]
theorem stepQ_len (q : List Want) : (stepQ q).length = q.length := by rw [stepQ, fixL_len, List.length_set]
theorem bump_in {x : Want} {j : Int} (h : WantIn j x) (hj : j < 100) : WantIn (j + 1) (bump x) := by
 obtain ⟨⟨a0, a1, s0, s1, n0, n1, g0, g1⟩, n2⟩ := h
 refine ⟨⟨a0, a1, s0, s1, ?_, ?_, g0, g1⟩, ?_⟩ <;> show _ ≤ _ <;> unfold bump <;> dsimp only <;> omega
theorem want_more {x : Want} {j : Int} (h : WantIn j x) : WantIn (j + 1) x := ⟨h.ok, by have := h.n1; omega⟩
theorem bumped_all {q : List Want} {j : Int} (h : ∀ x ∈ q, WantIn j x) (hj : j < 100) (hq : 0 < q.length) : ∀ x ∈ q.set 0 (bump (q.getD 0 default)), WantIn (j + 1) x :=
 set_all (fun x hx => want_more (h x hx)) 0 (bump_in (getD_all h hq default) hj)
theorem stepQ_all {q : List Want} {j : Int} (h : ∀ x ∈ q, WantIn j x) (hj : j < 100) (hq : 0 < q.length) : ∀ x ∈ stepQ q, WantIn (j + 1) x :=
 fixL_all lessW (bumped_all h hj hq)
def sumA (y : List Int) : Int := (y.map fun x => (x.natAbs : Int)).sum
structure FOk (c : List Int) (j : Int) (y : List Int) : Prop where
 len : y.length = 4
 neg : ∀ i, i < 4 → c.getD i 0 < 0 → y.getD i 0 ≤ 0
 pos : ∀ i, i < 4 → ¬ c.getD i 0 < 0 → 0 ≤ y.getD i 0
 sum : sumA y = j
theorem sumA_ge : ∀ (y : List Int) (i : Nat), ((y.getD i 0).natAbs : Int) ≤ sumA y ∧ 0 ≤ sumA y
 | [], i => by simp [sumA]
 | x :: l, 0 => by
  have := (sumA_ge l 0).2
  simp only [sumA, List.map_cons, List.sum_cons, List.getD_cons_zero] at *
  omega
 | x :: l, i + 1 => by
  have := sumA_ge l i
  simp only [sumA, List.map_cons, List.sum_cons, List.getD_cons_succ] at *
  omega
theorem getD_setAt (y : List Int) {a : Nat} (v : Int) (ha : a < y.length) : (y.set a v).getD a 0 = v := by
 rw [List.getD_eq_getElem?_getD, List.getElem?_set_self ha]; rfl
theorem getD_set_far (y : List Int) {a i : Nat} (v : Int) (h : a ≠ i) : (y.set a v).getD i 0 = y.getD i 0 := by
 rw [List.getD_eq_getElem?_getD, List.getElem?_set_ne h, List.getD_eq_getElem?_getD]
theorem stepY_ok {c y : List Int} {j : Int} {a : Nat} (h : FOk c j y) (ha : a < 4) : FOk c (j + 1) (stepY c a y) := by
 have hl : a < y.length := by rw [h.len]; exact ha
 have hs := sum_set (fun x : Int => (x.natAbs : Int)) y a (if c.getD a 0 < 0 then y.getD a 0 - 1 else y.getD a 0 + 1) 0 hl
 have hsum := h.sum
 refine ⟨by rw [stepY, List.length_set]; exact h.len, fun i hi hc => ?_, fun i hi hc => ?_, ?_⟩
 · by_cases e : a = i
   · subst e
     rw [stepY, getD_setAt _ _ hl, if_pos hc]
     have := h.neg a hi hc
     omega
   · rw [stepY, getD_set_far _ _ e]
     exact h.neg i hi hc
 · by_cases e : a = i
   · subst e
     rw [stepY, getD_setAt _ _ hl, if_neg hc]
     have := h.pos a hi hc
     omega
   · rw [stepY, getD_set_far _ _ e]
     exact h.pos i hi hc
 · unfold sumA stepY at *
   rw [hs]
   by_cases hc : c.getD a 0 < 0
   · have := h.neg a ha hc
     rw [if_pos hc]
     omega
   · have := h.pos a ha hc
     rw [if_neg hc]
     omega
theorem head_lt {q : List Want} {j : Int} (h : ∀ x ∈ q, WantIn j x) (hq : 0 < q.length) : headA q < 4 := by
 have := (getD_all h hq default).ok.a1
 unfold headA
 omega
theorem findL_ok (c : List Int) : ∀ (k : Nat) (q : List Want) (y : List Int) (j : Int), FOk c j y → (∀ x ∈ q, WantIn j x) → 0 < q.length → 0 ≤ j → j + k ≤ 12 → FOk c (j + k) (findL c k q y)
 | 0, _, _, _, h, _, _, _, _ => by simpa [findL] using h
 | k + 1, q, y, j, h, hq, hl, h0, hj => by
  have := findL_ok c k (stepQ q) (stepY c (headA q) y) (j + 1) (stepY_ok h (head_lt hq hl)) (stepQ_all hq (by omega) hl) (by rw [stepQ_len]; exact hl) (by omega) (by omega)
  rw [findL]
  rw [show j + ((k + 1 : Nat) : Int) = j + 1 + (k : Int) by omega]
  exact this
theorem findP_ok {c : List Int} (hc : Cs c) {s k : Nat} (hs : s ≤ 15) (hk : k ≤ 12) : FOk c k (findP c s k) := by
 have := findL_ok c k (firstW c s 4) [0, 0, 0, 0] 0 ⟨rfl, fun i hi _ => ?_, fun i hi _ => ?_, rfl⟩ (firstW_all hc hs 4 (Nat.le_refl _)) (by rw [firstW_len]; omega) (Int.le_refl _) (by omega)
 · rw [Int.zero_add] at this
   exact this
 all_goals
  match i, hi with
  | 0, _ => exact Int.le_refl _
  | 1, _ => exact Int.le_refl _
  | 2, _ => exact Int.le_refl _
  | 3, _ => exact Int.le_refl _
end Go.Proofs.YtiigipnfnfpepaaGreatDoor
namespace Go.Proofs.YtiigipnfnfpepaaGreatDoor
open Go.RowKit

theorem wL_set (l : List Want) (i : Nat) (v : Want) : (wL l).set i v.row = wL (l.set i v) := by
 unfold wL; rw [List.map_set]
theorem winv_bump {F : Nat → Prop} {w : World} {g : Nat} {q : List Want} (h : WInv F w g w q) (hq : 0 < q.length) (hb : WantOk (bump (q.getD 0 default))) :
 ∃ gr cap, w.cell? ⟨g, 0, none⟩ = some (.slice (some ⟨gr, 0, none⟩) q.length cap) ∧ w.cell? ⟨gr, 2, none⟩ = some (.int .i64 (q.getD 0 default).n) ∧ w.frozen? ⟨gr, 2, none⟩ = false ∧ g < gr ∧ ¬ F gr ∧ gr < w.heap.size ∧
  (w.setCell ⟨gr, 2, none⟩ (.int .i64 ((q.getD 0 default).n + 1))).cell? ⟨g, 0, none⟩ = some (.slice (some ⟨gr, 0, none⟩) q.length cap) ∧
  (w.setCell ⟨gr, 2, none⟩ (.int .i64 ((q.getD 0 default).n + 1))).rangeAt gr 0 ((bump (q.getD 0 default)).row.map (Value.int .i64)) ∧
  WInv F (w.setCell ⟨gr, 2, none⟩ (.int .i64 ((q.getD 0 default).n + 1))) g (w.setCell ⟨gr, 2, none⟩ (.int .i64 ((q.getD 0 default).n + 1))) (q.set 0 (bump (q.getD 0 default))) := by
 obtain ⟨v, hb1, hr, hF⟩ := h.row
 obtain ⟨gr, cap, rfl, hgr, hlt, ri⟩ := srow_at hr (i := 0) (by rw [wL_len]; exact hq)
 rw [wL_get hq] at ri
 have hF1 := hF gr rfl
 have hne : g ≠ gr := by omega
 have e1 : (wL q).set 0 (((wL q).getD 0 []).set 2 ((q.getD 0 default).n + 1)) = wL (q.set 0 (bump (q.getD 0 default))) := by
  rw [wL_get hq, ← wL_set]; rfl
 have hr2 := srow_put hr (i := 0) (j := 2) (by rw [wL_len]; exact hq) (by decide) ((q.getD 0 default).n + 1)
 rw [e1, Nat.zero_mul, Nat.zero_add] at hr2
 have hb2 := blk_far (b := gr) (i := 2) hb1 hne (.int .i64 ((q.getD 0 default).n + 1))
 have hth := srow_there hr (i := 0) (by rw [wL_len]; exact hq) 2 (by decide)
 rw [Nat.zero_mul] at hth ri
 refine ⟨gr, cap, by rw [← wL_len]; exact blk_cell hb1 0, ri 2 _ rfl, hth.2, by omega, hF1, hlt, by rw [← wL_len]; exact blk_cell hb2 0, ?_, Below.refl _ _, fun k hk => ⟨?_, rfl⟩, h.notg, by rw [List.length_set]; exact h.small, set_all h.all 0 hb, _, hb2, hr2, hF⟩
 · obtain ⟨gr2, cap2, e2, _, _, r2⟩ := srow_at hr2 (i := 0) (by rw [wL_len, List.length_set]; exact hq)
   have e3 : gr = gr2 := by simp only [Value.slice.injEq, Option.some.injEq, Addr.mk.injEq] at e2; exact e2.1.1
   subst e3
   rw [wL_get (by rw [List.length_set]; exact hq), Nat.zero_mul, List.getD_eq_getElem?_getD (l := q.set 0 _), List.getElem?_set_self hq] at r2
   exact r2
 · have := (h.keep k hk).1
   simpa [World.setCell] using this
theorem winv_put {F : Nat → Prop} {w0 w : World} {g b : Nat} {q : List Want} (h : WInv F w0 g w q) (hb : F b) (i : Nat) (u : Value) : WInv F (w.setCell ⟨b, i, none⟩ u) g (w.setCell ⟨b, i, none⟩ u) q := by
 obtain ⟨v, h1, h2, h3⟩ := h.row
 refine ⟨Below.refl _ _, fun k hk => ⟨?_, rfl⟩, h.notg, h.small, h.all, v, blk_far h1 (fun e => h.notg (e ▸ hb)) u, srow_blk h2 fun k cur _ hk hc => blk_far hc (fun e => h3 k hk (e ▸ hb)) u, h3⟩
 have := (h.keep k hk).1
 have := h.bel.size
 simp [World.setCell]
 omega
def WAt (w : World) (g : Nat) (l : List Want) : Prop := WInv (fun _ => False) w g w l ∨ (l = [] ∧ ∃ b, Blk w g 196 #[.slice (some ⟨b, 0, none⟩) 0 0])
theorem wpush_any {w : World} {g : Nat} {l : List Want} (x : Want) (h : WAt w g l) (hx : WantOk x) (hs : l.length < 1000) :
 Calls Tryz.prog 61 #[.iface 194 (.pointer (some ⟨g, 0, none⟩)), wantV x] w fun e w' => e = .returned (.tuple #[]) ∧ WInv (fun _ => False) w g w' (pushH lessW l x) := by
 rcases h with h | ⟨rfl, b, h⟩
 · exact wpush_heap x h hx hs
 · exact wpush_first x h hx
set_option maxRecDepth 20000 in
set_option maxHeartbeats 4000000 in
theorem find_calls (c : List Int) (s k : Nat) (w : World) (hc : Cs c) (hs : s ≤ 15) (hk : k ≤ 12) :
 Calls Tryz.prog 80 #[.agg (ints c), .int .i64 s, .int .i64 k] w fun e w' => e = .returned (.tuple #[.agg (ints (findP c s k)), .int .i64 0]) ∧ Below w.heap.size w w' := by
 have hp := pow15 hs
 have cg := fun W => pGain_calls s W hs
 have HSZ := hid (show (Tryz.prog.info? 43).map (·.size) = some (ints c).size by rw [ints_size, hc.len]; kernel_rfl)
 let w1 := (w.alloc (.cells (ints c) 43)).alloc (.cells #[Value.int .i64 0, .int .i64 0, .int .i64 0, .int .i64 0] 44)
 have hw1 : w1.heap.size = w.heap.size + 1 + 1 := by simp [w1]
 have b1 : Below w.heap.size w w1 := ((Below.refl w.heap.size w).alloc (Nat.le_refl _) _).alloc (by simp) _
 have s1 : Blk w1 w.heap.size 43 (ints c) := blk_alloc (blk_new w 43 (ints c)) _
 have r1 : Blk w1 (w.heap.size + 1) 44 #[Value.int .i64 0, .int .i64 0, .int .i64 0, .int .i64 0] := by
  have := blk_new (w.alloc (.cells (ints c) 43)) 44 #[Value.int .i64 0, .int .i64 0, .int .i64 0, .int .i64 0]
  rw [World.size_alloc] at this
  exact this
 have ch := pHeld_calls c w1 hc.len hc.all
 rw [show (#[Value.int .i64 0, .int .i64 0, .int .i64 0, .int .i64 0] : Array Value) = ints [0, 0, 0, 0] from by kernel_rfl] at r1
 have S1 := hid s1
 have R1 := hid r1
 have B1 := hid b1
 have HC := hid hc
 have HS := hid hs
 have HW := hid hw1
 have hkz : (k : Int) ≤ 12 := by omega
 have hk0 : (0 : Int) ≤ k := by omega
 obtain ⟨gain, hgn⟩ : ∃ x : Int, x = 2 ^ s := ⟨_, rfl⟩
 rw [← hgn] at hp cg
 have HGN := hid hgn
 have HP := hid hp
 have hgne : (gain == 0) = false := by have := hp.1; simp; omega
 have hs0 : (0 : Int) ≤ s := by omega
 clear hc hs s1 r1 b1 hw1 hgn hp
 go_enter Tryz.func80, Tryz.ntmps80
 go_wp2_with fail
 refine (cg _).mono ?_
 rintro e w0 ⟨rfl, rfl⟩
 go_wp2_with (first | (refine wpList_load_blk (by rfl) 43 _ rfl w.heap.size rfl 43 (ints c) _ S1.out Tryz.underlying43 rfl HSZ.out ?_))
 refine ch.mono ?_
 rintro e w2 ⟨rfl, B2⟩
 have S2 := hid (blk_below S1.out B2 (by rw [HW.out]; omega))
 have R2 := hid (blk_below R1.out B2 (by rw [HW.out]; omega))
 have b2 := bnext B1.out B2
 have B2' := hid b2
 have hz2 := hid (show w.heap.size + 1 + 1 ≤ w2.heap.size by have := B2.size; rw [HW.out] at this; exact this)
 clear ch B2 S1 R1 B1 b2 HW w1
 have S3 := hid (blk_alloc (blk_alloc S2.out (.cells #[] 198)) (.cells #[.slice (some ⟨w2.heap.size, 0, none⟩) 0 0] 196))
 have R3 := hid (blk_alloc (blk_alloc R2.out (.cells #[] 198)) (.cells #[.slice (some ⟨w2.heap.size, 0, none⟩) 0 0] 196))
 have hz2' := hz2.out
 have B3 := hid ((B2'.out.alloc (by omega) (.cells #[] 198)).alloc (by simp; omega) (.cells #[.slice (some ⟨w2.heap.size, 0, none⟩) 0 0] 196))
 have q3 := blk_new (w2.alloc (.cells #[] 198)) 196 #[.slice (some ⟨w2.heap.size, 0, none⟩) 0 0]
 rw [World.size_alloc] at q3
 have Q3 : Hid (WAt ((w2.alloc (.cells #[] 198)).alloc (.cells #[.slice (some ⟨w2.heap.size, 0, none⟩) 0 0] 196)) (w2.heap.size + 1) (firstW c s 0)) := hid (Or.inr ⟨rfl, _, q3⟩)
 have HGQ := hid (show w.heap.size + 1 + 1 ≤ w2.heap.size + 1 by omega)
 clear S2 R2 B2' hz2 hz2' q3
 go_wp2_with (first | (refine wpList_load_blk (by rfl) 43 _ rfl w.heap.size rfl 43 (ints c) _ S3.out Tryz.underlying43 rfl HSZ.out ?_))
 generalize (w2.alloc (.cells #[] 198)).alloc (.cells #[.slice (some ⟨w2.heap.size, 0, none⟩) 0 0] 196) = w3 at *
 generalize w2.heap.size + 1 = gq at *
 have hif := info_parts (P := Tryz.prog) (e := 3) (z := .int .i64 0) (size := 1) (bytes := 8) (by kernel_rfl)
 obtain ⟨infI, hinI, hzI, hsI, hbI⟩ := hif
 have HX := hid (fun (i : Nat) (h : i < 4) (W : World) => run_index_any (P := Tryz.prog) (t := 43) (e := 3) Tryz.underlying43 (by kernel_rfl) hinI hsI (ints c) (.int .i64 (c.getD i 0)) i (by rw [ints_get, List.getD_eq_getElem?_getD, List.getElem?_eq_getElem (by rw [HC.out.len]; exact h)]; rfl) h W)
 clear hinI hzI hsI hbI hgne
 go_loopg [34] 4 (fun gg s34 wr => ∃ j : Nat, j ≤ 4 ∧ 4 - j ≤ gg ∧ s34 = .int .i64 j ∧ Aside (Below w.heap.size w wr) ∧ Aside (Blk wr w.heap.size 43 (ints c)) ∧ Aside (Blk wr (w.heap.size + 1) 44 (ints [0, 0, 0, 0])) ∧ Aside (WAt wr gq (firstW c s j)))
 case atStart => exact ⟨0, Nat.zero_le _, by omega, rfl, B3.out, S3.out, R3.out, Q3.out⟩
 case round =>
  clear B3 S3 R3 Q3
  obtain ⟨j, hj, hgk, rfl, B, S, R, Q⟩ := hrel
  by_cases hlt : j < 4
  · have hjz : (j : Int) < 4 := by omega
    have hj0 : (0 : Int) ≤ j := by omega
    have hx := fun W => HX.out j hlt W
    have hcj := HC.out.all j hlt
    have csz := fun W => pSize_calls (c.getD j 0) W (by omega) (by omega)
    have cp := wpush_any ⟨j, ((c.getD j 0).natAbs : Int), 0, gain⟩ Q.out ⟨hj0, by dsimp only; omega, by dsimp only; omega, by dsimp only; omega, by dsimp only; omega, by dsimp only; omega, by have := HP.out; dsimp only; omega, by have := HP.out; dsimp only; omega⟩ (by rw [firstW_len]; omega)
    have HF := hid (show pushH lessW (firstW c s j) ⟨j, ((c.getD j 0).natAbs : Int), 0, gain⟩ = firstW c s (j + 1) by rw [HGN.out]; rfl)
    rw [show wantV ⟨j, ((c.getD j 0).natAbs : Int), 0, gain⟩ = .iface 198 (.agg #[.int .i64 j, .int .i64 ((c.getD j 0).natAbs : Int), .int .i64 0, .int .i64 gain]) from rfl] at cp
    generalize ((c.getD j 0).natAbs : Int) = na at *
    generalize c.getD j 0 = cj at *
    clear hcj
    go_wp2_with fail
    refine (csz _).mono ?_
    rintro e w5 ⟨rfl, rfl⟩
    go_wp2_with fail
    refine (cg _).mono ?_
    rintro e w6 ⟨rfl, rfl⟩
    go_wp2_with fail
    refine cp.mono ?_
    rintro e w6 ⟨rfl, Q6⟩
    rw [HF.out] at Q6
    have hbq := Q6.bel
    have R6 := hid (blk_below R.out hbq (by have := HGQ.out; omega))
    have S6 := hid (blk_below S.out hbq (by have := HGQ.out; omega))
    have B6 := hid (B.out.trans (hbq.mono (by have := HGQ.out; omega)))
    have Q7 : Hid (WAt w6 gq (firstW c s (j + 1))) := hid (Or.inl (winv_base Q6))
    clear Q6 hbq cp hx csz
    go_wp2_with fail
    go_roundg (4 - (j + 1))
    case measure => omega
    case rel => exact ⟨j + 1, by omega, by omega, by go_num, B6.out, S6.out, R6.out, Q7.out⟩
  · obtain rfl : j = 4 := by omega
    clear HX cg
    go_wp2_with fail
    have hq4 : 0 < (firstW c s 4).length := by rw [firstW_len]; decide
    have Q4 : Hid (WInv (· = wr.heap.size) (wr.alloc (.cells #[Value.int .i64 0, .int .i64 0, .int .i64 0, .int .i64 0] 44)) gq (wr.alloc (.cells #[Value.int .i64 0, .int .i64 0, .int .i64 0, .int .i64 0] 44)) (firstW c s 4)) := by
     rcases Q.out with h | ⟨h, _⟩
     · obtain ⟨v, h1, h2, _⟩ := h.row
       refine hid ⟨Below.refl _ _, fun k hk => ⟨by rw [hk]; simp, rfl⟩, fun hk => ?_, h.small, h.all, v, blk_alloc h1 _, srow_alloc h2 _, fun k hk hk2 => ?_⟩
       · have := blk_lt h1
         have h3 : gq = wr.heap.size := hk
         omega
       · have := (srow_lt h2 k hk).2
         have h3 : k = wr.heap.size := hk2
         omega
     · rw [h] at hq4; exact absurd hq4 (by decide)
    have Y4 := hid (show Blk (wr.alloc (.cells #[Value.int .i64 0, .int .i64 0, .int .i64 0, .int .i64 0] 44)) wr.heap.size 44 (ints [0, 0, 0, 0]) from blk_new wr 44 #[Value.int .i64 0, .int .i64 0, .int .i64 0, .int .i64 0])
    have S4 := hid (blk_alloc S.out (.cells #[Value.int .i64 0, .int .i64 0, .int .i64 0, .int .i64 0] 44))
    have R4 := hid (blk_alloc R.out (.cells #[Value.int .i64 0, .int .i64 0, .int .i64 0, .int .i64 0] 44))
    have B4 := hid (B.out.alloc B.out.size (.cells #[Value.int .i64 0, .int .i64 0, .int .i64 0, .int .i64 0] 44))
    have HGY := hid (show w.heap.size + 1 < wr.heap.size from blk_lt R.out)
    have HGYQ := hid (show gq ≠ wr.heap.size from fun e => Q4.out.notg e)
    clear B S R Q hj hgk hlt hq4
    generalize wr.alloc (.cells #[Value.int .i64 0, .int .i64 0, .int .i64 0, .int .i64 0] 44) = w4 at *
    generalize wr.heap.size = gy at *
    have F0 : FOk c 0 [0, 0, 0, 0] := by
     have := findP_ok HC.out (s := s) (k := 0) HS.out (by omega)
     exact this
    go_loopg [50] k (fun gg s50 wr => ∃ (j : Nat) (q : List Want) (y : List Int), j ≤ k ∧ k - j ≤ gg ∧ s50 = .int .i64 j ∧ Aside (FOk c j y ∧ (∀ x ∈ q, WantIn j x) ∧ q.length = 4 ∧ findL c (k - j) q y = findP c s k) ∧ Aside (Below w.heap.size w wr) ∧ Aside (Blk wr w.heap.size 43 (ints c)) ∧ Aside (Blk wr (w.heap.size + 1) 44 (ints [0, 0, 0, 0])) ∧ Aside (Blk wr gy 44 (ints y)) ∧ Aside (WInv (· = gy) wr gq wr q))
    case atStart => exact ⟨0, firstW c s 4, [0, 0, 0, 0], Nat.zero_le _, by omega, rfl, ⟨F0, firstW_all HC.out HS.out 4 (Nat.le_refl _), firstW_len _ _ _, rfl⟩, B4.out, S4.out, R4.out, Y4.out, Q4.out⟩
    case round =>
     clear B4 S4 R4 Y4 Q4 F0
     obtain ⟨j, q, y, hj, hgk, rfl, hI, B, S, R, Y, Q⟩ := hrel
     obtain ⟨hF, hqa, hql, hE⟩ := hI.out
     clear hI
     by_cases hlt : j < k
     · have hjz : (j : Int) < k := by omega
       have hj0 : (0 : Int) ≤ j := by omega
       have hq0 : 0 < q.length := by omega
       have hbok := (bump_in (getD_all hqa hq0 default) (by omega)).ok
       obtain ⟨gr, cap, c0, cn, fn, hgr, hFr, hgrl, c5, r5, Q5⟩ := winv_bump Q.out hq0 hbok
       have ha4 := head_lt hqa hq0
       have hF2 := hid (stepY_ok hF ha4)
       have HQA2 := hid (stepQ_all hqa (by omega) hq0)
       have HQL := hid hql
       have hE2 : findL c (k - (j + 1)) (stepQ q) (stepY c (headA q) y) = findP c s k := by
        rw [← hE, show k - j = (k - (j + 1)) + 1 by omega]; rfl
       have HE := hid hE2
       have HSQ : Hid (fixL lessW (q.set 0 (bump (q.getD 0 default))) = stepQ q) := hid rfl
       have hn2 := hbok
       obtain ⟨_, _, _, _, hn0, hn1, _, _⟩ := hn2
       have hn0' : 0 ≤ (q.getD 0 default).n := (getD_all hqa hq0 default).ok.n0
       have hn1' : (q.getD 0 default).n + 1 ≤ 100 := hn1
       have hat0 := (getD_all hqa hq0 default).ok.a0
       have hbr : (bump (q.getD 0 default)).row = [(headA q : Int), (q.getD 0 default).size, (q.getD 0 default).n + 1, (q.getD 0 default).gain] := by
        unfold headA
        rw [Int.toNat_of_nonneg hat0]
        rfl
       rw [hbr] at r5
       clear hn0 hn1 hat0 hbr hE hE2 hqa hbok
       have hq1l : 0 < (q.set 0 (bump (q.getD 0 default))).length := by rw [List.length_set]; exact hq0
       have HQ1L := hid hq1l
       have Q5' := hid Q5
       have HEY : Hid (stepY c (headA q) y = y.set (headA q) (if c.getD (headA q) 0 < 0 then y.getD (headA q) 0 - 1 else y.getD (headA q) 0 + 1)) := hid rfl
       have hyb := (sumA_ge y (headA q)).1
       rw [hF.sum] at hyb
       have ha4z : ((headA q : Nat) : Int) < 4 := by omega
       have ha0z : (0 : Int) ≤ ((headA q : Nat) : Int) := by omega
       have cy := blk_int Y.out (i := headA q) (by rw [hF.len]; exact ha4)
       have cc := blk_int S.out (i := headA q) (by rw [HC.out.len]; exact ha4)
       have HYL := hid (show headA q < y.length by rw [hF.len]; exact ha4)
       generalize q.set 0 (bump (q.getD 0 default)) = q1 at *
       generalize hyy : stepY c (headA q) y = y1 at *
       generalize headA q = a at *
       generalize (q.getD 0 default).n = xn at *
       generalize (q.getD 0 default).size = xs at *
       generalize (q.getD 0 default).gain = xg at *
       rw [hql] at c0 c5
       obtain ⟨ca, hca⟩ : ∃ x, c.getD a 0 = x := ⟨_, rfl⟩
       obtain ⟨ya, hya⟩ : ∃ x, y.getD a 0 = x := ⟨_, rfl⟩
       rw [hca, hya] at HEY
       rw [hya] at hyb
       have HCA := hid hca
       have HYA := hid hya
       clear hca hya
       have S5 := hid (blk_far (b := gr) (i := 2) S.out (by have := HGQ.out; omega) (.int .i64 (xn + 1)))
       have R5 := hid (blk_far (b := gr) (i := 2) R.out (by have := HGQ.out; omega) (.int .i64 (xn + 1)))
       have Y5 := hid (blk_far (b := gr) (i := 2) Y.out (fun e => hFr e.symm) (.int .i64 (xn + 1)))
       have B5 := hid (below_set (i := 2) B.out (b := gr) (by have := HGQ.out; omega) (.int .i64 (xn + 1)))
       have hF' := hid hF
       have HGRL := hid hgrl
       have HFR := hid hFr
       clear hF Q5 hq1l S R Y B Q cy cc hyy hql hq0 hgrl hFr ha4
       have hw5 : (wr.setCell ⟨gr, 2, none⟩ (.int .i64 (xn + 1))).heap.size = wr.heap.size := by simp [World.setCell]
       have HW5 := hid hw5
       clear hw5
       generalize hw5e : wr.setCell ⟨gr, 2, none⟩ (.int .i64 (xn + 1)) = w5 at *
       have S6 := hid (blk_alloc S5.out (.cells #[.int .i64 a, .int .i64 xs, .int .i64 (xn + 1), .int .i64 xg] 198))
       have R6 := hid (blk_alloc R5.out (.cells #[.int .i64 a, .int .i64 xs, .int .i64 (xn + 1), .int .i64 xg] 198))
       have Y6 := hid (blk_alloc Y5.out (.cells #[.int .i64 a, .int .i64 xs, .int .i64 (xn + 1), .int .i64 xg] 198))
       have B6 := hid (B5.out.alloc B5.out.size (.cells #[.int .i64 a, .int .i64 xs, .int .i64 (xn + 1), .int .i64 xg] 198))
       have Q6 := hid (winv_below Q5'.out ((Below.refl _ w5).alloc (Nat.le_refl _) (.cells #[.int .i64 a, .int .i64 xs, .int .i64 (xn + 1), .int .i64 xg] 198)))
       have cx6 : (w5.alloc (.cells #[.int .i64 a, .int .i64 xs, .int .i64 (xn + 1), .int .i64 xg] 198)).cell? ⟨w5.heap.size, 0, none⟩ = some (.int .i64 a) := blk_cell (blk_new w5 198 _) 0
       have cc6 : (w5.alloc (.cells #[.int .i64 a, .int .i64 xs, .int .i64 (xn + 1), .int .i64 xg] 198)).cell? ⟨w.heap.size, a, none⟩ = some (.int .i64 ca) := by rw [blk_int S6.out (i := a) (by rw [HC.out.len]; omega), HCA.out]
       have cy6 : (w5.alloc (.cells #[.int .i64 a, .int .i64 xs, .int .i64 (xn + 1), .int .i64 xg] 198)).cell? ⟨gy, a, none⟩ = some (.int .i64 ya) := by rw [blk_int Y6.out (i := a) HYL.out, HYA.out]
       have fy6 := blk_free Y6.out a
       have hya0 : -12 ≤ ya := by omega
       have hya1 : ya ≤ 12 := by omega
       have R5r := hid r5
       clear r5 S5 R5 Y5 B5 Q5' hyb
       by_cases hca : ca < 0
       · have hE1 : y1 = y.set a (ya - 1) := by rw [HEY.out, if_pos hca]
         have hy7 := blk_set_int Y6.out a (ya - 1)
         rw [← hE1] at hy7
         have Y7 := hid hy7
         have S7 := hid (blk_far (b := gy) (i := a) S6.out (by have := HGY.out; omega) (.int .i64 (ya - 1)))
         have R7 := hid (blk_far (b := gy) (i := a) R6.out (by have := HGY.out; omega) (.int .i64 (ya - 1)))
         have B7 := hid (below_set (i := a) B6.out (b := gy) (by have := HGY.out; omega) (.int .i64 (ya - 1)))
         have q7 := winv_put (b := gy) Q6.out rfl a (.int .i64 (ya - 1))
         have wfx := wfix_heap q7 HQ1L.out
         rw [HSQ.out] at wfx
         clear hy7 hE1 q7 Y6 S6 R6 B6 Q6
         go_wp2_with (first | (refine wpList_load_mid rfl 198 _ rfl gr 0 rfl ([(a : Int), xs, xn + 1, xg].map (Value.int .i64)) _ R5r.out Tryz.underlying198 rfl want_size ?_))
         refine wfx.mono ?_
         rintro e w8 ⟨rfl, Q8⟩
         have hbq := Q8.bel
         have S8 := hid (blk_below S7.out hbq (by have := HGQ.out; omega))
         have R8 := hid (blk_below R7.out hbq (by have := HGQ.out; omega))
         have B8 := hid (B7.out.trans (hbq.mono (by have := HGQ.out; omega)))
         have Y8 : Hid (Blk w8 gy 44 (ints y1)) := hid ((Q8.keep gy rfl).2.trans Y7.out)
         have Q8' := hid (winv_base Q8)
         have HQL2 := hid (show (stepQ q).length = 4 by rw [stepQ_len]; exact HQL.out)
         clear wfx Q8 hbq S7 R7 B7 Y7 cc6 cy6 cx6 fy6
         go_wp2_with fail
         go_roundg (k - (j + 1))
         case measure => omega
         case rel => exact ⟨j + 1, _, y1, by omega, by omega, by go_num, ⟨hF2.out, HQA2.out, HQL2.out, HE.out⟩, B8.out, S8.out, R8.out, Y8.out, Q8'.out⟩
       · have hE1 : y1 = y.set a (ya + 1) := by rw [HEY.out, if_neg hca]
         have hy7 := blk_set_int Y6.out a (ya + 1)
         rw [← hE1] at hy7
         have Y7 := hid hy7
         have S7 := hid (blk_far (b := gy) (i := a) S6.out (by have := HGY.out; omega) (.int .i64 (ya + 1)))
         have R7 := hid (blk_far (b := gy) (i := a) R6.out (by have := HGY.out; omega) (.int .i64 (ya + 1)))
         have B7 := hid (below_set (i := a) B6.out (b := gy) (by have := HGY.out; omega) (.int .i64 (ya + 1)))
         have q7 := winv_put (b := gy) Q6.out rfl a (.int .i64 (ya + 1))
         have wfx := wfix_heap q7 HQ1L.out
         rw [HSQ.out] at wfx
         clear hy7 hE1 q7 Y6 S6 R6 B6 Q6
         go_wp2_with (first | (refine wpList_load_mid rfl 198 _ rfl gr 0 rfl ([(a : Int), xs, xn + 1, xg].map (Value.int .i64)) _ R5r.out Tryz.underlying198 rfl want_size ?_))
         refine wfx.mono ?_
         rintro e w8 ⟨rfl, Q8⟩
         have hbq := Q8.bel
         have S8 := hid (blk_below S7.out hbq (by have := HGQ.out; omega))
         have R8 := hid (blk_below R7.out hbq (by have := HGQ.out; omega))
         have B8 := hid (B7.out.trans (hbq.mono (by have := HGQ.out; omega)))
         have Y8 : Hid (Blk w8 gy 44 (ints y1)) := hid ((Q8.keep gy rfl).2.trans Y7.out)
         have Q8' := hid (winv_base Q8)
         have HQL2 := hid (show (stepQ q).length = 4 by rw [stepQ_len]; exact HQL.out)
         clear wfx Q8 hbq S7 R7 B7 Y7 cc6 cy6 cx6 fy6
         go_wp2_with fail
         go_roundg (k - (j + 1))
         case measure => omega
         case rel => exact ⟨j + 1, _, y1, by omega, by omega, by go_num, ⟨hF2.out, HQA2.out, HQL2.out, HE.out⟩, B8.out, S8.out, R8.out, Y8.out, Q8'.out⟩
     · obtain rfl : j = k := by omega
       rw [Nat.sub_self] at hE
       have HE : Hid (y = findP c s j) := hid hE
       have HYZ := hid (show (Tryz.prog.info? 44).map (·.size) = some (ints y).size by rw [ints_size, hF.len]; kernel_rfl)
       have HYS := hid (show (ints y).size = (ints [0, 0, 0, 0]).size by rw [ints_size, hF.len]; rfl)
       have HYO := hid (ints_one y)
       clear hE hF hqa hql
       go_wp2_with (first | (refine wpList_load_blk (by rfl) 44 _ rfl gy rfl 44 (ints y) _ Y.out Tryz.underlying44 rfl HYZ.out ?_) | (refine wpList_store_blk rfl 44 _ _ rfl (w.heap.size + 1) 44 _ (ints y) rfl rfl R.out HYS.out HYZ.out HYO.out ?_; intro w8 n0 n1))
       have B8 := hid (below_grown B.out n1 (by have := B.out.size; omega) (Nat.le_succ _))
       exact bodyPost_ret (results_row_slot rfl _ _ (w.heap.size + 1) 44 (ints y) (0, 0) _ _ rfl rfl n0 Tryz.underlying44 rfl HYZ.out) rfl ⟨by rw [HE.out]; rfl, B8.out⟩
end Go.Proofs.YtiigipnfnfpepaaGreatDoor
