/- The contract of mid.Join. -/
import Derived.Test.YtnmhbonheaoldaaMidT
import Derived.Test.YtnmhbonheaoldaaMid
import Derived.Test.YtnmhbonheaoldaaTwo
import Derived.Deep.QuietTactic
import Derived.BigQuiet
namespace Go.Proofs.Ytnmhbonheaoldaa
open Go.RowKit

/-- the first k pairs, brought back, one behind the other -/
def joinTo (ms ss : List Int) : Nat → List Int
  | 0 => []
  | k + 1 => joinTo ms ss k ++ [ms.getD k 0 - ss.getD k 0 / 2 + ss.getD k 0, ms.getD k 0 - ss.getD k 0 / 2]
theorem joinTo_len (ms ss : List Int) (k : Nat) : (joinTo ms ss k).length = 2 * k := by
  induction k with
  | zero => rfl
  | succ k ih => simp [joinTo, ih]; omega
theorem joinTo_get (ms ss : List Int) : ∀ (n k : Nat), k < n → (joinTo ms ss n).getD (2 * k) 0 = ms.getD k 0 - ss.getD k 0 / 2 + ss.getD k 0 ∧ (joinTo ms ss n).getD (2 * k + 1) 0 = ms.getD k 0 - ss.getD k 0 / 2 := by
  intro n
  induction n with
  | zero => intro k h; omega
  | succ n ih =>
    intro k h
    have hl := joinTo_len ms ss n
    simp only [joinTo, List.getD_eq_getElem?_getD] at *
    rcases Nat.lt_or_ge k n with h1 | h1
    · rw [List.getElem?_append_left (by omega), List.getElem?_append_left (by omega)]
      exact ih k h1
    · obtain rfl : k = n := by omega
      rw [List.getElem?_append_right (by omega), List.getElem?_append_right (by omega), hl]
      simp

theorem cell_two_new (w : World) (x y : Value) (t : TypeId) : ∀ j u, [x, y][j]? = some u → (w.alloc (.cells #[x, y] t)).cell? ((⟨w.heap.size, 0, none⟩ : Addr).add j) = some u := fun j u hj => by
  rw [Addr.add_lit, Nat.zero_add, blk_cell (blk_new w t #[x, y]) j]
  simpa using hj

theorem great_two (most : Int) (a b : Option Addr) (n m c d : Nat) (xs ys : List Int) (g : Nat) (w : World) (hm : 0 ≤ most) (hm1 : most ≤ 1000000000) (hx : xs.length = n) (hy : ys.length = m) (hn : n + m ≤ 1000000) (hg : Blk w g 55 #[.slice a n c, .slice b m d]) (h : Src2 w (.slice a n c) xs) (h2 : Src2 w (.slice b m d) ys)
    (hi : ∀ z ∈ xs, -9223372036854775808 ≤ z ∧ z ≤ 9223372036854775807) (hj : ∀ z ∈ ys, -9223372036854775808 ≤ z ∧ z ≤ 9223372036854775807) :
    Calls Try.prog 56 #[.int .i64 most, .slice (some ⟨g, 0, none⟩) 2 2] w fun e w' => e = .returned (.bool ((xs ++ ys).any (beyond most))) ∧ Below w.heap.size w w' := by
  have := greatM_calls most (fun j => if j = 0 then a else b) (fun j => if j = 0 then c else d) (fun j => if j = 0 then xs else ys) g 2 2 w hm hm1 (by omega) (blk_lt hg) (fun j hj => by
    rw [blk_cell hg]
    rcases Nat.lt_or_ge j 1 with h | h
    · obtain rfl : j = 0 := by omega
      simp [hx]
    · obtain rfl : j = 1 := by omega
      simp [hy]) (fun j hj => by
    rcases Nat.lt_or_ge j 1 with h1 | h1
    · obtain rfl : j = 0 := by omega
      simpa [hx] using h
    · obtain rfl : j = 1 := by omega
      simpa [hy] using h2) (by simp [catZ, hx, hy]; omega) (fun j hj' => by
    rcases Nat.lt_or_ge j 1 with h1 | h1
    · obtain rfl : j = 0 := by omega
      simpa using hi
    · obtain rfl : j = 1 := by omega
      simpa using hj)
  simpa [catZ] using this

set_option maxHeartbeats 1000000 in
theorem join_arg (a b : Option Addr) (n m c d : Nat) (w : World) (ho : n ≠ m) :
    Calls Try.prog 47 #[.slice a n c, .slice b m d] w fun e w' => e = .returned (.tuple #[.slice none 0 0, .int .i64 1]) ∧ Below w.heap.size w w' := by
  have h1 : ((n : Int) != (m : Int)) = true := by simp; omega
  have h2 : (n != m) = true := by simp; omega
  have h3 : decide (n = m) = false := by simp; omega
  go_enter Try.func47, Try.ntmps47
  go_wp2_with fail
  go_ret2
  exact ⟨rfl, Below.refl _ _⟩

set_option maxHeartbeats 1000000 in
theorem join_great (a b : Option Addr) (n c d : Nat) (xs ys : List Int) (w : World) (hn : n ≤ 100000) (hx : xs.length = n) (hy : ys.length = n) (h : Src2 w (.slice a n c) xs) (h' : Src2 w (.slice b n d) ys)
    (hi : ∀ z ∈ xs, -9223372036854775808 ≤ z ∧ z ≤ 9223372036854775807) (hj : ∀ z ∈ ys, -9223372036854775808 ≤ z ∧ z ≤ 9223372036854775807) (hg : (xs ++ ys).any (beyond 16777216) = true) :
    Calls Try.prog 47 #[.slice a n c, .slice b n d] w fun e w' => e = .returned (.tuple #[.slice none 0 0, .int .i64 7]) ∧ Below w.heap.size w w' := by
  have hb := (Below.refl w.heap.size w).alloc (Nat.le_refl _) (.cells #[.slice a n c, .slice b n d] 55)
  have cg := great_two 16777216 a b n n c d xs ys w.heap.size (w.alloc (.cells #[.slice a n c, .slice b n d] 55)) (by omega) (by omega) hx hy (by omega) (blk_new w _ _) (src2_below h hb) (src2_below h' hb) hi hj
  rw [hg] at cg
  have HB := Lib.hid hb
  clear hb h h' hi hj hg hx hy
  go_enter Try.func47, Try.ntmps47
  go_wp2_with fail
  refine cg.mono ?_
  rintro e w1 ⟨rfl, B1⟩
  clear cg
  go_wp2_with fail
  go_ret2
  exact ⟨rfl, HB.out.trans (B1.mono (by simp))⟩

set_option maxHeartbeats 4000000 in
theorem join_ok (a b : Option Addr) (n c d : Nat) (xs ys : List Int) (w : World) (hn : n ≤ 100000) (hx : xs.length = n) (hy : ys.length = n) (h : SlA w a xs) (h0 : a = none → c = 0) (h' : SlA w b ys) (h0' : b = none → d = 0)
    (hi : ∀ z ∈ xs, -16777216 ≤ z ∧ z ≤ 16777216) (hj : ∀ z ∈ ys, -16777216 ≤ z ∧ z ≤ 16777216) :
    Calls Try.prog 47 #[.slice a n c, .slice b n d] w fun e w' => ∃ v, e = .returned (.tuple #[v, .int .i64 0]) ∧ w'.ownsRow w.heap.size 3 1 v (2 * n) ((joinTo xs ys n).map (Value.int .i64)) ∧ Below w.heap.size w w' := by
  obtain ⟨inf, hinf, hzr, hsz, hby⟩ := info_parts (P := Try.prog) (e := 3) (z := .int .i64 0) (size := 1) (bytes := 8) (by kernel_rfl)
  have hb := (Below.refl w.heap.size w).alloc (Nat.le_refl _) (.cells #[.slice a n c, .slice b n d] 55)
  have cg := great_two 16777216 a b n n c d xs ys w.heap.size (w.alloc (.cells #[.slice a n c, .slice b n d] 55)) (by omega) (by omega) hx hy (by omega) (blk_new w _ _) (src2_below (src2_of hx h h0) hb) (src2_below (src2_of hy h' h0') hb) (fun z hz => by have := hi z hz; omega) (fun z hz => by have := hj z hz; omega)
  have hg : (xs ++ ys).any (beyond 16777216) = false := by
    rw [List.any_eq_false]
    intro z hz
    have : -16777216 ≤ z ∧ z ≤ 16777216 := by
      rcases List.mem_append.1 hz with hz | hz
      · exact hi z hz
      · exact hj z hz
    rw [beyond_in (by omega) (by omega)]
    decide
  rw [hg] at cg
  have HB := Lib.hid hb
  have H := Lib.hid h
  have H' := Lib.hid h'
  have HI := Lib.hid hi
  have HJ := Lib.hid hj
  have HX := Lib.hid hx
  have HY := Lib.hid hy
  have HF := Lib.hid (And.intro hinf (And.intro hzr (And.intro hsz hby)))
  clear hb h h' hi hj hg hx hy h0 h0' hinf hzr hsz hby
  go_enter Try.func47, Try.ntmps47
  go_wp2_with fail
  refine cg.mono ?_
  rintro e w1 ⟨rfl, B1⟩
  have B2 := Lib.hid (HB.out.trans (B1.mono (by simp)))
  have HO := Lib.hid (World.ownsRow_nil w1 w.heap.size 3 1)
  clear cg B1 HB
  go_wp2_with fail
  go_loopg [6, 23] n (fun gg s6 s23 wr => ∃ kk : Nat, kk ≤ n ∧ n - kk ≤ gg ∧ s23 = .int .i64 kk ∧ Aside (Below w.heap.size w wr) ∧ Aside (wr.ownsRow w.heap.size 3 1 s6 (2 * kk) ((joinTo xs ys kk).map (Value.int .i64))))
  case atStart => exact ⟨0, Nat.zero_le _, by omega, rfl, B2.out, HO.out⟩
  case round =>
    clear HO B2
    obtain ⟨kk, hkk, hgk, rfl, B, O⟩ := hrel
    by_cases hlt : kk < n
    · have hltz : (kk : Int) < n := by omega
      have hk0 : 0 ≤ (kk : Int) := by omega
      obtain ⟨g0, o0, e0, hg0, hc0⟩ := slA_at (slA_below H.out B.out) (k := kk) (by rw [HX.out]; exact hlt)
      obtain ⟨g1, o1, e1, hg1, hc1⟩ := slA_at (slA_below H'.out B.out) (k := kk) (by rw [HY.out]; exact hlt)
      subst e0
      subst e1
      have cx := hc0 kk (by rw [HX.out]; exact hlt)
      have cy := hc1 kk (by rw [HY.out]; exact hlt)
      have hx := HI.out (xs.getD kk 0) (by rw [List.getD_eq_getElem?_getD, List.getElem?_eq_getElem (by rw [HX.out]; exact hlt)]; exact List.getElem_mem (by rw [HX.out]; exact hlt))
      have hy := HJ.out (ys.getD kk 0) (by rw [List.getD_eq_getElem?_getD, List.getElem?_eq_getElem (by rw [HY.out]; exact hlt)]; exact List.getElem_mem (by rw [HY.out]; exact hlt))
      have hj : joinTo xs ys (kk + 1) = joinTo xs ys kk ++ [xs.getD kk 0 - ys.getD kk 0 / 2 + ys.getD kk 0, xs.getD kk 0 - ys.getD kk 0 / 2] := rfl
      have HJN := Lib.hid hj
      clear hc0 hc1 hj
      generalize xs.getD kk 0 = x at *
      generalize ys.getD kk 0 = y at *
      go_wp2_with fail
      go_quiet ((go_at_call 20; exact Calls.quiet_of_same ((midBack_calls x y _ (by omega) (by omega) (by omega) (by omega)).mono fun _ _ h => ⟨h.1, h.2.symm⟩)))
      obtain ⟨l, hl⟩ : ∃ l, l = x - y / 2 + y := ⟨_, rfl⟩
      obtain ⟨r, hr⟩ : ∃ r, r = x - y / 2 := ⟨_, rfl⟩
      rw [← hl, ← hr] at HJN
      rw [← hl, ← hr]
      clear hl hr cx cy hx hy
      have B3 := Lib.hid (below_draws B.out nq)
      have O3 := Lib.hid (owns_kept O.out (show wr.grownBy (wr.drewN nq) none from ⟨rfl, rfl, rfl, Nat.le_refl _, fun _ _ _ => rfl⟩) (fun g _ e => by cases e))
      clear B O
      generalize wr.drewN nq = w3 at *
      have hs := B3.out.size
      go_wp2_with (first | (at_builtin; refine wpList_append_own _ rfl _ _ 55 rfl w.heap.size 3 inf (.int .i64 0) 1 8 Try.underlying55 HF.out.1 HF.out.2.1 HF.out.2.2.1 HF.out.2.2.2 rfl (by decide) _ (2 * kk) _ rfl (O3.out.alloc _) ⟨w3.heap.size, 0, none⟩ 2 2 [.int .i64 l, .int .i64 r] rfl rfl (cell_two_new _ _ _ _) (by simp [Value.oneCell']) (by unfold maxLen; omega) (by omega) (by simp; omega) ?_; intro v' w5 hown' hgrow _))
      have hol := O3.out.lt
      have B5 := Lib.hid ((B3.out.alloc hs (.cells #[.int .i64 l, .int .i64 r] 3)).grown hgrow (by simp; omega) (fun k e => (hol k e).1))
      rw [show [Value.int .i64 l, .int .i64 r] = [l, r].map (Value.int .i64) from rfl, ← List.map_append, ← HJN.out] at hown'
      have O5 := Lib.hid hown'
      clear hown' hgrow hol O3 B3
      go_wp2_with fail
      go_roundg (n - (kk + 1))
      case measure => omega
      case rel => exact ⟨kk + 1, by omega, by omega, by go_num, B5.out, O5.out⟩
    · obtain rfl : n = kk := by omega
      have hltz : ¬ (n : Int) < n := by omega
      go_wp2_with fail
      go_ret2
      exact ⟨_, rfl, O.out, B.out⟩
end Go.Proofs.Ytnmhbonheaoldaa
