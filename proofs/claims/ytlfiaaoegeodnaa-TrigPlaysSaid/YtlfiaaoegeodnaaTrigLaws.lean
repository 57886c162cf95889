/- The walks of layer 8's laws. -/
import Derived.Test.YtlfiaaoegeodnaaTrigC
import Derived.Test.YtlfiaaoegeodnaaAngleC
namespace Go.Proofs.Ytlfiaaoegeodnaa
open Go.RowKit

theorem turn_at (k x y : Int) (w : World) (h0 : -9223372036854775808 ≤ k) (h1 : k ≤ 9223372036854775807) (h : trigT k = (x, y)) :
    Calls Try.prog 29 #[.int .i64 k] w fun e w' => e = .returned (.tuple #[.int .i64 x, .int .i64 y]) ∧ Below w.heap.size w w' := by
  refine (turn_calls k w h0 h1).mono fun e w' hh => ?_
  rw [h] at hh
  exact hh

theorem awakeT_calls (w : World) :
    Calls Try.prog 27 #[] w fun e w' => e = .returned (.bool true) ∧ Below w.heap.size w w' := by
  go_enter Try.func27, Try.ntmps27
  go_wp2_with fail
  refine (turn_at 0 1073741824 0 _ (by omega) (by omega) (by decide +kernel)).mono ?_
  rintro e w1 ⟨rfl, hB⟩
  go_wp2_with fail
  refine (turn_at 128 0 1073741824 _ (by omega) (by omega) (by decide +kernel)).mono ?_
  rintro e w2 ⟨rfl, hB2⟩
  go_wp2_with fail
  go_ret
  exact ⟨rfl, hB.trans (hB2.mono hB.size)⟩

theorem mask62 (a : Int) : 0 ≤ wrap64 (bits BinOp.and IntKind.u64 a 4611686018427387903) ∧ wrap64 (bits BinOp.and IntKind.u64 a 4611686018427387903) ≤ 4611686018427387903 := by
  have e : bits BinOp.and IntKind.u64 a 4611686018427387903 = IntKind.u64.wrap ((BitVec.ofInt 64 a &&& BitVec.ofInt 64 4611686018427387903).toNat : Int) := rfl
  have hle : (BitVec.ofInt 64 a &&& BitVec.ofInt 64 4611686018427387903).toNat ≤ 4611686018427387903 := by
    rw [BitVec.toNat_and]
    exact Nat.and_le_right
  rw [e, IntKind.wrap_u64]
  unfold wrap64
  omega

theorem root_any (n : Int) (w : World) (h0 : 0 ≤ n) (h1 : n ≤ 4611686018427387903) : Calls Try.prog 28 #[.int .i64 n] w (RootOk n w) := by
  by_cases h : 0 < n
  · exact root_calls n w h (by omega)
  · exact (root_low n w (by omega) (by omega)).mono fun e w' hh => ⟨0, ⟨by omega, by omega, by omega⟩, hh.1, hh.2⟩

theorem root_sq {n r : Int} (h : IsRoot n r) (hn : n ≤ 4611686018427387903) : 0 ≤ r * r ∧ r * r ≤ n ∧ n < (r + 1) * (r + 1) ∧ 0 ≤ (r + 1) * (r + 1) ∧ (r + 1) * (r + 1) ≤ 4611686018427387904 ∧ 0 ≤ r ∧ r < 2147483648 := by
  have h0 := h.1
  have hs := small_of_sq h.2.1 (n := n) (by omega)
  have h3 : (r + 1) * (r + 1) ≤ 2147483648 * 2147483648 := Int.mul_le_mul (by omega) (by omega) (by omega) (by omega)
  exact ⟨Int.mul_nonneg h0 h0, h.2.1, h.2.2, Int.mul_nonneg (by omega) (by omega), by omega, h0, hs⟩

set_option maxHeartbeats 400000 in
theorem trigRoot_walk (a0 : Int) (_w0 : (Lit.int .u64 a0).wf = true) (w : World) :
    Calls Try.prog 3 #[.int .u64 a0] w (LawTrue w) := by
  have hm := mask62 a0
  go_enter Try.func3, Try.ntmps3
  go_wp2_with fail
  refine (awakeT_calls _).mono ?_
  rintro e w1 ⟨rfl, hB⟩
  go_wp2_with fail
  generalize wrap64 (bits BinOp.and IntKind.u64 a0 4611686018427387903) = m at hm
  refine (root_any m _ hm.1 hm.2).mono ?_
  rintro e w2 ⟨r, hr, rfl, rfl⟩
  have hs := root_sq hr hm.2
  clear hr
  go_wp2_with fail
  refine (root_low (-m) _ (by omega) (by omega)).mono ?_
  rintro e w2 ⟨rfl, rfl⟩
  go_wp2_with fail
  all_goals (go_ret; refine ⟨ret_true ?_, hB⟩; first | rfl | (simp; omega))

set_option maxHeartbeats 400000 in
theorem trigTurns_walk (a0 : Int) (_w0 : (Lit.int .i64 a0).wf = true) (w : World) :
    Calls Try.prog 4 #[.int .i64 a0] w (LawTrue w) := by
  have hk := tmod_bd a0 (m := 999999) (by omega)
  simp only [Int.reduceAdd] at hk
  have hb := i64_bounds _w0
  go_enter Try.func4, Try.ntmps4
  go_wp2_with fail
  refine (awakeT_calls _).mono ?_
  rintro e wn1 ⟨rfl, hn1⟩
  have hB := hn1
  clear hn1
  go_wp2_with fail
  generalize a0.tmod 1000000 = k at hk
  have ht := trigT_bd k
  obtain ⟨x, y, hxy⟩ : ∃ x y, trigT k = (x, y) := ⟨_, _, rfl⟩
  rw [hxy] at ht
  have H := Lib.hid hxy
  clear hxy
  go_wp2_with fail
  refine (turn_at k x y _ (by omega) (by omega) H.out).mono ?_
  rintro e wn2 ⟨rfl, hn2⟩
  replace hB := bnext hB hn2
  clear hn2
  go_wp2_with fail
  refine (turn_at _ (-x) (-y) _ (by omega) (by omega) (trig_half H.out)).mono ?_
  rintro e wn3 ⟨rfl, hn3⟩
  replace hB := bnext hB hn3
  clear hn3
  go_wp2_with fail
  refine (turn_at _ x y _ (by omega) (by omega) (trig_all H.out)).mono ?_
  rintro e wn4 ⟨rfl, hn4⟩
  replace hB := bnext hB hn4
  clear hn4
  go_wp2_with fail
  refine (turn_at _ (-y) x _ (by omega) (by omega) (trig_right H.out)).mono ?_
  rintro e wn5 ⟨rfl, hn5⟩
  replace hB := bnext hB hn5
  clear hn5
  go_wp2_with fail
  all_goals (go_ret; refine ⟨ret_true ?_, hB⟩; first | rfl | (simp; omega))

theorem u8_bounds {n : Int} (h : (Lit.int .u8 n).wf = true) : 0 ≤ n ∧ n ≤ 255 := by
  simp [Lit.wf, IntKind.min, IntKind.max, IntKind.signed, IntKind.bits] at h
  omega
theorem trig_rises {i : Int} (h0 : 0 ≤ i) (h1 : i < 128) : (trigT (i + 1)).1 < (trigT i).1 ∧ (trigT i).2 < (trigT (i + 1)).2 := by
  have h := rises_all ⟨i.toNat, by omega⟩
  have e : ((i.toNat : Nat) : Int) = i := by omega
  simpa only [e] using h

set_option maxHeartbeats 400000 in
theorem trigRises_walk (a0 : Int) (_w0 : (Lit.int .u8 a0).wf = true) (w : World) :
    Calls Try.prog 6 #[.int .u8 a0] w (LawTrue w) := by
  have hb := u8_bounds _w0
  have h1 := trig_rises (i := a0 % 128) (by omega) (by omega)
  go_enter Try.func6, Try.ntmps6
  go_wp2_with fail
  refine (awakeT_calls _).mono ?_
  rintro e wn1 ⟨rfl, hn1⟩
  have hB := hn1
  clear hn1
  go_wp2_with fail
  refine (cos_calls _ _ (by omega) (by omega)).mono ?_
  rintro e wn6 ⟨rfl, hn6⟩
  replace hB := bnext hB hn6
  clear hn6
  go_wp2_with fail
  refine (cos_calls _ _ (by omega) (by omega)).mono ?_
  rintro e wn7 ⟨rfl, hn7⟩
  replace hB := bnext hB hn7
  clear hn7
  go_wp2_with fail
  refine (sin_calls _ _ (by omega) (by omega)).mono ?_
  rintro e wn8 ⟨rfl, hn8⟩
  replace hB := bnext hB hn8
  clear hn8
  go_wp2_with fail
  refine (sin_calls _ _ (by omega) (by omega)).mono ?_
  rintro e wn9 ⟨rfl, hn9⟩
  replace hB := bnext hB hn9
  clear hn9
  go_wp2_with fail
  all_goals (go_ret; refine ⟨ret_true ?_, hB⟩; first | rfl | (simp; omega))

theorem sizeT_calls (n : Int) (w : World) (h0 : -9223372036854775807 ≤ n) (h1 : n ≤ 9223372036854775807) :
    Calls Try.prog 30 #[.int .i64 n] w fun e w' => e = .returned (.int .i64 (if n < 0 then -n else n)) ∧ w = w' := by
  by_cases h : n < 0
  · rw [if_pos h]
    go_enter Try.func30, Try.ntmps30
    go_wp2
    go_ret
    exact ⟨rfl, rfl⟩
  · rw [if_neg h]
    go_enter Try.func30, Try.ntmps30
    go_wp2
    go_ret
    exact ⟨rfl, rfl⟩
theorem sizeT_le (n m : Int) (w : World) (hm : m ≤ 9223372036854775807) (h0 : n ≤ m) (h1 : -n ≤ m) :
    Calls Try.prog 30 #[.int .i64 n] w fun e w' => ∃ a, a ≤ m ∧ 0 ≤ a ∧ e = .returned (.int .i64 a) ∧ w = w' := by
  refine (sizeT_calls n w (by omega) (by omega)).mono ?_
  rintro e w' ⟨rfl, rfl⟩
  exact ⟨_, by split <;> omega, by split <;> omega, rfl, rfl⟩

set_option maxHeartbeats 400000 in
theorem trigClose_walk (a0 : Int) (_w0 : (Lit.int .i64 a0).wf = true) (w : World) :
    Calls Try.prog 7 #[.int .i64 a0] w (LawTrue w) := by
  have hk := tmod_bd a0 (m := 999999) (by omega)
  simp only [Int.reduceAdd] at hk
  have hb := i64_bounds _w0
  go_enter Try.func7, Try.ntmps7
  go_wp2_with fail
  refine (awakeT_calls _).mono ?_
  rintro e wn1 ⟨rfl, hn1⟩
  have hB := hn1
  clear hn1
  go_wp2_with fail
  generalize a0.tmod 1000000 = k at hk
  have ht := trigT_bd k
  obtain ⟨x, y, hxy⟩ : ∃ x y, trigT k = (x, y) := ⟨_, _, rfl⟩
  rw [hxy] at ht
  have H := Lib.hid hxy
  have hc := trig_close k
  rw [hxy] at hc
  have hy2 := trigT_bd (128 - k)
  clear hxy
  have hxx : 0 ≤ x * x := by rcases Int.le_total 0 x with h | h; exact Int.mul_nonneg h h; exact Int.mul_nonneg_of_nonpos_of_nonpos h h
  have hyy : 0 ≤ y * y := by rcases Int.le_total 0 y with h | h; exact Int.mul_nonneg h h; exact Int.mul_nonneg_of_nonpos_of_nonpos h h
  go_wp2_with fail
  refine (turn_at k x y _ (by omega) (by omega) H.out).mono ?_
  rintro e wn10 ⟨rfl, hn10⟩
  replace hB := bnext hB hn10
  clear hn10
  go_wp2_with fail
  refine (sin_calls _ _ (by omega) (by omega)).mono ?_
  rintro e wn11 ⟨rfl, hn11⟩
  replace hB := bnext hB hn11
  clear hn11
  go_wp2_with fail
  refine (sizeT_le _ 2048 _ (by omega) (by omega) (by omega)).mono ?_
  rintro e w' ⟨s1, _, _, rfl, rfl⟩
  go_wp2_with fail
  refine (sizeT_le _ 4398046511104 _ (by omega) (by omega) (by omega)).mono ?_
  rintro e w' ⟨s2, _, _, rfl, rfl⟩
  go_wp2_with fail
  refine (cos_calls _ _ (by omega) (by omega)).mono ?_
  rintro e wn12 ⟨rfl, hn12⟩
  replace hB := bnext hB hn12
  clear hn12
  rw [show (trigT k).1 = x by rw [H.out]]
  go_wp2_with fail
  refine (sin_calls _ _ (by omega) (by omega)).mono ?_
  rintro e wn13 ⟨rfl, hn13⟩
  replace hB := bnext hB hn13
  clear hn13
  rw [show (trigT k).2 = y by rw [H.out]]
  go_wp2_with fail
  all_goals (go_ret; refine ⟨ret_true ?_, hB⟩; first | rfl | (simp; omega))

theorem prod_bd {a c : Int} (ha : -1073741824 ≤ a) (ha1 : a ≤ 1073741824) (hc : -1073741824 ≤ c) (hc1 : c ≤ 1073741824) : -1152921504606846976 ≤ a * c ∧ a * c ≤ 1152921504606846976 := by
  have h1 := Int.mul_nonneg (a := 1073741824 - a) (b := 1073741824 - c) (by omega) (by omega)
  have h2 := Int.mul_nonneg (a := 1073741824 + a) (b := 1073741824 + c) (by omega) (by omega)
  have h3 := Int.mul_nonneg (a := 1073741824 - a) (b := 1073741824 + c) (by omega) (by omega)
  have h4 := Int.mul_nonneg (a := 1073741824 + a) (b := 1073741824 - c) (by omega) (by omega)
  simp only [Int.sub_mul, Int.mul_sub, Int.add_mul, Int.mul_add] at h1 h2 h3 h4
  omega

set_option maxHeartbeats 400000 in
theorem trigSums_walk (a0 : Int) (a1 : Int) (_w0 : (Lit.int .i64 a0).wf = true) (_w1 : (Lit.int .i64 a1).wf = true) (w : World) :
    Calls Try.prog 5 #[.int .i64 a0, .int .i64 a1] w (LawTrue w) := by
  have hj := tmod_bd a0 (m := 99999) (by omega)
  have hk := tmod_bd a1 (m := 99999) (by omega)
  simp only [Int.reduceAdd] at hj hk
  have hb := i64_bounds _w0
  have hb1 := i64_bounds _w1
  go_enter Try.func5, Try.ntmps5
  go_wp2_with fail
  refine (awakeT_calls _).mono ?_
  rintro e wn1 ⟨rfl, hn1⟩
  have hB := hn1
  clear hn1
  go_wp2_with fail
  generalize a0.tmod 100000 = j at hj
  generalize a1.tmod 100000 = k at hk
  have hs := sum_near j k
  have ha := trigT_bd j
  have hc := trigT_bd k
  have he := trigT_bd (j + k)
  generalize hx1 : trigT j = p at hs ha
  generalize hx2 : trigT k = q at hs hc
  generalize hx3 : trigT (j + k) = r at hs he
  obtain ⟨a, b⟩ := p
  obtain ⟨c, d⟩ := q
  obtain ⟨e, f⟩ := r
  dsimp only at hs ha hc he
  have H1 := Lib.hid hx1
  have H2 := Lib.hid hx2
  have H3 := Lib.hid hx3
  clear hx1 hx2 hx3
  have p1 := prod_bd ha.1 ha.2.1 hc.1 hc.2.1
  have p2 := prod_bd ha.2.2.1 ha.2.2.2 hc.2.2.1 hc.2.2.2
  have p3 := prod_bd ha.1 ha.2.1 hc.2.2.1 hc.2.2.2
  have p4 := prod_bd ha.2.2.1 ha.2.2.2 hc.1 hc.2.1
  go_wp2_with fail
  refine (turn_at _ _ _ _ (by omega) (by omega) H1.out).mono ?_
  rintro e wn14 ⟨rfl, hn14⟩
  replace hB := bnext hB hn14
  clear hn14
  go_wp2_with fail
  refine (turn_at _ _ _ _ (by omega) (by omega) H2.out).mono ?_
  rintro e wn15 ⟨rfl, hn15⟩
  replace hB := bnext hB hn15
  clear hn15
  go_wp2_with fail
  refine (turn_at _ _ _ _ (by omega) (by omega) H3.out).mono ?_
  rintro e wn16 ⟨rfl, hn16⟩
  replace hB := bnext hB hn16
  clear hn16
  go_wp2_with fail
  refine (sizeT_le _ 8192 _ (by omega) (by omega) (by omega)).mono ?_
  rintro e w' ⟨s1, _, _, rfl, rfl⟩
  go_wp2_with fail
  refine (sizeT_le _ 8192 _ (by omega) (by omega) (by omega)).mono ?_
  rintro e w' ⟨s2, _, _, rfl, rfl⟩
  go_wp2_with fail
  all_goals (go_ret; refine ⟨ret_true ?_, hB⟩; first | rfl | (simp; omega))

end Go.Proofs.Ytlfiaaoegeodnaa
