/- The walk of MidJoins. -/
import Derived.Test.YtnmhbonheaoldaaMidPl
import Derived.Test.YtnmhbonheaoldaaMidW
namespace Go.Proofs.Ytnmhbonheaoldaa
open Go.RowKit

def midsL (zs : List Int) (m : Nat) : List Int := (List.range m).map (midAt zs)
def sidesL (zs : List Int) (m : Nat) : List Int := (List.range m).map (sideAt zs)
theorem midsL_len (zs : List Int) (m : Nat) : (midsL zs m).length = m := by simp [midsL]
theorem sidesL_len (zs : List Int) (m : Nat) : (sidesL zs m).length = m := by simp [sidesL]
theorem getD_in {zs : List Int} {b : Int} (hb : 0 ≤ b) (hi : ∀ z ∈ zs, -b ≤ z ∧ z ≤ b) (k : Nat) : -b ≤ zs.getD k 0 ∧ zs.getD k 0 ≤ b := by
  rw [List.getD_eq_getElem?_getD]
  cases h : zs[k]? with
  | none => simp; omega
  | some z => exact hi z (List.mem_of_getElem? h)
theorem midsL_in {zs : List Int} {m : Nat} (hi : ∀ z ∈ zs, -1048576 ≤ z ∧ z ≤ 1048576) : ∀ z ∈ midsL zs m, -16777216 ≤ z ∧ z ≤ 16777216 := fun z hz => by
  obtain ⟨k, _, rfl⟩ := List.mem_map.1 hz
  have h1 := getD_in (b := 1048576) (by omega) hi (2 * k)
  have h2 := getD_in (b := 1048576) (by omega) hi (2 * k + 1)
  unfold midAt
  omega
theorem sidesL_in {zs : List Int} {m : Nat} (hi : ∀ z ∈ zs, -1048576 ≤ z ∧ z ≤ 1048576) : ∀ z ∈ sidesL zs m, -16777216 ≤ z ∧ z ≤ 16777216 := fun z hz => by
  obtain ⟨k, _, rfl⟩ := List.mem_map.1 hz
  have h1 := getD_in (b := 1048576) (by omega) hi (2 * k)
  have h2 := getD_in (b := 1048576) (by omega) hi (2 * k + 1)
  unfold sideAt
  omega
/-- Join undoes Split -/
theorem join_split (zs : List Int) {m : Nat} (hz : zs.length = 2 * m) : joinTo (midsL zs m) (sidesL zs m) m = zs := by
  have hl := joinTo_len (midsL zs m) (sidesL zs m) m
  have key : ∀ k, k < m → (joinTo (midsL zs m) (sidesL zs m) m).getD (2 * k) 0 = zs.getD (2 * k) 0 ∧ (joinTo (midsL zs m) (sidesL zs m) m).getD (2 * k + 1) 0 = zs.getD (2 * k + 1) 0 := fun k hk => by
    obtain ⟨h1, h2⟩ := joinTo_get (midsL zs m) (sidesL zs m) m k hk
    rw [h1, h2]
    unfold midsL sidesL
    rw [range_getD _ hk, range_getD _ hk]
    unfold midAt sideAt
    omega
  apply List.ext_getElem
  · omega
  · intro i h1 h2
    have e : ∀ l : List Int, (h : i < l.length) → l[i] = l.getD i 0 := fun l h => by rw [List.getD_eq_getElem?_getD, List.getElem?_eq_getElem h, Option.getD_some]
    rw [e _ h1, e _ h2]
    rcases Nat.mod_two_eq_zero_or_one i with h | h
    · have := (key (i / 2) (by omega)).1
      rwa [show 2 * (i / 2) = i by omega] at this
    · have := (key (i / 2) (by omega)).2
      rwa [show 2 * (i / 2) + 1 = i by omega] at this

set_option maxRecDepth 20000 in
set_option maxHeartbeats 1000000 in
theorem mj_long (a0 a1 : Option Addr) (n0 c0 n1 c1 : Nat) (w : World) (hn : 400 < n0 ∨ 400 < n1) :
    Calls Try.prog 16 #[.slice a0 n0 c0, .slice a1 n1 c1] w (LawTrue w) := by
  by_cases h : 400 < n0
  · have h1 : (400 : Int) < n0 := by omega
    go_enter Try.func16, Try.ntmps16
    go_wp2_with (first | (go_at_call 19; refine (awakeM_calls _).mono ?_; rintro e w' ⟨rfl, rfl⟩))
    go_ret
    exact ⟨rfl, Below.refl _ _⟩
  · have h1 : ¬ (400 : Int) < n0 := by omega
    have h2 : (400 : Int) < n1 := by omega
    go_enter Try.func16, Try.ntmps16
    go_wp2_with (first | (go_at_call 19; refine (awakeM_calls _).mono ?_; rintro e w' ⟨rfl, rfl⟩))
    go_ret
    exact ⟨rfl, Below.refl _ _⟩

set_option maxRecDepth 20000 in
set_option maxHeartbeats 1000000 in
theorem mj_odd (a0 a1 : Option Addr) (n0 c0 n1 c1 : Nat) (w : World) (hn : n0 ≤ 400) (hn1 : n1 ≤ 400) (ho : n0 % 2 = 1) :
    Calls Try.prog 16 #[.slice a0 n0 c0, .slice a1 n1 c1] w (LawTrue w) := by
  have h1 : ¬ (400 : Int) < n0 := by omega
  have h2 : ¬ (400 : Int) < n1 := by omega
  have h3 : ((n0 : Int) % 2 == 1) = true := by simp; omega
  have cs := split_odd a0 n0 c0 w (by omega) ho
  go_enter Try.func16, Try.ntmps16
  go_wp2_with (first | (go_at_call 19; refine (awakeM_calls _).mono ?_; rintro e w' ⟨rfl, rfl⟩))
  refine cs.mono ?_
  rintro e w1 ⟨rfl, B⟩
  have HB := Lib.hid B
  clear cs B ho
  go_wp2_with fail
  go_ret
  exact ⟨rfl, HB.out⟩

set_option maxRecDepth 20000 in
set_option maxHeartbeats 4000000 in
theorem mj_great (a0 a1 : Option Addr) (n0 c0 n1 c1 : Nat) (zs : List Int) (w : World) (hn : n0 ≤ 400) (hn1 : n1 ≤ 400) (ho : n0 % 2 = 0) (hz : zs.length = n0) (h : SlA w a0 zs) (k0 : a0 = none → c0 = 0) (hi : ∀ z ∈ zs, -9223372036854775808 ≤ z ∧ z ≤ 9223372036854775807) (hg : zs.any (beyond 1048576) = true) :
    Calls Try.prog 16 #[.slice a0 n0 c0, .slice a1 n1 c1] w (LawTrue w) := by
  have h1 : ¬ (400 : Int) < n0 := by omega
  have h2 : ¬ (400 : Int) < n1 := by omega
  have h3 : ((n0 : Int) % 2 == 1) = false := by simp; omega
  have cs := split_great a0 n0 c0 zs w (by omega) ho hz (src2_of hz h k0) hi hg
  have H := Lib.hid h
  have HZ := Lib.hid hz
  have HI := Lib.hid hi
  have HG := Lib.hid hg
  clear h hz hi hg k0
  go_enter Try.func16, Try.ntmps16
  go_wp2_with (first | (go_at_call 19; refine (awakeM_calls _).mono ?_; rintro e w' ⟨rfl, rfl⟩))
  refine cs.mono ?_
  rintro e w1 ⟨rfl, B⟩
  have HB := Lib.hid B
  clear cs B ho
  go_wp2_with fail
  go_loopg [8] n0 (fun gg s8 wr => ∃ kk : Nat, kk ≤ n0 ∧ n0 - kk ≤ gg ∧ s8 = .int .i64 kk ∧ Aside (wr = w1) ∧ Aside (∀ j, j < kk → beyond 1048576 (zs.getD j 0) = false))
  case atStart => exact ⟨0, Nat.zero_le _, by omega, rfl, rfl, fun j hj => absurd hj (Nat.not_lt_zero _)⟩
  case round =>
    obtain ⟨kk, hkk, hgk, rfl, E, A⟩ := hrel
    obtain rfl := E.out.symm
    clear E
    by_cases hlt : kk < n0
    · have hltz : (kk : Int) < n0 := by omega
      have hk0 : 0 ≤ (kk : Int) := by omega
      obtain ⟨g0, o0, rfl, hg0, hc0⟩ := slA_at (slA_below H.out HB.out) (k := kk) (by rw [HZ.out]; exact hlt)
      have cx := hc0 kk (by rw [HZ.out]; exact hlt)
      obtain ⟨x, hx⟩ : ∃ x, x = zs.getD kk 0 := ⟨_, rfl⟩
      rw [← hx] at cx
      have HX := Lib.hid hx
      clear hc0 hx
      by_cases hlo : x < -1048576
      · go_wp2_with fail
        go_ret
        exact ⟨rfl, HB.out⟩
      · by_cases hhi : 1048576 < x
        · go_wp2_with fail
          go_ret
          exact ⟨rfl, HB.out⟩
        · go_wp2_with fail
          go_roundg (n0 - (kk + 1))
          case measure => omega
          case rel =>
            refine ⟨kk + 1, by omega, by omega, by go_num, rfl, (show Aside _ from fun j hj => ?_)⟩
            by_cases e : j = kk
            · subst e
              rw [← HX.out]
              exact beyond_in (by omega) (by omega)
            · exact A.out j (by omega)
    · have := any_miss (fun k hk => A.out k (by have := HZ.out; omega)) (p := beyond 1048576) (zs := zs)
      rw [HG.out] at this
      cases this

set_option maxRecDepth 20000 in
set_option maxHeartbeats 8000000 in
theorem mj_arg (a0 a1 : Option Addr) (m c0 n1 c1 : Nat) (zs ys : List Int) (w : World) (hn : 2 * m ≤ 400) (hn1 : n1 ≤ 400) (hc : 2 * m ≤ c0) (hc2 : c0 ≤ 9223372036854775807) (hz : zs.length = 2 * m) (h : SlA w a0 zs) (k0 : a0 = none → c0 = 0) (hi : ∀ z ∈ zs, -1048576 ≤ z ∧ z ≤ 1048576) (hne : n1 ≠ m) :
    Calls Try.prog 16 #[.slice a0 (2 * m : Nat) c0, .slice a1 n1 c1] w (LawTrue w) := by
  have h1 : ¬ (400 : Int) < (2 * m : Nat) := by omega
  have h2 : ¬ (400 : Int) < n1 := by omega
  have h3 : (((2 * m : Nat) : Int) % 2 == 1) = false := by simp
  have h4 : (2 * (m : Int)) % 2 = 0 := by omega
  have cs := split_ok a0 m c0 zs w (by omega) hc hc2 hz h k0 hi
  have cj := fun am ad cm cd (W : World) (e1 : SlA W am (midsL zs m)) (e2 : SlA W ad (sidesL zs m)) f1 f2 => join_ok am ad m cm cd (midsL zs m) (sidesL zs m) W (by omega) (midsL_len zs m) (sidesL_len zs m) e1 f1 e2 f2 (midsL_in hi) (sidesL_in hi)
  rw [join_split zs hz] at cj
  have H := Lib.hid h
  have HZ := Lib.hid hz
  have HI := Lib.hid hi
  clear h hz hi k0
  have CJ := Lib.hid cj
  clear cj
  go_enter Try.func16, Try.ntmps16
  go_wp2_with (first | (go_at_call 19; refine (awakeM_calls _).mono ?_; rintro e w' ⟨rfl, rfl⟩))
  refine cs.mono ?_
  rintro e w1 ⟨vm, vs, rfl, O1, O2, B⟩
  obtain ⟨am, cm, rfl, hl1, S1, ka⟩ := slA_row O1
  obtain ⟨ad, cd, rfl, hl2, S2, kb⟩ := slA_row O2
  rw [hl1, hl2]
  have S1' := Lib.hid S1
  have S2' := Lib.hid S2
  have HB := Lib.hid B
  have KA := Lib.hid ka
  have KB := Lib.hid kb
  clear cs O1 O2 S1 S2 B hl1 hl2 ka kb
  go_wp2_with fail
  go_loopg [8] (2 * m) (fun gg s8 wr => ∃ kk : Nat, kk ≤ 2 * m ∧ 2 * m - kk ≤ gg ∧ s8 = .int .i64 kk ∧ Aside (wr = w1))
  case atStart => exact ⟨0, Nat.zero_le _, by omega, rfl, rfl⟩
  case round =>
    obtain ⟨kk, hkk, hgk, rfl, E⟩ := hrel
    obtain rfl := E.out.symm
    clear E
    by_cases hlt : kk < 2 * m
    · have hltz : (kk : Int) < 2 * (m : Int) := by omega
      have hk0 : 0 ≤ (kk : Int) := by omega
      obtain ⟨g0, o0, rfl, hg0, hc0⟩ := slA_at (slA_below H.out HB.out) (k := kk) (by rw [HZ.out]; exact hlt)
      have cx := hc0 kk (by rw [HZ.out]; exact hlt)
      have hx := getD_in (b := 1048576) (by omega) HI.out kk
      generalize zs.getD kk 0 = x at *
      clear hc0
      have hlo : ¬ x < -1048576 := by omega
      have hhi : ¬ 1048576 < x := by omega
      go_wp2_with fail
      go_roundg (2 * m - (kk + 1))
      case measure => omega
      case rel => exact ⟨kk + 1, by omega, by omega, by go_num, rfl⟩
    · have hltz : ¬ (kk : Int) < 2 * (m : Int) := by omega
      have cj := CJ.out am ad cm cd w1 S1'.out S2'.out KA.out KB.out
      clear CJ
      go_wp2_with fail
      refine cj.mono ?_
      rintro e w2 ⟨vx, rfl, O3, B2⟩
      obtain ⟨ax, cx, rfl, hl3, S3, _⟩ := slA_row O3
      rw [hl3]
      have HB2 := Lib.hid (bnext HB.out B2)
      have HM := Lib.hid (slA_below S1'.out B2)
      have S3' := Lib.hid S3
      clear cj O3 S3 hl3 S1' S2' HB B2
      rename_i kx
      clear kx
      go_wp2_with fail
      go_loopg [11] (2 * m) (fun gg s11 wr => ∃ kk : Nat, kk ≤ 2 * m ∧ 2 * m - kk ≤ gg ∧ s11 = .int .i64 kk ∧ Aside (Below w.heap.size w wr) ∧ Aside (SlA wr am (midsL zs m)) ∧ Aside (SlA wr ax zs))
      case atStart => exact ⟨0, Nat.zero_le _, by omega, rfl, HB2.out, HM.out, S3'.out⟩
      case round =>
        clear HB2 HM S3' hlt hltz hkk
        obtain ⟨k2, hkk, hgk2, rfl, B, SM, SX⟩ := hrel
        by_cases hlt : k2 < 2 * m
        · have hltz : (k2 : Int) < 2 * (m : Int) := by omega
          have hk0 : 0 ≤ (k2 : Int) := by omega
          obtain ⟨g0, o0, rfl, hg0, hc0⟩ := slA_at (slA_below H.out B.out) (k := k2) (by rw [HZ.out]; exact hlt)
          obtain ⟨g1, o1, rfl, hg1, hc1⟩ := slA_at SX.out (k := k2) (by rw [HZ.out]; exact hlt)
          have cx := hc0 k2 (by rw [HZ.out]; exact hlt)
          have cy := hc1 k2 (by rw [HZ.out]; exact hlt)
          generalize zs.getD k2 0 = x at *
          clear hc0 hc1
          go_wp2_with fail
          go_quiet (fail)
          have B3 := Lib.hid (below_draws B.out nq)
          have M3 := Lib.hid (slA_draws SM.out nq)
          have X3 := Lib.hid (slA_draws SX.out nq)
          clear B SM SX cx cy
          generalize wr.drewN nq = w4 at *
          go_wp2_with fail
          go_roundg (2 * m - (k2 + 1))
          case measure => omega
          case rel => exact ⟨k2 + 1, by omega, by omega, by go_num, B3.out, M3.out, X3.out⟩
        · have hltz : ¬ (k2 : Int) < 2 * (m : Int) := by omega
          have cg := join_arg am a1 m n1 cm c1 wr (fun e => hne e.symm)
          have HB := Lib.hid B.out
          have h5 : ((n1 : Int) != (m : Int)) = true := by simp; omega
          have h6 : (n1 != m) = true := by simp; omega
          have h7 : decide (n1 = m) = false := by simp; omega
          clear hgk hgk2
          go_wp2_with fail
          refine cg.mono ?_
          rintro e w5 ⟨rfl, B5⟩
          have HB5 := Lib.hid (bnext HB.out B5)
          clear cg B5 HB B
          go_wp2_with fail
          go_ret
          exact ⟨rfl, HB5.out⟩

set_option maxRecDepth 20000 in
set_option maxHeartbeats 8000000 in
theorem mj_range (a0 a1 : Option Addr) (m c0 n1 c1 : Nat) (zs ys : List Int) (w : World) (hn : 2 * m ≤ 400) (hn1 : n1 ≤ 400) (hc : 2 * m ≤ c0) (hc2 : c0 ≤ 9223372036854775807) (hz : zs.length = 2 * m) (h : SlA w a0 zs) (k0 : a0 = none → c0 = 0) (hi : ∀ z ∈ zs, -1048576 ≤ z ∧ z ≤ 1048576) (hne : n1 = m) (hy : ys.length = n1) (h1' : SlA w a1 ys) (k1 : a1 = none → c1 = 0) (hj : ∀ z ∈ ys, -9223372036854775808 ≤ z ∧ z ≤ 9223372036854775807) (hg : ys.any (beyond 16777216) = true) :
    Calls Try.prog 16 #[.slice a0 (2 * m : Nat) c0, .slice a1 n1 c1] w (LawTrue w) := by
  have h1 : ¬ (400 : Int) < (2 * m : Nat) := by omega
  have h2 : ¬ (400 : Int) < n1 := by omega
  have h3 : (((2 * m : Nat) : Int) % 2 == 1) = false := by simp
  have h4 : (2 * (m : Int)) % 2 = 0 := by omega
  have cs := split_ok a0 m c0 zs w (by omega) hc hc2 hz h k0 hi
  have cj := fun am ad cm cd (W : World) (e1 : SlA W am (midsL zs m)) (e2 : SlA W ad (sidesL zs m)) f1 f2 => join_ok am ad m cm cd (midsL zs m) (sidesL zs m) W (by omega) (midsL_len zs m) (sidesL_len zs m) e1 f1 e2 f2 (midsL_in hi) (sidesL_in hi)
  rw [join_split zs hz] at cj
  obtain rfl : m = n1 := hne.symm
  have HO := Lib.hid h1'
  have HY := Lib.hid hy
  have HJ := Lib.hid hj
  have HG := Lib.hid hg
  have K1 := Lib.hid k1
  clear h1' hy hj hg k1
  have H := Lib.hid h
  have HZ := Lib.hid hz
  have HI := Lib.hid hi
  clear h hz hi k0
  have CJ := Lib.hid cj
  clear cj
  go_enter Try.func16, Try.ntmps16
  go_wp2_with (first | (go_at_call 19; refine (awakeM_calls _).mono ?_; rintro e w' ⟨rfl, rfl⟩))
  refine cs.mono ?_
  rintro e w1 ⟨vm, vs, rfl, O1, O2, B⟩
  obtain ⟨am, cm, rfl, hl1, S1, ka⟩ := slA_row O1
  obtain ⟨ad, cd, rfl, hl2, S2, kb⟩ := slA_row O2
  rw [hl1, hl2]
  have S1' := Lib.hid S1
  have S2' := Lib.hid S2
  have HB := Lib.hid B
  have KA := Lib.hid ka
  have KB := Lib.hid kb
  clear cs O1 O2 S1 S2 B hl1 hl2 ka kb
  go_wp2_with fail
  go_loopg [8] (2 * m) (fun gg s8 wr => ∃ kk : Nat, kk ≤ 2 * m ∧ 2 * m - kk ≤ gg ∧ s8 = .int .i64 kk ∧ Aside (wr = w1))
  case atStart => exact ⟨0, Nat.zero_le _, by omega, rfl, rfl⟩
  case round =>
    obtain ⟨kk, hkk, hgk, rfl, E⟩ := hrel
    obtain rfl := E.out.symm
    clear E
    by_cases hlt : kk < 2 * m
    · have hltz : (kk : Int) < 2 * (m : Int) := by omega
      have hk0 : 0 ≤ (kk : Int) := by omega
      obtain ⟨g0, o0, rfl, hg0, hc0⟩ := slA_at (slA_below H.out HB.out) (k := kk) (by rw [HZ.out]; exact hlt)
      have cx := hc0 kk (by rw [HZ.out]; exact hlt)
      have hx := getD_in (b := 1048576) (by omega) HI.out kk
      generalize zs.getD kk 0 = x at *
      clear hc0
      have hlo : ¬ x < -1048576 := by omega
      have hhi : ¬ 1048576 < x := by omega
      go_wp2_with fail
      go_roundg (2 * m - (kk + 1))
      case measure => omega
      case rel => exact ⟨kk + 1, by omega, by omega, by go_num, rfl⟩
    · have hltz : ¬ (kk : Int) < 2 * (m : Int) := by omega
      have cj := CJ.out am ad cm cd w1 S1'.out S2'.out KA.out KB.out
      clear CJ
      go_wp2_with fail
      refine cj.mono ?_
      rintro e w2 ⟨vx, rfl, O3, B2⟩
      obtain ⟨ax, cx, rfl, hl3, S3, _⟩ := slA_row O3
      rw [hl3]
      have HB2 := Lib.hid (bnext HB.out B2)
      have HM := Lib.hid (slA_below S1'.out B2)
      have S3' := Lib.hid S3
      clear cj O3 S3 hl3 S1' S2' HB B2
      rename_i kx
      clear kx
      go_wp2_with fail
      go_loopg [11] (2 * m) (fun gg s11 wr => ∃ kk : Nat, kk ≤ 2 * m ∧ 2 * m - kk ≤ gg ∧ s11 = .int .i64 kk ∧ Aside (Below w.heap.size w wr) ∧ Aside (SlA wr am (midsL zs m)) ∧ Aside (SlA wr ax zs))
      case atStart => exact ⟨0, Nat.zero_le _, by omega, rfl, HB2.out, HM.out, S3'.out⟩
      case round =>
        clear HB2 HM S3' hlt hltz hkk
        obtain ⟨k2, hkk, hgk2, rfl, B, SM, SX⟩ := hrel
        by_cases hlt : k2 < 2 * m
        · have hltz : (k2 : Int) < 2 * (m : Int) := by omega
          have hk0 : 0 ≤ (k2 : Int) := by omega
          obtain ⟨g0, o0, rfl, hg0, hc0⟩ := slA_at (slA_below H.out B.out) (k := k2) (by rw [HZ.out]; exact hlt)
          obtain ⟨g1, o1, rfl, hg1, hc1⟩ := slA_at SX.out (k := k2) (by rw [HZ.out]; exact hlt)
          have cx := hc0 k2 (by rw [HZ.out]; exact hlt)
          have cy := hc1 k2 (by rw [HZ.out]; exact hlt)
          generalize zs.getD k2 0 = x at *
          clear hc0 hc1
          go_wp2_with fail
          go_quiet (fail)
          have B3 := Lib.hid (below_draws B.out nq)
          have M3 := Lib.hid (slA_draws SM.out nq)
          have X3 := Lib.hid (slA_draws SX.out nq)
          clear B SM SX cx cy
          generalize wr.drewN nq = w4 at *
          go_wp2_with fail
          go_roundg (2 * m - (k2 + 1))
          case measure => omega
          case rel => exact ⟨k2 + 1, by omega, by omega, by go_num, B3.out, M3.out, X3.out⟩
        · have hltz : ¬ (k2 : Int) < 2 * (m : Int) := by omega
          have cg := join_great am a1 m cm c1 (midsL zs m) ys wr (by omega) (midsL_len zs m) HY.out (src2_of (midsL_len zs m) SM.out KA.out) (src2_of HY.out (slA_below HO.out B.out) K1.out) (fun z hz => by have := midsL_in HI.out z hz; omega) HJ.out (by rw [List.any_append, HG.out, Bool.or_true])
          have HB := Lib.hid B.out
          clear hgk hgk2
          go_wp2_with fail
          refine cg.mono ?_
          rintro e w5 ⟨rfl, B5⟩
          have HB5 := Lib.hid (bnext HB.out B5)
          clear cg B5 HB B SM SX
          go_wp2_with fail
          go_loopg [14] m (fun gg s14 wr => ∃ kk : Nat, kk ≤ m ∧ m - kk ≤ gg ∧ s14 = .int .i64 kk ∧ Aside (wr = w5) ∧ Aside (∀ j, j < kk → beyond 16777216 (ys.getD j 0) = false))
          case atStart => exact ⟨0, Nat.zero_le _, by omega, rfl, rfl, fun j hj => absurd hj (Nat.not_lt_zero _)⟩
          case round =>
            clear hlt hltz hkk
            obtain ⟨k3, hkk, hgk3, rfl, E, A⟩ := hrel
            obtain rfl := E.out.symm
            clear E
            by_cases hlt : k3 < m
            · have hltz : (k3 : Int) < m := by omega
              have hk0 : 0 ≤ (k3 : Int) := by omega
              obtain ⟨g0, o0, rfl, hg0, hc0⟩ := slA_at (slA_below HO.out HB5.out) (k := k3) (by rw [HY.out]; exact hlt)
              have cx := hc0 k3 (by rw [HY.out]; exact hlt)
              obtain ⟨x, hx⟩ : ∃ x, x = ys.getD k3 0 := ⟨_, rfl⟩
              rw [← hx] at cx
              have HX := Lib.hid hx
              clear hc0 hx
              by_cases hlo : x < -16777216
              · go_wp2_with fail
                go_ret
                exact ⟨rfl, HB5.out⟩
              · by_cases hhi : 16777216 < x
                · go_wp2_with fail
                  go_ret
                  exact ⟨rfl, HB5.out⟩
                · go_wp2_with fail
                  go_roundg (m - (k3 + 1))
                  case measure => omega
                  case rel =>
                    refine ⟨k3 + 1, by omega, by omega, by go_num, rfl, (show Aside _ from fun j hj => ?_)⟩
                    by_cases e : j = k3
                    · subst e
                      rw [← HX.out]
                      exact beyond_in (by omega) (by omega)
                    · exact A.out j (by omega)
            · have := any_miss (fun k hk => A.out k (by have := HY.out; omega)) (p := beyond 16777216) (zs := ys)
              rw [HG.out] at this
              cases this

set_option maxRecDepth 20000 in
set_option maxHeartbeats 8000000 in
theorem mj_ok (a0 a1 : Option Addr) (m c0 n1 c1 : Nat) (zs ys : List Int) (w : World) (hn : 2 * m ≤ 400) (hn1 : n1 ≤ 400) (hc : 2 * m ≤ c0) (hc2 : c0 ≤ 9223372036854775807) (hz : zs.length = 2 * m) (h : SlA w a0 zs) (k0 : a0 = none → c0 = 0) (hi : ∀ z ∈ zs, -1048576 ≤ z ∧ z ≤ 1048576) (hne : n1 = m) (hy : ys.length = n1) (h1' : SlA w a1 ys) (k1 : a1 = none → c1 = 0) (hj : ∀ z ∈ ys, -16777216 ≤ z ∧ z ≤ 16777216) :
    Calls Try.prog 16 #[.slice a0 (2 * m : Nat) c0, .slice a1 n1 c1] w (LawTrue w) := by
  have h1 : ¬ (400 : Int) < (2 * m : Nat) := by omega
  have h2 : ¬ (400 : Int) < n1 := by omega
  have h3 : (((2 * m : Nat) : Int) % 2 == 1) = false := by simp
  have h4 : (2 * (m : Int)) % 2 = 0 := by omega
  have cs := split_ok a0 m c0 zs w (by omega) hc hc2 hz h k0 hi
  have cj := fun am ad cm cd (W : World) (e1 : SlA W am (midsL zs m)) (e2 : SlA W ad (sidesL zs m)) f1 f2 => join_ok am ad m cm cd (midsL zs m) (sidesL zs m) W (by omega) (midsL_len zs m) (sidesL_len zs m) e1 f1 e2 f2 (midsL_in hi) (sidesL_in hi)
  rw [join_split zs hz] at cj
  obtain rfl : m = n1 := hne.symm
  have HO := Lib.hid h1'
  have HY := Lib.hid hy
  have HJ := Lib.hid hj
  have K1 := Lib.hid k1
  clear h1' hy hj k1
  have H := Lib.hid h
  have HZ := Lib.hid hz
  have HI := Lib.hid hi
  clear h hz hi k0
  have CJ := Lib.hid cj
  clear cj
  go_enter Try.func16, Try.ntmps16
  go_wp2_with (first | (go_at_call 19; refine (awakeM_calls _).mono ?_; rintro e w' ⟨rfl, rfl⟩))
  refine cs.mono ?_
  rintro e w1 ⟨vm, vs, rfl, O1, O2, B⟩
  obtain ⟨am, cm, rfl, hl1, S1, ka⟩ := slA_row O1
  obtain ⟨ad, cd, rfl, hl2, S2, kb⟩ := slA_row O2
  rw [hl1, hl2]
  have S1' := Lib.hid S1
  have S2' := Lib.hid S2
  have HB := Lib.hid B
  have KA := Lib.hid ka
  have KB := Lib.hid kb
  clear cs O1 O2 S1 S2 B hl1 hl2 ka kb
  go_wp2_with fail
  go_loopg [8] (2 * m) (fun gg s8 wr => ∃ kk : Nat, kk ≤ 2 * m ∧ 2 * m - kk ≤ gg ∧ s8 = .int .i64 kk ∧ Aside (wr = w1))
  case atStart => exact ⟨0, Nat.zero_le _, by omega, rfl, rfl⟩
  case round =>
    obtain ⟨kk, hkk, hgk, rfl, E⟩ := hrel
    obtain rfl := E.out.symm
    clear E
    by_cases hlt : kk < 2 * m
    · have hltz : (kk : Int) < 2 * (m : Int) := by omega
      have hk0 : 0 ≤ (kk : Int) := by omega
      obtain ⟨g0, o0, rfl, hg0, hc0⟩ := slA_at (slA_below H.out HB.out) (k := kk) (by rw [HZ.out]; exact hlt)
      have cx := hc0 kk (by rw [HZ.out]; exact hlt)
      have hx := getD_in (b := 1048576) (by omega) HI.out kk
      generalize zs.getD kk 0 = x at *
      clear hc0
      have hlo : ¬ x < -1048576 := by omega
      have hhi : ¬ 1048576 < x := by omega
      go_wp2_with fail
      go_roundg (2 * m - (kk + 1))
      case measure => omega
      case rel => exact ⟨kk + 1, by omega, by omega, by go_num, rfl⟩
    · have hltz : ¬ (kk : Int) < 2 * (m : Int) := by omega
      have cj := CJ.out am ad cm cd w1 S1'.out S2'.out KA.out KB.out
      clear CJ
      go_wp2_with fail
      refine cj.mono ?_
      rintro e w2 ⟨vx, rfl, O3, B2⟩
      obtain ⟨ax, cx, rfl, hl3, S3, _⟩ := slA_row O3
      rw [hl3]
      have HB2 := Lib.hid (bnext HB.out B2)
      have HM := Lib.hid (slA_below S1'.out B2)
      have S3' := Lib.hid S3
      clear cj O3 S3 hl3 S1' S2' HB B2
      rename_i kx
      clear kx
      go_wp2_with fail
      go_loopg [11] (2 * m) (fun gg s11 wr => ∃ kk : Nat, kk ≤ 2 * m ∧ 2 * m - kk ≤ gg ∧ s11 = .int .i64 kk ∧ Aside (Below w.heap.size w wr) ∧ Aside (SlA wr am (midsL zs m)) ∧ Aside (SlA wr ax zs))
      case atStart => exact ⟨0, Nat.zero_le _, by omega, rfl, HB2.out, HM.out, S3'.out⟩
      case round =>
        clear HB2 HM S3' hlt hltz hkk
        obtain ⟨k2, hkk, hgk2, rfl, B, SM, SX⟩ := hrel
        by_cases hlt : k2 < 2 * m
        · have hltz : (k2 : Int) < 2 * (m : Int) := by omega
          have hk0 : 0 ≤ (k2 : Int) := by omega
          obtain ⟨g0, o0, rfl, hg0, hc0⟩ := slA_at (slA_below H.out B.out) (k := k2) (by rw [HZ.out]; exact hlt)
          obtain ⟨g1, o1, rfl, hg1, hc1⟩ := slA_at SX.out (k := k2) (by rw [HZ.out]; exact hlt)
          have cx := hc0 k2 (by rw [HZ.out]; exact hlt)
          have cy := hc1 k2 (by rw [HZ.out]; exact hlt)
          generalize zs.getD k2 0 = x at *
          clear hc0 hc1
          go_wp2_with fail
          go_quiet (fail)
          have B3 := Lib.hid (below_draws B.out nq)
          have M3 := Lib.hid (slA_draws SM.out nq)
          have X3 := Lib.hid (slA_draws SX.out nq)
          clear B SM SX cx cy
          generalize wr.drewN nq = w4 at *
          go_wp2_with fail
          go_roundg (2 * m - (k2 + 1))
          case measure => omega
          case rel => exact ⟨k2 + 1, by omega, by omega, by go_num, B3.out, M3.out, X3.out⟩
        · have hltz : ¬ (k2 : Int) < 2 * (m : Int) := by omega
          have cg := join_ok am a1 m cm c1 (midsL zs m) ys wr (by omega) (midsL_len zs m) HY.out SM.out KA.out (slA_below HO.out B.out) K1.out (midsL_in HI.out) HJ.out
          have HB := Lib.hid B.out
          clear hgk hgk2
          go_wp2_with fail
          refine cg.mono ?_
          rintro e w5 ⟨vy, rfl, O5, B5⟩
          obtain ⟨ay, cy, rfl, hl5, _, _⟩ := slA_row O5
          rw [hl5]
          have HB5 := Lib.hid (bnext HB.out B5)
          clear cg B5 HB B SM SX O5 hl5
          rename_i sy ky
          clear sy ky
          go_wp2_with fail
          go_loopg [14] m (fun gg s14 wr => ∃ kk : Nat, kk ≤ m ∧ m - kk ≤ gg ∧ s14 = .int .i64 kk ∧ Aside (wr = w5))
          case atStart => exact ⟨0, Nat.zero_le _, by omega, rfl, rfl⟩
          case round =>
            clear hlt hltz hkk
            obtain ⟨k3, hkk, hgk3, rfl, E⟩ := hrel
            obtain rfl := E.out.symm
            clear E
            by_cases hlt : k3 < m
            · have hltz : (k3 : Int) < m := by omega
              have hk0 : 0 ≤ (k3 : Int) := by omega
              obtain ⟨g0, o0, rfl, hg0, hc0⟩ := slA_at (slA_below HO.out HB5.out) (k := k3) (by rw [HY.out]; exact hlt)
              have cx := hc0 k3 (by rw [HY.out]; exact hlt)
              have hx := getD_in (b := 16777216) (by omega) HJ.out k3
              generalize ys.getD k3 0 = x at *
              clear hc0
              have hlo : ¬ x < -16777216 := by omega
              have hhi : ¬ 16777216 < x := by omega
              go_wp2_with fail
              go_roundg (m - (k3 + 1))
              case measure => omega
              case rel => exact ⟨k3 + 1, by omega, by omega, by go_num, rfl⟩
            · have hltz : ¬ (k3 : Int) < m := by omega
              go_wp2_with fail
              go_ret
              exact ⟨ret_true (by simp), HB5.out⟩

theorem midJoins_walk (a0 : Option Addr) (n0 c0 : Nat) (zs : List Int) (a1 : Option Addr) (n1 c1 : Nat) (ys : List Int) (w : World)
    (l0 : zs.length = n0) (_ : n0 ≤ maxLen) (h : SlA w a0 zs) (w0 : ∀ z ∈ zs, (Lit.int .i64 z).wf = true) (k0 : a0 = none → c0 = 0) (kc : n0 ≤ c0 ∧ c0 ≤ maxLen)
    (l1 : ys.length = n1) (_ : n1 ≤ maxLen) (h' : SlA w a1 ys) (w1 : ∀ z ∈ ys, (Lit.int .i64 z).wf = true) (k1 : a1 = none → c1 = 0) (_ : n1 ≤ c1 ∧ c1 ≤ maxLen) :
    Calls Try.prog 16 #[.slice a0 n0 c0, .slice a1 n1 c1] w (LawTrue w) := by
  unfold maxLen at kc
  by_cases hn : 400 < n0 ∨ 400 < n1
  · exact mj_long a0 a1 n0 c0 n1 c1 w hn
  · rcases Nat.mod_two_eq_zero_or_one n0 with he | he
    · cases hg : zs.any (beyond 1048576) with
      | true => exact mj_great a0 a1 n0 c0 n1 c1 zs w (by omega) (by omega) he l0 h k0 (fun z hz => i64_bounds (w0 z hz)) hg
      | false =>
        obtain ⟨m, rfl⟩ : ∃ m, n0 = 2 * m := ⟨n0 / 2, by omega⟩
        by_cases hne : n1 = m
        · cases hg2 : ys.any (beyond 16777216) with
          | true => exact mj_range a0 a1 m c0 n1 c1 zs ys w (by omega) (by omega) kc.1 (by omega) l0 h k0 (beyond_any hg) hne l1 h' k1 (fun z hz => i64_bounds (w1 z hz)) hg2
          | false => exact mj_ok a0 a1 m c0 n1 c1 zs ys w (by omega) (by omega) kc.1 (by omega) l0 h k0 (beyond_any hg) hne l1 h' k1 (beyond_any hg2)
        · exact mj_arg a0 a1 m c0 n1 c1 zs ys w (by omega) (by omega) kc.1 (by omega) l0 h k0 (beyond_any hg) hne
    · exact mj_odd a0 a1 n0 c0 n1 c1 w (by omega) (by omega) he
end Go.Proofs.Ytnmhbonheaoldaa
