/- The contract of layer 11's Held; the walk of LapBack. -/
import Derived.Test.YtlfiaaoegeodnaaLapI
import Derived.Test.YtlfiaaoegeodnaaSlice
import Derived.Deep.QuietTactic
import Derived.BigQuiet
namespace Go.Proofs.Ytlfiaaoegeodnaa
open Go.RowKit
attribute [local go_sem ↓] Go.wp_at_zero Go.wp_at_succ

/-- samples brought into their range, as many as are looked at -/
def heldS (zs : List Int) : List Int := (zs.take 384).map fun z => z.tmod 1048577
theorem heldS_len (zs : List Int) : (heldS zs).length = min 384 zs.length := by simp [heldS]
theorem heldS_in (zs : List Int) : AllIn 1048576 (heldS zs) := by
  intro z hz
  simp only [heldS, List.mem_map] at hz
  obtain ⟨y, _, rfl⟩ := hz
  exact tmod_bd y (m := 1048576) (by omega)
theorem heldS_take (zs : List Int) {k : Nat} (hk : k < zs.length) (h2 : k < 384) : heldS (zs.take (k + 1)) = heldS (zs.take k) ++ [(zs.getD k 0).tmod 1048577] := by
  unfold heldS
  rw [List.take_take, List.take_take, show min 384 (k + 1) = k + 1 by omega, show min 384 k = k by omega, List.take_succ_eq_append_getElem hk, List.map_append, List.getD_eq_getElem?_getD, List.getElem?_eq_getElem hk]
  rfl
theorem wf_i64' {zs : List Int} (h : ∀ z ∈ zs, (Lit.int .i64 z).wf = true) : ∀ z ∈ zs, -9223372036854775808 ≤ z ∧ z ≤ 9223372036854775807 := fun z hz => i64_bounds (h z hz)
theorem slA_owns {w : World} {base n : Nat} {v : Value} {zs : List Int} (h : w.ownsRow base 3 1 v n (zs.map (Value.int .i64))) : ∃ a c, v = .slice a zs.length c ∧ zs.length = n ∧ SlA w a zs := by
  have hl := h.1
  rw [List.length_map] at hl
  by_cases hn : n = 0
  · subst hn
    have e : zs = [] := List.length_eq_zero_iff.1 (by omega)
    subst e
    obtain ⟨_, h | ⟨g, cap, cur, rfl, _⟩⟩ := h
    · exact ⟨none, 0, h.1, rfl, Or.inl rfl⟩
    · exact ⟨some ⟨g, 0, none⟩, cap, rfl, rfl, Or.inl rfl⟩
  · obtain ⟨g, c, rfl, _, hP⟩ := blkP_owns h (by omega)
    refine ⟨some ⟨g, 0, none⟩, c, ?_, by omega, blkP_slA hP⟩
    rw [show zs.length = n by omega]

set_option maxHeartbeats 2000000 in
theorem held11_calls (a : Option Addr) (n c : Nat) (zs : List Int) (w : World) (hz : zs.length = n) (hn : n ≤ maxLen) (h : SlA w a zs) (hi : ∀ z ∈ zs, -9223372036854775808 ≤ z ∧ z ≤ 9223372036854775807) :
    Calls Try.prog 55 #[.slice a n c] w fun e w' => ∃ a' c', e = .returned (.slice a' (heldS zs).length c') ∧ SlA w' a' (heldS zs) ∧ Below w.heap.size w w' := by
  unfold maxLen at hn
  obtain ⟨inf, hinf, hzr, hsz, hby⟩ := info_parts (P := Try.prog) (e := 3) (z := .int .i64 0) (size := 1) (bytes := 8) (by kernel_rfl)
  have H := Lib.hid h
  have HI := Lib.hid hi
  have HO := Lib.hid (World.ownsRow_nil w w.heap.size 3 1)
  clear h hi
  go_enter Try.func55, Try.ntmps55
  go_wp2_with fail
  go_loopg [3, 4] (min 384 n) (fun gg s3 s4 wr => ∃ kk : Nat, kk ≤ min 384 n ∧ min 384 n - kk ≤ gg ∧ s4 = .int .i64 kk ∧ Aside (Below w.heap.size w wr) ∧ Aside (wr.ownsRow w.heap.size 3 1 s3 kk ((heldS (zs.take kk)).map (Value.int .i64))))
  case atStart => exact ⟨0, Nat.zero_le _, by omega, rfl, Below.refl _ w, HO.out⟩
  case round =>
    clear HO
    obtain ⟨kk, hkk, hgk, rfl, B, O⟩ := hrel
    by_cases hlt : kk < min 384 n
    · have hltz : (kk : Int) < n := by omega
      have hlt3 : (kk : Int) < 384 := by omega
      have hk0 : 0 ≤ (kk : Int) := by omega
      obtain ⟨g0, o0, rfl, hg0, hcs⟩ := slA_at (slA_below H.out B.out) (k := kk) (by omega)
      have cx := hcs kk (by omega)
      have hx := HI.out (zs.getD kk 0) (by rw [List.getD_eq_getElem?_getD, List.getElem?_eq_getElem (by omega)]; exact List.getElem_mem (by omega))
      have HT := Lib.hid (heldS_take zs (k := kk) (by omega) (by omega))
      generalize zs.getD kk 0 = x at *
      have hbx := tmod_bd x (m := 1048576) (by omega)
      have hs := B.out.size
      clear hcs
      go_wp2_with (first | (at_builtin; refine wpList_append_own _ rfl _ _ 52 rfl w.heap.size 3 inf (.int .i64 0) 1 8 Try.underlying52 hinf hzr hsz hby rfl (by decide) _ kk _ rfl (O.out.alloc _) ⟨wr.heap.size, 0, none⟩ 1 1 [.int .i64 (x.tmod 1048577)] rfl rfl (cell_one_new _ _ _) (by simp [Value.oneCell']) (by unfold maxLen; omega) (by omega) (by simp; omega) ?_; intro v' w5 hown' hgrow _))
      have hol := O.out.lt
      have B5 := Lib.hid ((B.out.alloc hs (.cells #[.int .i64 (x.tmod 1048577)] 3)).grown hgrow (by simp; omega) (fun k e => (hol k e).1))
      rw [show [Value.int .i64 (x.tmod 1048577)] = [x.tmod 1048577].map (Value.int .i64) from rfl, ← List.map_append, ← HT.out] at hown'
      have O5 := Lib.hid hown'
      clear hown' hgrow hol O B
      go_wp2_with fail
      go_roundg (min 384 n - (kk + 1))
      case measure => omega
      case rel => exact ⟨kk + 1, by omega, by omega, by go_num, B5.out, O5.out⟩
    · have he : heldS (zs.take kk) = heldS zs := by
        unfold heldS
        rw [List.take_take]
        congr 1
        by_cases h3 : n ≤ 384
        · rw [List.take_of_length_le (by omega), List.take_of_length_le (by omega)]
        · rw [show min 384 kk = 384 by omega]
      have hO := O.out
      rw [he] at hO
      obtain ⟨a', c', hv, hl, hS⟩ := slA_owns hO
      rw [hl] at hv
      have HV := Lib.hid hv
      clear hO he hv
      by_cases hc : kk < n
      · have hltz : (kk : Int) < n := by omega
        have hlt3 : ¬ (kk : Int) < 384 := by omega
        go_wp2_with fail
        go_ret
        exact ⟨a', ⟨c', by rw [← HV.out]; rfl⟩, hS, B.out⟩
      · have hltz : ¬ (kk : Int) < n := by omega
        go_wp2_with fail
        go_ret
        exact ⟨a', ⟨c', by rw [← HV.out]; rfl⟩, hS, B.out⟩

theorem getD_beyond (zs : List Int) {i : Nat} (h : zs.length ≤ i) : zs.getD i 0 = 0 := by
  rw [List.getD_eq_getElem?_getD, List.getElem?_eq_none h]
  rfl

set_option maxHeartbeats 4000000 in
theorem lapBack_walk (a0 : Option Addr) (n0 c0 : Nat) (zs0 : List Int) (w : World) (l0 : zs0.length = n0) (m0 : n0 ≤ maxLen) (h : SlA w a0 zs0) (w0 : ∀ z ∈ zs0, (Lit.int .i64 z).wf = true) :
    Calls Try.prog 21 #[.slice a0 n0 c0] w (LawTrue w) := by
  have hx := heldS_in zs0
  have hxl := heldS_len zs0
  have ch := fun W (hW : SlA W a0 zs0) => held11_calls a0 n0 c0 zs0 W l0 m0 hW (wf_i64' w0)
  have H := Lib.hid h
  clear h w0 l0
  generalize heldS zs0 = x at *
  have hk384 : x.length ≤ 384 := by omega
  have cf := fun W a c (hW : SlA W a x) => frames_calls a x.length c x W rfl (by omega) hW hx
  have hcp := countN_pos x.length
  have hcr := countN_room x.length
  have hcc := fun W => count_calls (x.length : Int) W (by omega) (by omega)
  rw [countN_cast] at hcc
  have cs := fun g (W : World) (hW : BlkP W g 44 (flat (framesL x))) => samples_calls g (countN x.length) (countN x.length) (framesL x) W (by omega) (by omega) (framesL_len x) (framesL_all x) (framesL_in hx) hW
  have hsl : (samplesL (framesL x)).length = 32 * countN x.length := by rw [samples_frames, flat_len, framesOf_len]
  have hsg : ∀ p, p < 32 * countN x.length → (samplesL (framesL x)).getD p 0 = x.getD p 0 := fun p hp => by rw [samples_frames]; exact framesOf_at x hp
  have HSG := Lib.hid hsg
  have HSL := Lib.hid hsl
  clear hsg hx hsl hxl
  generalize countN x.length = m at *
  generalize samplesL (framesL x) = y at *
  generalize framesL x = fr at *
  generalize hkx : x.length = k at *
  have KX := Lib.hid hkx
  clear hkx
  go_enter Try.func21, Try.ntmps21
  go_wp2_with fail
  refine (awake11_calls _).mono ?_
  rintro e w1 ⟨rfl, hB⟩
  go_wp2_with fail
  refine (ch _ (slA_below H.out hB)).mono ?_
  rintro e w2 ⟨a1, c1, rfl, hS, hC⟩
  have B2 := bnext hB hC
  clear hB hC ch H
  go_wp2_with fail
  refine (cf _ _ _ hS).mono ?_
  rintro e w3 ⟨g, rfl, hg, hb, hC⟩
  have B3 := bnext B2 hC
  have S3 := slA_below hS hC
  clear B2 hC cf hS hg
  go_wp2_with fail
  refine (cs g _ (blkP_of hb)).mono ?_
  rintro e w4 ⟨g2, c2, rfl, hb2, hC⟩
  have B4 := Lib.hid (bnext B3 hC)
  have S4 := Lib.hid (slA_below S3 hC)
  have Y4 := Lib.hid hb2
  clear B3 hC cs S3 hb hb2
  go_wp2_with fail
  refine (hcc _).mono ?_
  rintro e w' ⟨rfl, rfl⟩
  clear hcc
  go_wp2_with fail
  go_loopg [7] (32 * m) (fun gg s7 wr => ∃ kk : Nat, kk ≤ 32 * m ∧ 32 * m - kk ≤ gg ∧ s7 = .int .i64 kk ∧ Aside (Below w.heap.size w wr) ∧ Aside (SlA wr a1 x) ∧ Aside (BlkP wr g2 3 y))
  case atStart => exact ⟨0, Nat.zero_le _, by omega, rfl, B4.out, S4.out, Y4.out⟩
  case round =>
    clear B4 S4 Y4
    obtain ⟨kk, hkk, hgk, rfl, B, S, Y⟩ := hrel
    by_cases hlt : kk < 32 * m
    · have hltz : (kk : Int) < 32 * (m : Int) := by omega
      have hk0 : 0 ≤ (kk : Int) := by omega
      have hyk := HSG.out kk hlt
      have cy := blkP_int Y.out (i := kk) (by rw [HSL.out]; exact hlt)
      rw [hyk] at cy
      clear hyk
      by_cases hx : kk < k
      · have hxz : (kk : Int) < k := by omega
        have hd1 : decide ((k : Int) ≤ kk) = false := by simpa using hxz
        have hd2 : decide (k ≤ kk) = false := by simpa using hx
        have hd3 : decide (kk < k) = true := by simpa using hx
        obtain ⟨g0, o0, rfl, hg0, hcs⟩ := slA_at S.out (k := kk) (by rw [KX.out]; exact hx)
        have cx := hcs kk (by rw [KX.out]; exact hx)
        generalize x.getD kk 0 = v at *
        clear hcs
        go_wp2_with fail
        go_quiet (fail)
        have BB := Lib.hid (below_draws B.out nq)
        have SS := Lib.hid (slA_draws S.out nq)
        have YY := Lib.hid (blkP_draws Y.out nq)
        clear B S Y cx cy hd1 hd2 hd3
        go_wp2_with fail
        go_roundg (32 * m - (kk + 1))
        case measure => omega
        case rel => exact ⟨kk + 1, by omega, by omega, by go_num, BB.out, SS.out, YY.out⟩
      · have hxz : ¬ (kk : Int) < k := by omega
        have hxz2 : (k : Int) ≤ kk := by omega
        have hd : decide ((kk : Int) < k) = false := by simpa using hxz
        have hd2 : decide (kk < k) = false := by simpa using hx
        have hd3 : decide (k ≤ kk) = true := by simpa using hx
        rw [getD_beyond x (by rw [KX.out]; omega)] at cy
        go_wp2_with fail
        go_quiet (fail)
        have BB := Lib.hid (below_draws B.out nq)
        have SS := Lib.hid (slA_draws S.out nq)
        have YY := Lib.hid (blkP_draws Y.out nq)
        clear B S Y cy hd hd2 hd3
        go_wp2_with fail
        go_roundg (32 * m - (kk + 1))
        case measure => omega
        case rel => exact ⟨kk + 1, by omega, by omega, by go_num, BB.out, SS.out, YY.out⟩
    · have hltz : ¬ (kk : Int) < 32 * (m : Int) := by omega
      go_wp2_with fail
      go_ret
      exact ⟨rfl, B.out⟩
end Go.Proofs.Ytlfiaaoegeodnaa
