/- The walk of LapAlone. -/
import Derived.Test.YtlfiaaoegeodnaaLapT
import Derived.Deep.QuietTactic
import Derived.BigQuiet
namespace Go.Proofs.Ytlfiaaoegeodnaa
open Go.RowKit
attribute [local go_sem ↓] Go.wp_at_zero Go.wp_at_succ

theorem owns_belowS {w w' : World} {base n B size : Nat} {v : Value} {t : TypeId} {xs : List Value} (h : w.ownsRow base t size v n xs) (hb : Below B w w') (hB : w.heap.size ≤ B) : w'.ownsRow base t size v n xs := by
  obtain ⟨hl, h | ⟨g, cap, cur, rfl, h1, h2, h3⟩⟩ := h
  · exact ⟨hl, Or.inl h⟩
  · have hg : g < w.heap.size := (Array.getElem?_eq_some_iff.1 h2).1
    exact ⟨hl, Or.inr ⟨g, cap, cur, rfl, h1, (hb.block g (by omega)).trans h2, h3⟩⟩
theorem news_frame (w : World) (zs : List Int) : ∀ j u, (zs.map (Value.int .i64))[j]? = some u → (w.alloc (.cells (ints zs) 44)).cell? ((⟨w.heap.size, 0, none⟩ : Addr).add j) = some u := fun j u hu => by
  have hlt := (List.getElem?_eq_some_iff.1 hu).1
  rw [List.length_map] at hlt
  rw [Addr.add_mid, Nat.zero_add, blk_int (blk_new w 44 (ints zs)) hlt]
  rw [List.getElem?_map, List.getElem?_eq_getElem hlt] at hu
  simp only [Option.map_some, Option.some.injEq] at hu
  rw [← hu, List.getD_eq_getElem?_getD, List.getElem?_eq_getElem hlt, Option.getD_some]
theorem ints_one1 (zs : List Int) : ∀ u ∈ zs.map (Value.int .i64), u.oneCell' = true := fun u hu => by
  obtain ⟨z, _, rfl⟩ := List.mem_map.1 hu
  rfl

theorem blkP_ne {w : World} {g g' : Nat} {t t' : TypeId} {zs ys : List Int} (h : BlkP w g t zs) (h' : BlkP w g' t' ys) (ht : t ≠ t') : g ≠ g' := by
  rintro rfl
  obtain ⟨cs, h, _⟩ := h
  obtain ⟨cs', h', _⟩ := h'
  unfold Blk at h h'
  rw [h] at h'
  simp at h'
  exact ht h'.2

set_option maxHeartbeats 4000000 in
theorem lapAlone_walk (a0 : Option Addr) (n0 c0 : Nat) (rs : List (List Int)) (u1 : Int) (a2 : List Int) (w : World) (l0 : rs.length = n0) (m0 : n0 ≤ maxLen) (h : RowsA w a0 rs)
    (w0 : ∀ i, i < n0 → (rs.getD i []).length = 32 ∧ ∀ z ∈ rs.getD i [], (Lit.int .i64 z).wf = true) (w1 : (Lit.int .u8 u1).wf = true) (l2 : a2.length = 32) (w2 : ∀ z ∈ a2, (Lit.int .i64 z).wf = true) :
    Calls Try.prog 22 #[.slice a0 n0 c0, .int .u8 u1, .agg (ints a2)] w (LawTrue w) := by
  have b1 : 0 ≤ u1 ∧ u1 ≤ 255 := by simp [Lit.wf, IntKind.min, IntKind.max, IntKind.signed, IntKind.bits] at w1; omega
  clear w1
  obtain ⟨cut, rfl⟩ : ∃ c : Nat, u1 = c := ⟨u1.toNat, by omega⟩
  have m1 : (n0 : Int) ≤ 9223372036854775807 := by unfold maxLen at m0; omega
  obtain ⟨inf, hinf, hzr, hsz, hby⟩ := info_parts (P := Try.prog) (e := 44) (z := .agg #[Value.int .i64 0, Value.int .i64 0, Value.int .i64 0, Value.int .i64 0, Value.int .i64 0, Value.int .i64 0, Value.int .i64 0, Value.int .i64 0, Value.int .i64 0, Value.int .i64 0, Value.int .i64 0, Value.int .i64 0, Value.int .i64 0, Value.int .i64 0, Value.int .i64 0, Value.int .i64 0, Value.int .i64 0, Value.int .i64 0, Value.int .i64 0, Value.int .i64 0, Value.int .i64 0, Value.int .i64 0, Value.int .i64 0, Value.int .i64 0, Value.int .i64 0, Value.int .i64 0, Value.int .i64 0, Value.int .i64 0, Value.int .i64 0, Value.int .i64 0, Value.int .i64 0, Value.int .i64 0]) (size := 32) (bytes := 256) (by kernel_rfl)
  have ch := fun i (hi : i < n0) W => lawheld_calls (rs.getD i []) W (w0 i hi).1 (wf_i64' (w0 i hi).2)
  have cho := fun W => lawheld_calls a2 W l2 (wf_i64' w2)
  have hxl := modL_len a2
  have hxi := modL_in a2
  have CH := Lib.hid ch
  have R0 := Lib.hid (rowsA_below h ((Below.refl _ w).alloc (Nat.le_refl _) (.cells (ints a2) 43)))
  have K0 := Lib.hid (blk_new w 43 (ints a2))
  have L0 := Lib.hid l0
  have W0 := Lib.hid fun i hi => (w0 i hi).1
  have L2 := Lib.hid l2
  have BA := Lib.hid ((Below.refl w.heap.size w).alloc (Nat.le_refl _) (.cells (ints a2) 43))
  clear ch w0 w2 h l0 l2
  generalize modL a2 = x at *
  have HXL := Lib.hid hxl
  have HXI := Lib.hid hxi
  have HIF := Lib.hid (⟨hinf, hzr, hsz, hby⟩ : _ ∧ _ ∧ _ ∧ _)
  clear hxl hxi hinf hzr hsz hby m0
  go_enter Try.func22, Try.ntmps22
  go_wp2_with fail
  refine (awake11_calls _).mono ?_
  rintro e w1 ⟨rfl, hB⟩
  have R1 := Lib.hid (rowsA_below R0.out hB)
  have K1 := Lib.hid (blk_below K0.out hB (blk_lt K0.out))
  have BB := Lib.hid (BA.out.trans (hB.mono BA.out.size))
  clear R0 K0 BA hB
  by_cases hn0 : n0 = 0
  · subst hn0
    go_wp2_with fail
    refine (awake11_calls _).mono ?_
    rintro e w2 ⟨rfl, hB⟩
    have B2 := Lib.hid (bnext BB.out hB)
    clear hB
    go_wp2_with fail
    go_ret
    exact ⟨rfl, B2.out⟩
  by_cases hn12 : 12 < n0
  · have hz1 : ¬ (n0 : Int) = 0 := by omega
    have hz2 : (12 : Int) < n0 := by omega
    go_wp2_with fail
    refine (awake11_calls _).mono ?_
    rintro e w2 ⟨rfl, hB⟩
    have B2 := Lib.hid (bnext BB.out hB)
    clear hB
    go_wp2_with fail
    go_ret
    exact ⟨rfl, B2.out⟩
  have hz1 : ¬ (n0 : Int) = 0 := by omega
  have hz2 : ¬ (12 : Int) < n0 := by omega
  have hfl : (rs.map modL).length = n0 := by rw [List.length_map, L0.out]
  have h32 : All32 (rs.map modL) := fun i hi => by
    rw [List.length_map] at hi
    rw [map_getD modL hi, modL_len]
  have hin : ∀ i, AllIn 16777216 ((rs.map modL).getD i []) := fun i => by
    rcases Nat.lt_or_ge i rs.length with hi | hi
    · rw [map_getD modL hi]; exact modL_in _
    · rw [List.getD_eq_getElem?_getD, List.getElem?_eq_none (by rw [List.length_map]; exact hi)]
      intro z hz
      simp at hz
  have htk : ∀ kk, kk < n0 → flat ((rs.map modL).take (kk + 1)) = flat ((rs.map modL).take kk) ++ modL (rs.getD kk []) := fun kk hk => by
    have hk2 : kk < rs.length := by rw [L0.out]; exact hk
    have e : (rs.map modL)[kk]'(by rw [hfl]; exact hk) = modL (rs.getD kk []) := by rw [List.getElem_map, List.getD_eq_getElem?_getD, List.getElem?_eq_getElem hk2, Option.getD_some]
    rw [List.take_succ_eq_append_getElem (by rw [hfl]; exact hk), e, flat_append (modL_len _)]
  have HFL := Lib.hid hfl
  have H32 := Lib.hid h32
  have HIN := Lib.hid hin
  have HTK := Lib.hid htk
  clear hfl h32 hin htk
  have hz3 : ((n0 : Int) == 0) = false := by simp; omega
  have hz4 : (n0 : Int) ≤ 12 := by omega
  have HO := Lib.hid (World.ownsRow_nil w1 w1.heap.size 44 32)
  go_wp2_with fail
  go_loopg [7, 8] n0 (fun gg s7 s8 wr => ∃ kk : Nat, kk ≤ n0 ∧ n0 - kk ≤ gg ∧ s8 = .int .i64 kk ∧ Aside (Below w1.heap.size w1 wr) ∧ Aside (wr.ownsRow w1.heap.size 44 32 s7 kk ((flat ((rs.map modL).take kk)).map (Value.int .i64))))
  case atStart => exact ⟨0, Nat.zero_le _, by omega, rfl, Below.refl _ w1, HO.out⟩
  case round =>
    clear HO
    obtain ⟨kk, hkk, hgk, rfl, B, O⟩ := hrel
    by_cases hlt : kk < n0
    · have hltz : (kk : Int) < n0 := by omega
      have hk0 : 0 ≤ (kk : Int) := by omega
      rcases rowsA_below R1.out B.out with hb | ⟨g0, o0, rfl, hg0, hcs⟩
      · have hl0 := L0.out
        rw [hb, List.length_nil] at hl0
        omega
      have hr := Lib.hid (hcs kk (by rw [L0.out]; exact hlt))
      have hch := CH.out kk hlt
      have hrl := W0.out kk hlt
      have hm := modL_len (rs.getD kk [])
      have HT := Lib.hid (HTK.out kk hlt)
      clear hcs
      generalize rs.getD kk [] = r at *
      generalize modL r = m at *
      have hinf2 : (Try.prog.info? 43).map (·.size) = some (r.map (Value.int .i64)).length := by rw [List.length_map, hrl]; kernel_rfl
      have HI2 := Lib.hid hinf2
      have HM := Lib.hid hm
      clear hrl hinf2 hm
      go_wp2_with (first | (refine wpList_load_mid rfl 43 _ rfl g0 (o0 + kk * 32) rfl (r.map (Value.int .i64)) _ hr.out Try.underlying43 rfl HI2.out ?_))
      refine (hch _).mono ?_
      rintro e w3 ⟨rfl, hB⟩
      have B3 := Lib.hid (bnext B.out hB)
      have O3 := Lib.hid (owns_belowS O.out hB (Nat.le_refl _))
      have hs3 := B3.out.size
      clear hB hch B O hr HI2
      go_wp2_with (first | (refine wpList_build_frame _ rfl _ rfl m HM.out rfl ?_) | (at_builtin; refine wpList_append_own _ rfl _ _ 54 rfl w1.heap.size 44 inf (.agg #[Value.int .i64 0, Value.int .i64 0, Value.int .i64 0, Value.int .i64 0, Value.int .i64 0, Value.int .i64 0, Value.int .i64 0, Value.int .i64 0, Value.int .i64 0, Value.int .i64 0, Value.int .i64 0, Value.int .i64 0, Value.int .i64 0, Value.int .i64 0, Value.int .i64 0, Value.int .i64 0, Value.int .i64 0, Value.int .i64 0, Value.int .i64 0, Value.int .i64 0, Value.int .i64 0, Value.int .i64 0, Value.int .i64 0, Value.int .i64 0, Value.int .i64 0, Value.int .i64 0, Value.int .i64 0, Value.int .i64 0, Value.int .i64 0, Value.int .i64 0, Value.int .i64 0, Value.int .i64 0]) 32 256 Try.underlying54 HIF.out.1 HIF.out.2.1 HIF.out.2.2.1 HIF.out.2.2.2 (by kernel_rfl) (by decide) _ kk _ rfl (O3.out.alloc _) ⟨w3.heap.size, 0, none⟩ 1 1 (m.map (Value.int .i64)) rfl (by rw [List.length_map, HM.out]) (news_frame _ _) (ints_one1 _) (by unfold maxLen; omega) (by omega) (by simp; omega) ?_; intro v' w5 hown' hgrow _))
      have hol := O3.out.lt
      have B5 := Lib.hid ((B3.out.alloc hs3 (.cells (ints m) 44)).grown hgrow (by simp; omega) (fun k e => (hol k e).1))
      rw [← List.map_append, ← HT.out] at hown'
      have O5 := Lib.hid hown'
      clear hown' hgrow hol O3 B3 HT
      go_roundg (n0 - (kk + 1))
      case measure => omega
      case rel => exact ⟨kk + 1, by omega, by omega, by go_num, B5.out, O5.out⟩
    · have hltz : ¬ (kk : Int) < n0 := by omega
      obtain rfl : n0 = kk := by omega
      have hO := O.out
      rw [List.take_of_length_le (by rw [HFL.out]; omega)] at hO
      obtain ⟨g, c, rfl, hg, hP⟩ := blkP_owns hO (by omega)
      have P2 := Lib.hid hP
      have B2 := Lib.hid B.out
      have K2 := Lib.hid (blk_below K1.out B.out (blk_lt K1.out))
      have hgw := blk_lt K1.out
      have cs := Lib.hid fun W hW => samples_calls g n0 c (rs.map modL) W (by omega) (by omega) HFL.out H32.out HIN.out hW
      clear hO hP O B K1 R1 CH HTK W0 hlt hltz hkk hgk
      generalize hfe : rs.map modL = fs at *
      generalize hk : cut % n0 = k at *
      have hkn : k < n0 := by rw [← hk]; exact Nat.mod_lt _ (by omega)
      have hkz : (cut : Int) % (n0 : Int) = k := by rw [← hk]; push_cast; rfl
      clear hk hfe
      have hgl : (fs.set k x).length = n0 := by rw [List.length_set, HFL.out]
      have hg32 : All32 (fs.set k x) := all32_set H32.out k HXL.out
      have hgi : ∀ i, AllIn 16777216 ((fs.set k x).getD i []) := fun i => by
        rw [frames_getD_set]
        split
        · exact HXI.out
        · exact HIN.out i
      have cs2 := Lib.hid fun W hW => samples_calls g n0 c (fs.set k x) W (by omega) (by omega) hgl hg32 hgi hW
      have hal := Lib.hid fun p (hp : p < 32 * n0) (hk : p + 16 < 32 * k ∨ 32 * k + 48 ≤ p) => samples_alone (fs := fs) (gs := fs.set k x) (k := k) (p := p) (by rw [List.length_set]) H32.out hg32 (fun i hi => by rw [frames_getD_set, if_neg (by omega)]) (by rw [HFL.out]; exact hp) hk
      have hsl : (samplesL fs).length = 32 * n0 := by unfold samplesL; rw [flat_len, seamTo_len, List.length_map, HFL.out]
      have hsl2 : (samplesL (fs.set k x)).length = 32 * n0 := by unfold samplesL; rw [flat_len, seamTo_len, List.length_map, hgl]
      have HS1 := Lib.hid hsl
      have HS2 := Lib.hid hsl2
      clear hgl hg32 hgi hsl hsl2
      go_wp2_with fail
      refine (cs.out _ P2.out).mono ?_
      rintro e w3 ⟨g3, c3, rfl, hY, hC⟩
      have P3 := Lib.hid (blkP_below P2.out hC (blkP_lt P2.out))
      have K3 := Lib.hid (blk_below K2.out hC (blk_lt K2.out))
      have B3 := Lib.hid (bnext B2.out hC)
      have Y3 := Lib.hid hY
      have hg3 := Nat.lt_of_lt_of_le (blkP_lt P2.out) (Nat.le_refl _)
      clear hY hC P2 B2 K2 cs
      generalize samplesL fs = y at *
      generalize samplesL (fs.set k x) = y2 at *
      have hk0 : 0 ≤ (k : Int) := by omega
      have hkz2 : (k : Int) < n0 := by omega
      go_wp2_with (first | (refine wpList_load_row rfl 43 _ rfl w.heap.size rfl 43 (ints a2) (0, 0) _ K3.out Try.underlying43 rfl (by rw [ints_size, L2.out]; kernel_rfl) ?_))
      refine (cho _).mono ?_
      rintro e w4 ⟨rfl, hC⟩
      have P4 := Lib.hid (blkP_below P3.out hC (blkP_lt P3.out))
      have Y4 := Lib.hid (blkP_below Y3.out hC (blkP_lt Y3.out))
      have B4 := Lib.hid (bnext B3.out hC)
      have hs4 := B4.out.size
      clear hC P3 Y3 B3 K3 cho
      have hne := blkP_ne P4.out Y4.out (by decide)
      have hgl4 := blkP_lt P4.out
      go_wp2_with (first | (refine wpList_store_mid rfl 44 _ _ rfl g (k * 32) (ints x) rfl rfl (by rw [ints_size, HXL.out]; exact frameP_there P4.out (by rw [HFL.out]; exact hkn) rfl) (by rw [ints_size, HXL.out]; kernel_rfl) (ints_one _) ?_))
      have k1 := frameP_store (i := k) P4.out (by rw [HFL.out]; exact hkn) HXL.out rfl
      have B5 := Lib.hid (below_grown B4.out k1.2 hs4 hg)
      have P5 := Lib.hid k1.1
      have Y5 := Lib.hid (blkP_grown Y4.out k1.2 (by intro e; cases e; exact hne rfl))
      clear k1 P4 Y4 B4 hne hgl4 hs4
      rw [ints_list]
      refine (cs2.out _ P5.out).mono ?_
      rintro e w6 ⟨g6, c6, rfl, hY, hC⟩
      have Y6 := Lib.hid (blkP_below Y5.out hC (blkP_lt Y5.out))
      have Z6 := Lib.hid hY
      have B6 := Lib.hid (bnext BB.out (bnext B5.out hC))
      clear hY hC Y5 P5 B5 BB cs2 HFL H32 HIN HXL HXI HIF L0 hkz hg hgw hg3
      go_wp2_with fail
      go_loopg [12] (32 * n0) (fun gg s12 wr => ∃ p : Nat, p ≤ 32 * n0 ∧ 32 * n0 - p ≤ gg ∧ s12 = .int .i64 p ∧ Aside (Below w.heap.size w wr) ∧ Aside (BlkP wr g3 3 y) ∧ Aside (BlkP wr g6 3 y2))
      case atStart => exact ⟨0, Nat.zero_le _, by omega, rfl, B6.out, Y6.out, Z6.out⟩
      case round =>
        clear B6 Y6 Z6
        obtain ⟨p, hp, hgp, rfl, B, Y, Z⟩ := hrel
        by_cases hlt : p < 32 * n0
        · have hltz : (p : Int) < 32 * (n0 : Int) := by omega
          have hp0 : 0 ≤ (p : Int) := by omega
          have cy := blkP_int Y.out (i := p) (by rw [HS1.out]; exact hlt)
          have cz := blkP_int Z.out (i := p) (by rw [HS2.out]; exact hlt)
          have hal2 := hal.out p hlt
          have hw1 : IntKind.i64.wrap (32 * (k : Int)) = 32 * k := IntWalk.i64_in _ ⟨by omega, by omega⟩
          have hw2 : IntKind.i64.wrap (32 * (k : Int) - 16) = 32 * k - 16 := IntWalk.i64_in _ ⟨by omega, by omega⟩
          have hw3 : IntKind.i64.wrap (32 * (k : Int) + 48) = 32 * k + 48 := IntWalk.i64_in _ ⟨by omega, by omega⟩
          by_cases h1 : (p : Int) < 32 * (k : Int) - 16
          · have hd1 : decide ((p : Int) < 32 * (k : Int) - 16) = true := by simpa using h1
            rw [← hal2 (by omega)] at cz
            generalize y.getD p 0 = v at *
            clear hal2
            go_wp2_with fail
            go_quiet (fail)
            have BB := Lib.hid (below_draws B.out nq)
            have YY := Lib.hid (blkP_draws Y.out nq)
            have ZZ := Lib.hid (blkP_draws Z.out nq)
            clear B Y Z cy cz hd1 hw1 hw2 hw3
            go_wp2_with fail
            go_roundg (32 * n0 - (p + 1))
            case measure => omega
            case rel => exact ⟨p + 1, by omega, by omega, by go_num, BB.out, YY.out, ZZ.out⟩
          · have hd1 : decide ((p : Int) < 32 * (k : Int) - 16) = false := by simpa using h1
            by_cases h2 : 32 * (k : Int) + 48 ≤ p
            · have hd2 : decide (32 * (k : Int) + 48 ≤ (p : Int)) = true := by simpa using h2
              rw [← hal2 (by omega)] at cz
              generalize y.getD p 0 = v at *
              clear hal2
              go_wp2_with fail
              go_quiet (fail)
              have BB := Lib.hid (below_draws B.out nq)
              have YY := Lib.hid (blkP_draws Y.out nq)
              have ZZ := Lib.hid (blkP_draws Z.out nq)
              clear B Y Z cy cz hd1 hd2 hw1 hw2 hw3
              go_wp2_with fail
              go_roundg (32 * n0 - (p + 1))
              case measure => omega
              case rel => exact ⟨p + 1, by omega, by omega, by go_num, BB.out, YY.out, ZZ.out⟩
            · have hd2 : decide (32 * (k : Int) + 48 ≤ (p : Int)) = false := by simpa using h2
              clear hal2
              go_wp2_with fail
              go_quiet (fail)
              have BB := Lib.hid (below_draws B.out nq)
              have YY := Lib.hid (blkP_draws Y.out nq)
              have ZZ := Lib.hid (blkP_draws Z.out nq)
              clear B Y Z cy cz hd1 hd2 hw1 hw2 hw3
              go_wp2_with fail
              go_roundg (32 * n0 - (p + 1))
              case measure => omega
              case rel => exact ⟨p + 1, by omega, by omega, by go_num, BB.out, YY.out, ZZ.out⟩
        · have hltz : ¬ (p : Int) < 32 * (n0 : Int) := by omega
          go_wp2_with fail
          go_ret
          exact ⟨rfl, B.out⟩
end Go.Proofs.Ytlfiaaoegeodnaa
