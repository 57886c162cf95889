/- The contract of the reference's frames. -/
import Derived.Test.YtlfiaaoegeodnaaRefZ
namespace Go.Proofs.Ytlfiaaoegeodnaa
open Go.RowKit
attribute [local go_sem ↓] Go.wp_at_zero Go.wp_at_succ

theorem countN_strict (n : Nat) : 32 * countN n < n + 64 := by unfold countN; omega

set_option maxRecDepth 20000 in
set_option maxHeartbeats 8000000 in
theorem rframes_calls (a : Option Addr) (n c : Nat) (l : List Int) (w : World) (hl : l.length = n) (hn : n ≤ 384) (h : SlA w a l) (h0 : a = none → c = 0) (hi : AllIn 1048576 l) :
    Calls Try.prog 61 #[.slice a n c] w fun e w' => ∃ g' c', e = .returned (.slice (some ⟨g', 0, none⟩) (countN n) c') ∧ BlkP w' g' 43 (flat (framesL l)) ∧ Below w.heap.size w w' := by
  have HSRC := Lib.hid (src2_of hl h h0)
  have PZ := Lib.hid (pad_zero l)
  have PS := Lib.hid fun j (h1 : l.length ≤ j) h2 => pad_succ l (j := j) h1 h2
  have hN := framesOf_len l
  have h32 := framesOf_all l
  have XI := Lib.hid fun p (hp : p < 32 * countN l.length) => (framesOf_at l hp) ▸ allIn_get hi p
  have XL := Lib.hid ((flat_len (framesOf l)).trans (by rw [hN]))
  have hp := countN_pos l.length
  have hfe : framesL l = (seamTo seam1 seam2 (framesOf l) (countN l.length - 1)).map wavesL := rfl
  have hsi : ∀ i, AllIn 1073741824 ((seamTo seam1 seam2 (framesOf l) (countN l.length - 1)).getD i []) := fun i => by
    rcases Nat.lt_or_ge i (countN l.length) with hi2 | hi2
    · rw [seams_is HalfA1 HalfB1 h32 (by rw [hN]; omega) (by rw [hN]; exact hi2)]
      exact allIn_mono (seamed_in (by omega) (framesOf_in (by omega) hi) (fun a b => seam1_in (by omega) a b) (fun a b => seam2_in (by omega) a b) (countN l.length - 1) i) (by omega)
    · rw [List.getD_eq_getElem?_getD, List.getElem?_eq_none (by rw [seamTo_len, hN]; exact hi2)]
      intro z hz
      simp at hz
  have sL := fun s i h1 h2 h3 => seamed_left (fs := framesOf l) (s := s) (i := i) h32 h1 h2 h3
  have sR := fun s i h1 h2 h3 => seamed_right (fs := framesOf l) (s := s) (i := i) h32 h1 h2 h3
  have mE := mix_end h32
  have sA := seamTo_all HalfA1 HalfB1 h32 (k := countN l.length - 1) (by rw [hN]; omega)
  have sN := (seamTo_len seam1 seam2 (framesOf l) (countN l.length - 1)).trans hN
  have yL := flat_len (seamTo seam1 seam2 (framesOf l) (countN l.length - 1))
  rw [hN] at sL sR mE
  rw [sN] at yL
  have yG := fun i j h1 h2 => flat_at (fs := seamTo seam1 seam2 (framesOf l) (countN l.length - 1)) (i := i) (j := j) h1 h2
  have mS := mix_start (X := flat (framesOf l)) (Y := flat (seamTo seam1 seam2 (framesOf l) (countN l.length - 1))) XL.out
  rw [hfe]
  have hcr := countN_room l.length
  have hcs := countN_strict l.length
  subst hl
  generalize countN l.length = N at *
  clear hfe h32 hN h hi h0
  generalize seamTo seam1 seam2 (framesOf l) (N - 1) = ss at *
  generalize flat ss = Y at *
  generalize flat (framesOf l) = X at *
  have htk : ∀ k, k < N → flat ((ss.map wavesL).take (k + 1)) = flat ((ss.map wavesL).take k) ++ wavesL (ss.getD k []) := fun k hk => by
    have hk2 : k < ss.length := by omega
    have e : (ss.map wavesL)[k]'(by rw [List.length_map]; exact hk2) = wavesL (ss.getD k []) := by rw [List.getElem_map, List.getD_eq_getElem?_getD, List.getElem?_eq_getElem hk2, Option.getD_some]
    rw [List.take_succ_eq_append_getElem (by rw [List.length_map]; exact hk2), e, flat_append (by rw [wavesL_len]; exact sA k hk2)]
  have FLL : (ss.map wavesL).length = N := by rw [List.length_map]; exact sN
  have SA := Lib.hid fun k (hk : k < N) => sA k (by rw [sN]; exact hk)
  have YG := Lib.hid fun i j (h1 : i < N) h2 => yG i j (by rw [sN]; exact h1) h2
  have SI := Lib.hid hsi
  have SLL := Lib.hid sL
  have SRR := Lib.hid sR
  have ME := Lib.hid mE
  have MS := Lib.hid mS
  have YL := Lib.hid yL
  have TK := Lib.hid htk
  have FL := Lib.hid FLL
  clear hsi sL sR mE sA sN yL yG mS htk FLL
  generalize ss.map wavesL = F at *
  obtain ⟨inf, hinf, hzr, hsz, hby⟩ := info_parts (P := Try.prog) (e := 3) (z := .int .i64 0) (size := 1) (bytes := 8) (by kernel_rfl)
  have HIF := Lib.hid (⟨hinf, hzr, hsz, hby⟩ : _ ∧ _ ∧ _ ∧ _)
  obtain ⟨inf2, hinf2, hzr2, hsz2, hby2⟩ := info_parts (P := Try.prog) (e := 43) (z := .agg #[Value.int .i64 0, Value.int .i64 0, Value.int .i64 0, Value.int .i64 0, Value.int .i64 0, Value.int .i64 0, Value.int .i64 0, Value.int .i64 0, Value.int .i64 0, Value.int .i64 0, Value.int .i64 0, Value.int .i64 0, Value.int .i64 0, Value.int .i64 0, Value.int .i64 0, Value.int .i64 0, Value.int .i64 0, Value.int .i64 0, Value.int .i64 0, Value.int .i64 0, Value.int .i64 0, Value.int .i64 0, Value.int .i64 0, Value.int .i64 0, Value.int .i64 0, Value.int .i64 0, Value.int .i64 0, Value.int .i64 0, Value.int .i64 0, Value.int .i64 0, Value.int .i64 0, Value.int .i64 0]) (size := 32) (bytes := 256) (by kernel_rfl)
  have HIF2 := Lib.hid (⟨hinf2, hzr2, hsz2, hby2⟩ : _ ∧ _ ∧ _ ∧ _)
  have HE := Lib.hid (World.ownsRow_lit (e := 3) (size := 1) w #[] 0 (Nat.le_refl _) (by unfold maxLen; omega) rfl)
  clear hinf hzr hsz hby hinf2 hzr2 hsz2 hby2
  generalize hlen : l.length = n at *
  have HLN := Lib.hid hlen
  clear hlen
  go_enter Try.func61, Try.ntmps61
  go_wp2_with (first | (at_builtin; refine wpList_append_src2 _ rfl _ _ rfl w.heap.size _ 0 [] rfl HE.out _ l rfl (src2_alloc HSRC.out _) (by rw [HLN.out]; omega) (by simp) ?_; intro v3 w3 hO3 hG3))
  rw [List.nil_append, Nat.zero_add, HLN.out] at hO3
  have hO4 := hO3
  rw [← PZ.out] at hO4
  have O3 := Lib.hid hO4
  have B3 : Hid (Below w.heap.size w w3) := Lib.hid ((((Below.refl _ w).alloc (Nat.le_refl _) (.cells #[] 3))).grown hG3 (by simp) (fun k e => by cases e; exact Nat.le_refl _))
  clear hO3 hO4 hG3 HE HSRC
  have hT : 32 * N - 32 ≤ 384 + 32 := by omega
  go_loopg [3] (32 * N - 32 - n) (fun gg s3 wr => ∃ j : Nat, n ≤ j ∧ j ≤ 32 * N - 32 ∧ 32 * N - 32 - j ≤ gg ∧ Aside (Below w.heap.size w wr) ∧ Aside (wr.ownsRow w.heap.size 3 1 s3 j ((X.take j).map (Value.int .i64))))
  case atStart => exact ⟨n, Nat.le_refl _, by omega, by omega, B3.out, O3.out⟩
  case round =>
    clear B3 O3
    obtain ⟨j, hj1, hj2, hgj, B, O⟩ := hrel
    have hlj : (X.take j).length = j := by rw [List.length_take, XL.out]; omega
    obtain ⟨a3, c3, rfl, -, -⟩ := slA_owns O.out
    rw [hlj] at *
    clear hlj
    have hs := B.out.size
    by_cases hlt : j < 32 * N - 32
    · have hm : ¬ (j : Int) % 32 = 0 := by omega
      have hm2 : ¬ j % 32 = 0 := by omega
      have HT := Lib.hid (PS.out j hj1 (by omega))
      go_wp2_with (first | (at_builtin; refine wpList_append_own _ rfl _ _ 52 rfl w.heap.size 3 inf (.int .i64 0) 1 8 Try.underlying52 HIF.out.1 HIF.out.2.1 HIF.out.2.2.1 HIF.out.2.2.2 rfl (by decide) _ j _ rfl (O.out.alloc _) ⟨wr.heap.size, 0, none⟩ 1 1 [.int .i64 0] rfl rfl (cell_one_new _ _ _) (by simp [Value.oneCell']) (by unfold maxLen; omega) (by omega) (by simp; omega) ?_; intro v5 w5 hown' hgrow _))
      have hol := O.out.lt
      have B5 := Lib.hid ((B.out.alloc hs (.cells #[.int .i64 0] 3)).grown hgrow (by simp; omega) (fun k e => (hol k e).1))
      rw [show [Value.int .i64 0] = [(0 : Int)].map (Value.int .i64) from rfl, ← List.map_append, HT.out] at hown'
      have O5 := Lib.hid hown'
      clear hown' hgrow hol O B
      go_roundg (32 * N - 32 - (j + 1))
      case measure => omega
      case rel => exact ⟨j + 1, by omega, by omega, by omega, B5.out, O5.out⟩
    · obtain rfl : j = 32 * N - 32 := by omega
      have hm : (((32 * N - 32 : Nat) : Int)) % 32 = 0 := by omega
      have hm2 : (32 * N - 32) % 32 = 0 := by omega
      have B4 := Lib.hid B.out
      have O4 := Lib.hid O.out
      clear B O hj1 hj2 hgj hlt hs
      generalize hTe : 32 * N - 32 = T at *
      go_wp2_with fail
      clear hm hm2
      go_loopg [3, 4] 32 (fun gg s3 s4 wr => ∃ i : Nat, i ≤ 32 ∧ 32 - i ≤ gg ∧ s4 = .int .i64 i ∧ Aside (Below w.heap.size w wr) ∧ Aside (wr.ownsRow w.heap.size 3 1 s3 (T + i) ((X.take (T + i)).map (Value.int .i64))))
      case atStart => exact ⟨0, Nat.zero_le _, by omega, rfl, B4.out, O4.out⟩
      case round =>
        clear B4 O4
        obtain ⟨i, hi, hgi, rfl, B, O⟩ := hrel
        have hs := B.out.size
        by_cases hlt : i < 32
        · have hltz : (i : Int) < 32 := by omega
          have HT := Lib.hid (PS.out (T + i) (by omega) (by omega))
          go_wp2_with (first | (at_builtin; refine wpList_append_own _ rfl _ _ 52 rfl w.heap.size 3 inf (.int .i64 0) 1 8 Try.underlying52 HIF.out.1 HIF.out.2.1 HIF.out.2.2.1 HIF.out.2.2.2 rfl (by decide) _ (T + i) _ rfl (O.out.alloc _) ⟨wr.heap.size, 0, none⟩ 1 1 [.int .i64 0] rfl rfl (cell_one_new _ _ _) (by simp [Value.oneCell']) (by unfold maxLen; omega) (by omega) (by simp; omega) ?_; intro v5 w5 hown' hgrow _))
          have hol := O.out.lt
          have B5 := Lib.hid ((B.out.alloc hs (.cells #[.int .i64 0] 3)).grown hgrow (by simp; omega) (fun k e => (hol k e).1))
          rw [show [Value.int .i64 0] = [(0 : Int)].map (Value.int .i64) from rfl, ← List.map_append, HT.out] at hown'
          have O5 := Lib.hid hown'
          clear hown' hgrow hol O B
          go_roundg (32 - (i + 1))
          case measure => omega
          case rel => exact ⟨i + 1, by omega, by omega, by go_num, B5.out, O5.out⟩
        · have hltz : ¬ (i : Int) < 32 := by omega
          obtain rfl : i = 32 := by omega
          have hO := O.out
          rw [show T + 32 = 32 * N by omega, List.take_of_length_le (by rw [XL.out]; omega)] at hO
          obtain ⟨g, cx, rfl, hg, hP⟩ := blkP_owns hO (by omega)
          rw [← MS.out] at hP
          have P4 := Lib.hid hP
          have B4 := Lib.hid B.out
          clear hO hP O B hi hgi hlt hltz hs PS PZ HLN MS
          have hz1 : ((32 * N : Nat) : Int) - 32 = T := by omega
          go_wp2_with fail
          clear hz1
          go_loopg [5] (N - 1) (fun gg s5 wr => ∃ s sv : Nat, s ≤ N - 1 ∧ s ≤ gg ∧ Aside (sv = 32 * s) ∧ s5 = .int .i64 sv ∧ Aside (Below w.heap.size w wr) ∧ Aside (BlkP wr g 3 (mixL N X Y s 0)))
          case atStart => exact ⟨N - 1, T, Nat.le_refl _, Nat.le_refl _, by show T = 32 * (N - 1); omega, by first | rfl | (congr 1; omega), B4.out, P4.out⟩
          case round =>
            clear B4 P4
            obtain ⟨s, sv, hs1, hgs, hsv, rfl, B, P⟩ := hrel
            have hsv2 := hsv.out
            by_cases h1 : 1 ≤ s
            · have hc : (32 : Int) ≤ sv := by omega
              have B5 := Lib.hid B.out
              have P5 := Lib.hid P.out
              clear B P hsv2
              go_wp2_with fail
              go_loopg [6] 16 (fun gg s6 wr => ∃ m : Nat, m ≤ 16 ∧ 16 - m ≤ gg ∧ s6 = .int .i64 m ∧ Aside (Below w.heap.size w wr) ∧ Aside (BlkP wr g 3 (mixL N X Y s m)))
              case atStart => exact ⟨0, Nat.zero_le _, by omega, rfl, B5.out, P5.out⟩
              case round =>
                clear B5 P5
                obtain ⟨m, hm, hgm, rfl, B, P⟩ := hrel
                by_cases hlt : m < 16
                · have hltz : (m : Int) < 16 := by omega
                  have hm0 : 0 ≤ (m : Int) := by omega
                  obtain ⟨pl, hpl⟩ : ∃ p, p = 32 * s - 1 - m := ⟨_, rfl⟩
                  obtain ⟨pr, hpr⟩ : ∃ p, p = 32 * s + m := ⟨_, rfl⟩
                  have hsN : s < N := by omega
                  have hsv2 := hsv.out
                  have hplz : (sv : Int) - 1 - m = pl := by omega
                  have hprz : (sv : Int) + m = pr := by omega
                  have k1 : 0 ≤ (pl : Int) := by omega
                  have k2 : (pl : Int) < 32 * (N : Int) := by omega
                  have k3 : 0 ≤ (pr : Int) := by omega
                  have k4 : (pr : Int) < 32 * (N : Int) := by omega
                  have k5 : pl < 32 * N := by omega
                  have k6 : pr < 32 * N := by omega
                  have q1 : IntKind.i64.wrap ((sv : Int) - 1) = sv - 1 := IntWalk.i64_in _ ⟨by omega, by omega⟩
                  have q2 : IntKind.i64.wrap ((sv : Int) - 1 - m) = pl := by rw [hplz]; exact IntWalk.i64_in _ ⟨by omega, by omega⟩
                  have q3 : IntKind.i64.wrap ((sv : Int) + m) = pr := by rw [hprz]; exact IntWalk.i64_in _ ⟨by omega, by omega⟩
                  have q4 : IntKind.i64.wrap (4 * (m : Int)) = 4 * m := IntWalk.i64_in _ ⟨by omega, by omega⟩
                  have q5 : IntKind.i64.wrap (62 - 4 * (m : Int)) = 62 - 4 * m := IntWalk.i64_in _ ⟨by omega, by omega⟩
                  have el := mix_left (X := X) (Y := Y) h1 hsN hlt
                  have er := mix_right (X := X) (Y := Y) h1 hsN hlt
                  have es := mix_step (X := X) (Y := Y) h1 hsN hlt
                  have ya := SLL.out s m h1 hsN hlt
                  have yb := SRR.out s m h1 hsN hlt
                  have ba := XI.out pl k5
                  have bb := XI.out pr k6
                  have ml := mixL_len N X Y s m
                  rw [← hpl] at el es ya yb
                  rw [← hpr] at er es ya yb
                  have ca := blkP_int P.out (i := pl) (by rw [ml]; exact k5)
                  have cb := blkP_int P.out (i := pr) (by rw [ml]; exact k6)
                  rw [el] at ca
                  rw [er] at cb
                  rw [ya, yb] at es
                  clear el er ya yb hpl hpr
                  generalize X.getD pl 0 = xa at *
                  generalize X.getD pr 0 = xb at *
                  have ct := fun W => rturnL_calls xa xb (62 - 4 * (m : Int)) W (by omega) (by omega) (by omega) (by omega)
                  generalize turnL xa xb (62 - 4 * (m : Int)) = tt at *
                  have ES := Lib.hid es
                  have MLL := Lib.hid ml
                  clear ba bb es ml
                  generalize mixL N X Y s m = mx at *
                  have HPL := Lib.hid hplz
                  have HPR := Lib.hid hprz
                  clear hplz hprz hsv2
                  go_wp2_with fail
                  go_quiet ((go_at_call 41; exact Calls.quiet_of_same ((ct _).mono fun _ _ h => ⟨h.1, h.2.symm⟩)))
                  have hplz := HPL.out
                  have hprz := HPR.out
                  have P1 := blkP_draws P.out nq
                  have B1 := below_draws B.out nq
                  clear P B ca cb ct q1 q2 q3 q4 q5
                  generalize wr.drewN nq = w1 at *
                  have cx := blkP_int P1 (i := pl) (by rw [MLL.out]; exact k5)
                  have fx := blkP_free P1 pl
                  have P2 := blkP_set (i := pl) P1 tt.1
                  have cy := blkP_int P2 (i := pr) (by rw [List.length_set, MLL.out]; exact k6)
                  have fy := blkP_free P2 pr
                  have P3 := blkP_set (i := pr) P2 tt.2
                  rw [ES.out] at P3
                  have P4 := Lib.hid P3
                  have B4 := Lib.hid ((B1.setCell (p := ⟨g, pl, none⟩) hg (.int .i64 tt.1)).setCell (p := ⟨g, pr, none⟩) hg (.int .i64 tt.2))
                  clear P1 P2 P3 B1
                  go_wp2_with fail
                  go_roundg (16 - (m + 1))
                  case measure => omega
                  case rel => exact ⟨m + 1, by omega, by omega, by go_num, B4.out, P4.out⟩
                · obtain rfl : m = 16 := by omega
                  have P1 := P.out
                  rw [mix_next h1] at P1
                  have P2 := Lib.hid P1
                  have B2 := Lib.hid B.out
                  have hsv2 := hsv.out
                  have hsz : (sv : Int) - 32 = ((sv - 32 : Nat) : Int) := by omega
                  have hsz2 : 0 ≤ ((sv - 32 : Nat) : Int) := by omega
                  have hsz3 : ((sv - 32 : Nat) : Int) ≤ 1000 := by omega
                  clear hsv2
                  clear P B P1
                  go_wp2_with fail
                  go_roundg (s - 1)
                  case measure => omega
                  case rel => exact ⟨s - 1, sv - 32, by omega, Nat.le_refl _, by have := hsv.out; show sv - 32 = 32 * (s - 1); omega, by first | rfl | go_num | (congr 1; exact IntWalk.wrap64_in _ ⟨by omega, by omega⟩) | (congr 1; exact IntWalk.i64_in _ ⟨by omega, by omega⟩), B2.out, P2.out⟩
            · obtain rfl : s = 0 := by omega
              have hc : ¬ (32 : Int) ≤ sv := by omega
              have hP := P.out
              rw [ME.out] at hP
              have P4 := Lib.hid hP
              have B4 := Lib.hid B.out
              have hgl := blkP_lt hP
              have hwl := B.out.size
              have HO := Lib.hid (World.ownsRow_nil wr wr.heap.size 43 32)
              have hN1 : N ≤ 14 := by omega
              clear hP B P hsv2 hsv hs1 hgs h1 ME SLL SRR XI XL hTe hT
              generalize wr = wb at *
              go_wp2_with fail
              clear hc
              go_loopg [9, 10] N (fun gg s9 s10 wq => ∃ i tt : Nat, i ≤ N ∧ N - i ≤ gg ∧ Aside (tt = 32 * i) ∧ s10 = .int .i64 tt ∧ Aside (Below wb.heap.size wb wq) ∧ Aside (wq.ownsRow wb.heap.size 43 32 s9 i ((flat (F.take i)).map (Value.int .i64))))
              case atStart => exact ⟨0, 0, Nat.zero_le _, by omega, rfl, rfl, Below.refl _ wb, HO.out⟩
              case round =>
                clear HO
                obtain ⟨i, tt, hi, hgi, htt, rfl, B, O⟩ := hrel
                generalize wr = wq at *
                have htt2 := htt.out
                by_cases hlt : i < N
                · have hlz : (tt : Int) < 32 * (N : Int) := by omega
                  have hs := B.out.size
                  have f32 := SA.out i hlt
                  have fyg := fun j hj => YG.out i j hlt hj
                  have fin := SI.out i
                  have ftk := TK.out i hlt
                  rw [← htt2] at fyg
                  generalize ss.getD i [] = f at *
                  have cw := fun W => rwaves_calls f W f32 fin
                  have hml := (wavesL_len f).trans f32
                  have FYG := Lib.hid fyg
                  have FTK := Lib.hid ftk
                  have F32 := Lib.hid f32
                  have HML := Lib.hid hml
                  have hz32 : #[Value.int .i64 0, Value.int .i64 0, Value.int .i64 0, Value.int .i64 0, Value.int .i64 0, Value.int .i64 0, Value.int .i64 0, Value.int .i64 0, Value.int .i64 0, Value.int .i64 0, Value.int .i64 0, Value.int .i64 0, Value.int .i64 0, Value.int .i64 0, Value.int .i64 0, Value.int .i64 0, Value.int .i64 0, Value.int .i64 0, Value.int .i64 0, Value.int .i64 0, Value.int .i64 0, Value.int .i64 0, Value.int .i64 0, Value.int .i64 0, Value.int .i64 0, Value.int .i64 0, Value.int .i64 0, Value.int .i64 0, Value.int .i64 0, Value.int .i64 0, Value.int .i64 0, Value.int .i64 0] = ints (cpy f 0) := by rw [cpy_zero]; kernel_rfl
                  have k0 := blk_new wq 43 #[Value.int .i64 0, Value.int .i64 0, Value.int .i64 0, Value.int .i64 0, Value.int .i64 0, Value.int .i64 0, Value.int .i64 0, Value.int .i64 0, Value.int .i64 0, Value.int .i64 0, Value.int .i64 0, Value.int .i64 0, Value.int .i64 0, Value.int .i64 0, Value.int .i64 0, Value.int .i64 0, Value.int .i64 0, Value.int .i64 0, Value.int .i64 0, Value.int .i64 0, Value.int .i64 0, Value.int .i64 0, Value.int .i64 0, Value.int .i64 0, Value.int .i64 0, Value.int .i64 0, Value.int .i64 0, Value.int .i64 0, Value.int .i64 0, Value.int .i64 0, Value.int .i64 0, Value.int .i64 0]
                  have K0 : Hid (Blk (wq.alloc (.cells #[Value.int .i64 0, Value.int .i64 0, Value.int .i64 0, Value.int .i64 0, Value.int .i64 0, Value.int .i64 0, Value.int .i64 0, Value.int .i64 0, Value.int .i64 0, Value.int .i64 0, Value.int .i64 0, Value.int .i64 0, Value.int .i64 0, Value.int .i64 0, Value.int .i64 0, Value.int .i64 0, Value.int .i64 0, Value.int .i64 0, Value.int .i64 0, Value.int .i64 0, Value.int .i64 0, Value.int .i64 0, Value.int .i64 0, Value.int .i64 0, Value.int .i64 0, Value.int .i64 0, Value.int .i64 0, Value.int .i64 0, Value.int .i64 0, Value.int .i64 0, Value.int .i64 0, Value.int .i64 0] 43)) wq.heap.size 43 (ints (cpy f 0))) := Lib.hid (by rw [← hz32]; exact k0)
                  have C0 : Hid (Below wq.heap.size wq (wq.alloc (.cells #[Value.int .i64 0, Value.int .i64 0, Value.int .i64 0, Value.int .i64 0, Value.int .i64 0, Value.int .i64 0, Value.int .i64 0, Value.int .i64 0, Value.int .i64 0, Value.int .i64 0, Value.int .i64 0, Value.int .i64 0, Value.int .i64 0, Value.int .i64 0, Value.int .i64 0, Value.int .i64 0, Value.int .i64 0, Value.int .i64 0, Value.int .i64 0, Value.int .i64 0, Value.int .i64 0, Value.int .i64 0, Value.int .i64 0, Value.int .i64 0, Value.int .i64 0, Value.int .i64 0, Value.int .i64 0, Value.int .i64 0, Value.int .i64 0, Value.int .i64 0, Value.int .i64 0, Value.int .i64 0] 43))) := Lib.hid ((Below.refl _ wq).alloc (Nat.le_refl _) _)
                  have PQ := Lib.hid (blkP_below P4.out B.out hgl)
                  have hgq := blkP_lt PQ.out
                  clear fyg ftk f32 fin hml hz32 k0 htt2
                  generalize wavesL f = wv at *
                  go_wp2_with fail
                  go_loopg [12] 32 (fun gg s12 wz => ∃ m : Nat, m ≤ 32 ∧ 32 - m ≤ gg ∧ s12 = .int .i64 m ∧ Aside (Below wq.heap.size wq wz) ∧ Aside (Blk wz wq.heap.size 43 (ints (cpy f m))))
                  case atStart => exact ⟨0, Nat.zero_le _, by omega, rfl, C0.out, K0.out⟩
                  case round =>
                    clear C0 K0
                    obtain ⟨m, hm, hgm, rfl, C, K⟩ := hrel
                    generalize wr = wz at *
                    by_cases hlt2 : m < 32
                    · have hltz : (m : Int) < 32 := by omega
                      have hm0 : 0 ≤ (m : Int) := by omega
                      have htt2 := htt.out
                      obtain ⟨px, hpx⟩ : ∃ p, p = tt + m := ⟨_, rfl⟩
                      have hpz : (tt : Int) + m = px := by omega
                      have k1 : 0 ≤ (px : Int) := by omega
                      have k2 : (px : Int) < 32 * (N : Int) := by omega
                      have k3 : px < 32 * N := by omega
                      have cy := blkP_int (blkP_below PQ.out C.out hgq) (i := px) (by rw [YL.out]; exact k3)
                      have fy := FYG.out m hlt2
                      rw [← hpx] at fy
                      rw [fy] at cy
                      have cx := blk_int K.out (i := m) (by rw [cpy_len]; exact hlt2)
                      have fx := blk_free K.out m
                      have K2 := blk_set_int K.out m (f.getD m 0)
                      rw [cpy_succ f hlt2] at K2
                      have K3 := Lib.hid K2
                      have C3 := Lib.hid (C.out.setCell (p := ⟨wq.heap.size, m, none⟩) (Nat.le_refl _) (.int .i64 (f.getD m 0)))
                      generalize f.getD m 0 = z at *
                      clear K2 C K hpx htt2 fy
                      go_wp2_with fail
                      go_roundg (32 - (m + 1))
                      case measure => omega
                      case rel => exact ⟨m + 1, by omega, by omega, by go_num, C3.out, K3.out⟩
                    · obtain rfl : m = 32 := by omega
                      have kk := K.out
                      rw [cpy_all F32.out] at kk
                      have C3 := Lib.hid C.out
                      clear C K hm hgm hlt2
                      go_wp2_with (first | (refine wpList_load_row rfl 43 _ rfl wq.heap.size rfl 43 (ints f) (0, 0) _ kk Try.underlying43 rfl (by rw [ints_size, F32.out]; kernel_rfl) ?_))
                      refine (cw _).mono ?_
                      rintro e w5 ⟨rfl, hC⟩
                      have C5 := Lib.hid (bnext C3.out hC)
                      have B5 := Lib.hid (bnext B.out C5.out)
                      have O5 := Lib.hid (owns_belowS O.out C5.out (Nat.le_refl _))
                      have hs5 := B5.out.size
                      clear hC C3 B O kk cw
                      go_wp2_with (first | (refine wpList_build_row _ rfl _ rfl wv HML.out rfl ?_) | (at_builtin; refine wpList_append_own _ rfl _ _ 60 rfl wb.heap.size 43 inf2 (.agg #[Value.int .i64 0, Value.int .i64 0, Value.int .i64 0, Value.int .i64 0, Value.int .i64 0, Value.int .i64 0, Value.int .i64 0, Value.int .i64 0, Value.int .i64 0, Value.int .i64 0, Value.int .i64 0, Value.int .i64 0, Value.int .i64 0, Value.int .i64 0, Value.int .i64 0, Value.int .i64 0, Value.int .i64 0, Value.int .i64 0, Value.int .i64 0, Value.int .i64 0, Value.int .i64 0, Value.int .i64 0, Value.int .i64 0, Value.int .i64 0, Value.int .i64 0, Value.int .i64 0, Value.int .i64 0, Value.int .i64 0, Value.int .i64 0, Value.int .i64 0, Value.int .i64 0, Value.int .i64 0]) 32 256 Try.underlying60 HIF2.out.1 HIF2.out.2.1 HIF2.out.2.2.1 HIF2.out.2.2.2 (by kernel_rfl) (by decide) _ i _ rfl (O5.out.alloc _) ⟨w5.heap.size, 0, none⟩ 1 1 (wv.map (Value.int .i64)) rfl (by rw [List.length_map, HML.out]) (news_row _ _) (ints_one1 _) (by unfold maxLen; omega) (by omega) (by simp; omega) ?_; intro v' w6 hown' hgrow _))
                      have hol := O5.out.lt
                      have B6 := Lib.hid ((B5.out.alloc hs5 (.cells (ints wv) 43)).grown hgrow (by simp; omega) (fun k e => (hol k e).1))
                      rw [← List.map_append, ← FTK.out] at hown'
                      have O6 := Lib.hid hown'
                      clear hown' hgrow hol O5 B5
                      go_roundg (N - (i + 1))
                      case measure => omega
                      case rel => exact ⟨i + 1, tt + 32, by omega, by omega, by have := htt.out; show tt + 32 = 32 * (i + 1); omega, by go_num, B6.out, O6.out⟩
                · obtain rfl : i = N := by omega
                  have hlz : ¬ (tt : Int) < 32 * (i : Int) := by omega
                  have hO := O.out
                  rw [List.take_of_length_le (by rw [FL.out]; exact Nat.le_refl _)] at hO
                  obtain ⟨g9, c9, rfl, hg9, hP9⟩ := blkP_owns hO (by omega)
                  have hE := B4.out.trans (B.out.mono hwl)
                  clear B O hO htt2
                  go_wp2_with fail
                  go_ret
                  exact ⟨g9, ⟨c9, rfl⟩, hP9, hE⟩
end Go.Proofs.Ytlfiaaoegeodnaa
