/- The walk of LapPlays. -/
import Derived.Test.YtlfiaaoegeodnaaRefV
import Derived.Deep.QuietTactic
import Derived.BigQuiet
namespace Go.Proofs.Ytlfiaaoegeodnaa
open Go.RowKit
attribute [local go_sem ↓] Go.wp_at_zero Go.wp_at_succ

set_option maxRecDepth 20000 in
set_option maxHeartbeats 8000000 in
theorem lapPlays_walk (a0 : Option Addr) (n0 c0 : Nat) (zs : List Int) (u : Int) (w : World) (l0 : zs.length = n0) (m0 : n0 ≤ maxLen) (h : SlA w a0 zs) (w0 : ∀ z ∈ zs, (Lit.int .i64 z).wf = true) (k0 : a0 = none → c0 = 0) (w1 : (Lit.int .i64 u).wf = true) :
    Calls Try.prog 24 #[.slice a0 n0 c0, .int .i64 u] w (LawTrue w) := by
  have ub := i64_bounds w1
  have hbd := wf_i64' w0
  unfold maxLen at m0
  have HB := Lib.hid hbd
  have HS := Lib.hid h
  have HK := Lib.hid k0
  have L0 := Lib.hid l0
  clear w1 w0 hbd h k0 l0
  obtain ⟨C, hC⟩ : ∃ C : Nat, (0 ≤ u → (C : Int) = u / 32 + min (u % 32) 1 + 1) ∧ 1 ≤ C ∧ (u < 0 → C = 1) := by
    by_cases hu : 0 ≤ u
    · exact ⟨(u / 32 + min (u % 32) 1 + 1).toNat, fun _ => by omega, by omega, fun h => by omega⟩
    · exact ⟨1, fun h => absurd h hu, Nat.le_refl _, fun _ => rfl⟩
  have HC := Lib.hid hC
  clear hC
  go_enter Try.func24, Try.ntmps24
  go_wp2_with fail
  refine (awake11_calls _).mono ?_
  rintro e w1 ⟨rfl, hB⟩
  have B1 := Lib.hid hB
  have S1 := Lib.hid (slA_below HS.out hB)
  clear hB HS
  go_wp2_with fail
  go_loopg [5, 6] 100 (fun gg s5 s6 wr => ∃ k : Nat, k ≤ 100 ∧ 100 - k ≤ gg ∧ (0 < k → 0 ≤ u ∧ u < 3000 ∧ k ≤ C) ∧ s5 = .int .i64 k ∧ s6 = .int .i64 k ∧ Aside (Below w.heap.size w wr) ∧ Aside (SlA wr a0 zs))
  case atStart => exact ⟨0, Nat.zero_le _, by omega, fun h => absurd h (by omega), rfl, rfl, B1.out, S1.out⟩
  case round =>
    clear B1 S1
    obtain ⟨k, hk, hgk, hk2, rfl, rfl, B, S⟩ := hrel
    have hC := HC.out
    by_cases hu0 : 0 ≤ u
    · by_cases hu1 : u < 3000
      · have hCe := hC.1 hu0
        by_cases hlt : k < C
        · have k1 : (k : Int) < 100 := by omega
          have k2 : 32 * ((k : Int) - 1) < u := by omega
          clear hC hCe hk2
          go_wp2_with fail
          go_roundg (100 - (k + 1))
          case measure => omega
          case rel => exact ⟨k + 1, by omega, by omega, fun _ => ⟨hu0, hu1, by omega⟩, by go_num, by go_num, B.out, S.out⟩
        · obtain hkC : k = C := by
            rcases Nat.eq_zero_or_pos k with h | h
            · omega
            · have := (hk2 h).2.2; omega
          subst hkC
          have k1 : (k : Int) < 100 := by omega
          have k2 : ¬ 32 * ((k : Int) - 1) < u := by omega
          have k3 : ¬ u < 0 := by omega
          have k4 : max (k : Int) 1 = k := by omega
          have hcc := fun W => count_calls u W (by omega) (by omega)
          rw [← hCe] at hcc
          clear hC hCe hk2 hlt hgk
          by_cases h384 : 384 < n0
          · have hz : (384 : Int) < n0 := by omega
            go_wp2_with fail
            refine (hcc _).mono ?_
            rintro e w' ⟨rfl, rfl⟩
            clear hcc
            go_wp2_with fail
            go_ret
            exact ⟨rfl, B.out⟩
          · have hz : ¬ (384 : Int) < n0 := by omega
            have hzz : (n0 : Int) ≤ 384 := by omega
            cases hgr : greatL 1048576 zs
            · have hin := greatL_in.1 hgr
              have cf := fun W (hW : SlA W a0 zs) => frames_calls a0 n0 c0 zs W L0.out (by omega) hW hin
              have cr := fun W (hW : SlA W a0 zs) => rframes_calls a0 n0 c0 zs W L0.out (by omega) hW HK.out hin
              have hnp := countN_pos n0
              have hnr := countN_room n0
              have hfl := framesL_len zs
              rw [L0.out] at hfl
              have HFL := Lib.hid hfl
              have HAL := Lib.hid (framesL_all zs)
              have HIN := Lib.hid hin
              clear hfl hgr hin
              generalize framesL zs = fs at *
              generalize countN n0 = N at *
              go_wp2_with fail
              refine (hcc _).mono ?_
              rintro e w' ⟨rfl, rfl⟩
              clear hcc
              go_wp2_with fail
              refine (cf _ S.out).mono ?_
              rintro e w3 ⟨g, rfl, hg3, hb3, hD⟩
              have B3 := Lib.hid (bnext B.out hD)
              have S3 := Lib.hid (slA_below S.out hD)
              have P3 := Lib.hid (blkP_of hb3)
              clear hD hb3 hg3 B S cf
              go_wp2_with fail
              go_loopg [9] n0 (fun gg s9 wr => ∃ i : Nat, i ≤ n0 ∧ n0 - i ≤ gg ∧ s9 = .int .i64 i ∧ Aside (Below w.heap.size w wr) ∧ Aside (SlA wr a0 zs) ∧ Aside (BlkP wr g 44 (flat fs)))
              case atStart => exact ⟨0, Nat.zero_le _, by omega, rfl, B3.out, S3.out, P3.out⟩
              case round =>
                clear B3 S3 P3
                obtain ⟨i, hi, hgi, rfl, B, S, P⟩ := hrel
                by_cases hlt : i < n0
                · have hltz : (i : Int) < n0 := by omega
                  have hi0 : 0 ≤ (i : Int) := by omega
                  obtain ⟨g0, o0, rfl, hg0, hcs⟩ := slA_at S.out (k := i) (by rw [L0.out]; exact hlt)
                  have cx := hcs i (by rw [L0.out]; exact hlt)
                  have bx := allIn_get HIN.out i
                  generalize zs.getD i 0 = z at *
                  have b1 : ¬ z < -1048576 := by omega
                  have b2 : ¬ 1048576 < z := by omega
                  clear hcs bx
                  go_wp2_with fail
                  go_roundg (n0 - (i + 1))
                  case measure => omega
                  case rel => exact ⟨i + 1, by omega, by omega, by go_num, B.out, S.out, P.out⟩
                · have hltz : ¬ (i : Int) < n0 := by omega
                  have hce := cr _ S.out
                  clear cr
                  go_wp2_with fail
                  refine hce.mono ?_
                  rintro e w4 ⟨g2, c2, rfl, hP2, hD⟩
                  have B4 := Lib.hid (bnext B.out hD)
                  have P4 := Lib.hid (blkP_below P.out hD (blkP_lt P.out))
                  have Q4 := Lib.hid hP2
                  clear hD hP2 B S P hce hltz hlt hi hgi
                  have hN14 : N ≤ 14 := by omega
                  go_wp2_with fail
                  go_loopg [11] N (fun gg s11 wr => ∃ i : Nat, i ≤ N ∧ N - i ≤ gg ∧ s11 = .int .i64 i ∧ Aside (Below w.heap.size w wr) ∧ Aside (BlkP wr g 44 (flat fs)) ∧ Aside (BlkP wr g2 43 (flat fs)))
                  case atStart => exact ⟨0, Nat.zero_le _, by omega, rfl, B4.out, P4.out, Q4.out⟩
                  case round =>
                    clear B4 P4 Q4
                    obtain ⟨i, hi, hgi, rfl, B, P, Q⟩ := hrel
                    by_cases hlt : i < N
                    · have hltz : (i : Int) < N := by omega
                      have hi0 : 0 ≤ (i : Int) := by omega
                      have hf := HAL.out i (by rw [HFL.out]; exact hlt)
                      have hr1 := frameP_range P.out (i := i) (o := i * 32) (by rw [HFL.out]; exact hlt) hf rfl
                      have hr2 := frameP_range Q.out (i := i) (o := i * 32) (by rw [HFL.out]; exact hlt) hf rfl
                      generalize fs.getD i [] = f at *
                      have ef : ∀ W, (Op.equalIn 10000 44 (.agg (f.map (Value.int .i64)).toArray) (.agg (f.map (Value.int .i64)).toArray)).run Try.prog W = .ok true W := fun W => same_frames hf W
                      have hfs : (Try.prog.info? 44).map (·.size) = some (f.map (Value.int .i64)).length := by rw [List.length_map, hf]; kernel_rfl
                      have hfa : (Try.prog.info? 43).map (·.size) = some (f.map (Value.int .i64)).length := by rw [List.length_map, hf]; kernel_rfl
                      have hu := Try.underlying44
                      have hua := Try.underlying43
                      clear hf
                      go_upto_region 22 with (fail)
                      refine wp_region_held_drew (S := (fun W => W.rangeAt g (i * 32) (f.map (Value.int .i64)) ∧ W.rangeAt g2 (i * 32) (f.map (Value.int .i64)))) (by kernel_rfl) ⟨(World.rangeAt_drew _ _ _ _).2 hr1, (World.rangeAt_drew _ _ _ _).2 hr2⟩ (fun hHeld => ?_)
                      refine wpAnyH_take (i := 0) (oi := ⟨_, _, _, _, _, _⟩) (v := ?_) rfl (by kernel_rfl) (by kernel_rfl) (by kernel_rfl) (fun _ _ _ h => h) (Or.inl ⟨by rfl, ?_⟩) (by assumption) ?_
                      rotate_left
                      · intro W hSw
                        try dsimp only at hSw
                        go_simp
                        try with_reducible rfl
                      try simp only [Act.put, List.setIfInBounds_toArray, List.set_cons_zero, List.set_cons_succ]
                      refine wpAnyH_take (i := 1) (oi := ⟨_, _, _, _, _, _⟩) (v := ?_) rfl (by kernel_rfl) (by kernel_rfl) (by kernel_rfl) (fun _ _ _ h => h) (Or.inl ⟨by rfl, ?_⟩) (by assumption) ?_
                      rotate_left
                      · intro W hSw
                        try dsimp only at hSw
                        go_simp
                        try with_reducible rfl
                      try simp only [Act.put, List.setIfInBounds_toArray, List.set_cons_zero, List.set_cons_succ]
                      refine wpAnyH_take (i := 2) (oi := ⟨_, _, _, _, _, _⟩) (v := ?_) rfl (by kernel_rfl) (by kernel_rfl) (by kernel_rfl) (fun _ _ _ h => h) (Or.inl ⟨by rfl, ?_⟩) (by assumption) ?_
                      rotate_left
                      · intro W hSw
                        try dsimp only at hSw
                        go_simp
                        try with_reducible rfl
                      try simp only [Act.put, List.setIfInBounds_toArray, List.set_cons_zero, List.set_cons_succ]
                      refine wpAnyH_take (i := 3) (oi := ⟨_, _, _, _, _, _⟩) (v := _) rfl (by kernel_rfl) (by kernel_rfl) (by kernel_rfl) (fun _ _ _ h => h) (yieldsIf_load_mid (by rfl) _ _ rfl _ _ rfl _ _ (fun _ h => h.1) hu rfl hfs) (by assumption) ?_
                      try simp only [Act.put, List.setIfInBounds_toArray, List.set_cons_zero, List.set_cons_succ]
                      refine wpAnyH_take (i := 4) (oi := ⟨_, _, _, _, _, _⟩) (v := ?_) rfl (by kernel_rfl) (by kernel_rfl) (by kernel_rfl) (fun _ _ _ h => h) (Or.inl ⟨by rfl, ?_⟩) (by assumption) ?_
                      rotate_left
                      · intro W hSw
                        try dsimp only at hSw
                        go_simp
                        try with_reducible rfl
                      try simp only [Act.put, List.setIfInBounds_toArray, List.set_cons_zero, List.set_cons_succ]
                      refine wpAnyH_take (i := 5) (oi := ⟨_, _, _, _, _, _⟩) (v := ?_) rfl (by kernel_rfl) (by kernel_rfl) (by kernel_rfl) (fun _ _ _ h => h) (Or.inl ⟨by rfl, ?_⟩) (by assumption) ?_
                      rotate_left
                      · intro W hSw
                        try dsimp only at hSw
                        go_simp
                        try with_reducible rfl
                      try simp only [Act.put, List.setIfInBounds_toArray, List.set_cons_zero, List.set_cons_succ]
                      refine wpAnyH_take (i := 6) (oi := ⟨_, _, _, _, _, _⟩) (v := ?_) rfl (by kernel_rfl) (by kernel_rfl) (by kernel_rfl) (fun _ _ _ h => h) (Or.inl ⟨by rfl, ?_⟩) (by assumption) ?_
                      rotate_left
                      · intro W hSw
                        try dsimp only at hSw
                        go_simp
                        try with_reducible rfl
                      try simp only [Act.put, List.setIfInBounds_toArray, List.set_cons_zero, List.set_cons_succ]
                      refine wpAnyH_take (i := 7) (oi := ⟨_, _, _, _, _, _⟩) (v := _) rfl (by kernel_rfl) (by kernel_rfl) (by kernel_rfl) (fun _ _ _ h => h) (yieldsIf_load_mid (by rfl) _ _ rfl _ _ rfl _ _ (fun _ h => h.2) hua rfl hfa) (by assumption) ?_
                      try simp only [Act.put, List.setIfInBounds_toArray, List.set_cons_zero, List.set_cons_succ]
                      refine wpAnyH_take (i := 8) (oi := ⟨_, _, _, _, _, _⟩) (v := ?_) rfl (by kernel_rfl) (by kernel_rfl) (by kernel_rfl) (fun _ _ _ h => h) (Or.inl ⟨by rfl, ?_⟩) (by assumption) ?_
                      rotate_left
                      · intro W hSw
                        try dsimp only at hSw
                        go_simp
                        try with_reducible rfl
                      try simp only [Act.put, List.setIfInBounds_toArray, List.set_cons_zero, List.set_cons_succ]
                      refine wpAnyH_done (by kernel_rfl) ?_ _
                      have BB := Lib.hid (below_draws B.out 1)
                      clear hr1 hr2 ef hfs hfa hu hua B
                      go_wp2_with fail
                      go_roundg (N - (i + 1))
                      case measure => omega
                      case rel => exact ⟨i + 1, by omega, by omega, by go_num, BB.out, P.out, Q.out⟩
                    · have hltz : ¬ (i : Int) < N := by omega
                      go_wp2_with fail
                      go_ret
                      exact ⟨rfl, B.out⟩
            · have cf := fun W (hW : SlA W a0 zs) => frames_great a0 n0 c0 zs W L0.out (by omega) hW HB.out hgr
              have HG := Lib.hid hgr
              clear hgr
              go_wp2_with fail
              refine (hcc _).mono ?_
              rintro e w' ⟨rfl, rfl⟩
              clear hcc
              go_wp2_with fail
              refine (cf _ S.out).mono ?_
              rintro e w3 ⟨rfl, hD⟩
              have B3 := Lib.hid (bnext B.out hD)
              have S3 := Lib.hid (slA_below S.out hD)
              clear hD B S cf
              go_wp2_with fail
              go_loopg [9] n0 (fun gg s9 wr => ∃ i : Nat, i ≤ n0 ∧ n0 - i ≤ gg ∧ s9 = .int .i64 i ∧ Aside (∀ j, j < i → -1048576 ≤ zs.getD j 0 ∧ zs.getD j 0 ≤ 1048576) ∧ Aside (Below w.heap.size w wr) ∧ Aside (SlA wr a0 zs))
              case atStart => exact ⟨0, Nat.zero_le _, by omega, rfl, fun j hj => absurd hj (Nat.not_lt_zero _), B3.out, S3.out⟩
              case round =>
                clear B3 S3
                obtain ⟨i, hi, hgi, rfl, A, B, S⟩ := hrel
                by_cases hlt : i < n0
                · have hltz : (i : Int) < n0 := by omega
                  have hi0 : 0 ≤ (i : Int) := by omega
                  obtain ⟨g0, o0, rfl, hg0, hcs⟩ := slA_at S.out (k := i) (by rw [L0.out]; exact hlt)
                  have cx := hcs i (by rw [L0.out]; exact hlt)
                  have hA2 : ∀ z, zs.getD i 0 = z → -1048576 ≤ z → z ≤ 1048576 → ∀ j, j < i + 1 → -1048576 ≤ zs.getD j 0 ∧ zs.getD j 0 ≤ 1048576 := fun z hz h1 h2 j hj => by
                    rcases Nat.lt_or_ge j i with h3 | h3
                    · exact A.out j h3
                    · obtain rfl : j = i := by omega
                      rw [hz]; exact ⟨h1, h2⟩
                  generalize hze : zs.getD i 0 = z at *
                  have HA2 := Lib.hid (hA2 z rfl)
                  clear hcs A hA2 hze
                  by_cases b1 : z < -1048576
                  · go_wp2_with fail
                    go_ret
                    exact ⟨rfl, B.out⟩
                  · by_cases b2 : 1048576 < z
                    · go_wp2_with fail
                      go_ret
                      exact ⟨rfl, B.out⟩
                    · have HA3 := Lib.hid (HA2.out (by omega) (by omega))
                      clear HA2
                      go_wp2_with fail
                      go_roundg (n0 - (i + 1))
                      case measure => omega
                      case rel => exact ⟨i + 1, by omega, by omega, by go_num, HA3.out, B.out, S.out⟩
                · exfalso
                  have hAll : AllIn 1048576 zs := fun z hz => by
                    obtain ⟨j, hj, rfl⟩ := List.getElem_of_mem hz
                    have := A.out j (by have := L0.out; omega)
                    rwa [List.getD_eq_getElem?_getD, List.getElem?_eq_getElem hj, Option.getD_some] at this
                  have h2 := greatL_in.2 hAll
                  rw [HG.out] at h2
                  cases h2
      · obtain rfl : k = 0 := by
          rcases Nat.eq_zero_or_pos k with h | h
          · exact h
          · have := (hk2 h).2.1; omega
        have k3 : ¬ u < 0 := by omega
        clear hC hk2 hgk
        by_cases h384 : 384 < n0
        · have hz : (384 : Int) < n0 := by omega
          go_wp2_with fail
          go_ret
          exact ⟨rfl, B.out⟩
        · have hz : ¬ (384 : Int) < n0 := by omega
          have hzz : (n0 : Int) ≤ 384 := by omega
          cases hgr : greatL 1048576 zs
          · have hin := greatL_in.1 hgr
            have cf := fun W (hW : SlA W a0 zs) => frames_calls a0 n0 c0 zs W L0.out (by omega) hW hin
            have cr := fun W (hW : SlA W a0 zs) => rframes_calls a0 n0 c0 zs W L0.out (by omega) hW HK.out hin
            have hnp := countN_pos n0
            have hnr := countN_room n0
            have hfl := framesL_len zs
            rw [L0.out] at hfl
            have HFL := Lib.hid hfl
            have HAL := Lib.hid (framesL_all zs)
            have HIN := Lib.hid hin
            clear hfl hgr hin
            generalize framesL zs = fs at *
            generalize countN n0 = N at *
            go_wp2_with fail
            refine (cf _ S.out).mono ?_
            rintro e w3 ⟨g, rfl, hg3, hb3, hD⟩
            have B3 := Lib.hid (bnext B.out hD)
            have S3 := Lib.hid (slA_below S.out hD)
            have P3 := Lib.hid (blkP_of hb3)
            clear hD hb3 hg3 B S cf
            go_wp2_with fail
            go_loopg [9] n0 (fun gg s9 wr => ∃ i : Nat, i ≤ n0 ∧ n0 - i ≤ gg ∧ s9 = .int .i64 i ∧ Aside (Below w.heap.size w wr) ∧ Aside (SlA wr a0 zs) ∧ Aside (BlkP wr g 44 (flat fs)))
            case atStart => exact ⟨0, Nat.zero_le _, by omega, rfl, B3.out, S3.out, P3.out⟩
            case round =>
              clear B3 S3 P3
              obtain ⟨i, hi, hgi, rfl, B, S, P⟩ := hrel
              by_cases hlt : i < n0
              · have hltz : (i : Int) < n0 := by omega
                have hi0 : 0 ≤ (i : Int) := by omega
                obtain ⟨g0, o0, rfl, hg0, hcs⟩ := slA_at S.out (k := i) (by rw [L0.out]; exact hlt)
                have cx := hcs i (by rw [L0.out]; exact hlt)
                have bx := allIn_get HIN.out i
                generalize zs.getD i 0 = z at *
                have b1 : ¬ z < -1048576 := by omega
                have b2 : ¬ 1048576 < z := by omega
                clear hcs bx
                go_wp2_with fail
                go_roundg (n0 - (i + 1))
                case measure => omega
                case rel => exact ⟨i + 1, by omega, by omega, by go_num, B.out, S.out, P.out⟩
              · have hltz : ¬ (i : Int) < n0 := by omega
                have hce := cr _ S.out
                clear cr
                go_wp2_with fail
                refine hce.mono ?_
                rintro e w4 ⟨g2, c2, rfl, hP2, hD⟩
                have B4 := Lib.hid (bnext B.out hD)
                have P4 := Lib.hid (blkP_below P.out hD (blkP_lt P.out))
                have Q4 := Lib.hid hP2
                clear hD hP2 B S P hce hltz hlt hi hgi
                have hN14 : N ≤ 14 := by omega
                go_wp2_with fail
                go_loopg [11] N (fun gg s11 wr => ∃ i : Nat, i ≤ N ∧ N - i ≤ gg ∧ s11 = .int .i64 i ∧ Aside (Below w.heap.size w wr) ∧ Aside (BlkP wr g 44 (flat fs)) ∧ Aside (BlkP wr g2 43 (flat fs)))
                case atStart => exact ⟨0, Nat.zero_le _, by omega, rfl, B4.out, P4.out, Q4.out⟩
                case round =>
                  clear B4 P4 Q4
                  obtain ⟨i, hi, hgi, rfl, B, P, Q⟩ := hrel
                  by_cases hlt : i < N
                  · have hltz : (i : Int) < N := by omega
                    have hi0 : 0 ≤ (i : Int) := by omega
                    have hf := HAL.out i (by rw [HFL.out]; exact hlt)
                    have hr1 := frameP_range P.out (i := i) (o := i * 32) (by rw [HFL.out]; exact hlt) hf rfl
                    have hr2 := frameP_range Q.out (i := i) (o := i * 32) (by rw [HFL.out]; exact hlt) hf rfl
                    generalize fs.getD i [] = f at *
                    have ef : ∀ W, (Op.equalIn 10000 44 (.agg (f.map (Value.int .i64)).toArray) (.agg (f.map (Value.int .i64)).toArray)).run Try.prog W = .ok true W := fun W => same_frames hf W
                    have hfs : (Try.prog.info? 44).map (·.size) = some (f.map (Value.int .i64)).length := by rw [List.length_map, hf]; kernel_rfl
                    have hfa : (Try.prog.info? 43).map (·.size) = some (f.map (Value.int .i64)).length := by rw [List.length_map, hf]; kernel_rfl
                    have hu := Try.underlying44
                    have hua := Try.underlying43
                    clear hf
                    go_upto_region 22 with (fail)
                    refine wp_region_held_drew (S := (fun W => W.rangeAt g (i * 32) (f.map (Value.int .i64)) ∧ W.rangeAt g2 (i * 32) (f.map (Value.int .i64)))) (by kernel_rfl) ⟨(World.rangeAt_drew _ _ _ _).2 hr1, (World.rangeAt_drew _ _ _ _).2 hr2⟩ (fun hHeld => ?_)
                    refine wpAnyH_take (i := 0) (oi := ⟨_, _, _, _, _, _⟩) (v := ?_) rfl (by kernel_rfl) (by kernel_rfl) (by kernel_rfl) (fun _ _ _ h => h) (Or.inl ⟨by rfl, ?_⟩) (by assumption) ?_
                    rotate_left
                    · intro W hSw
                      try dsimp only at hSw
                      go_simp
                      try with_reducible rfl
                    try simp only [Act.put, List.setIfInBounds_toArray, List.set_cons_zero, List.set_cons_succ]
                    refine wpAnyH_take (i := 1) (oi := ⟨_, _, _, _, _, _⟩) (v := ?_) rfl (by kernel_rfl) (by kernel_rfl) (by kernel_rfl) (fun _ _ _ h => h) (Or.inl ⟨by rfl, ?_⟩) (by assumption) ?_
                    rotate_left
                    · intro W hSw
                      try dsimp only at hSw
                      go_simp
                      try with_reducible rfl
                    try simp only [Act.put, List.setIfInBounds_toArray, List.set_cons_zero, List.set_cons_succ]
                    refine wpAnyH_take (i := 2) (oi := ⟨_, _, _, _, _, _⟩) (v := ?_) rfl (by kernel_rfl) (by kernel_rfl) (by kernel_rfl) (fun _ _ _ h => h) (Or.inl ⟨by rfl, ?_⟩) (by assumption) ?_
                    rotate_left
                    · intro W hSw
                      try dsimp only at hSw
                      go_simp
                      try with_reducible rfl
                    try simp only [Act.put, List.setIfInBounds_toArray, List.set_cons_zero, List.set_cons_succ]
                    refine wpAnyH_take (i := 3) (oi := ⟨_, _, _, _, _, _⟩) (v := _) rfl (by kernel_rfl) (by kernel_rfl) (by kernel_rfl) (fun _ _ _ h => h) (yieldsIf_load_mid (by rfl) _ _ rfl _ _ rfl _ _ (fun _ h => h.1) hu rfl hfs) (by assumption) ?_
                    try simp only [Act.put, List.setIfInBounds_toArray, List.set_cons_zero, List.set_cons_succ]
                    refine wpAnyH_take (i := 4) (oi := ⟨_, _, _, _, _, _⟩) (v := ?_) rfl (by kernel_rfl) (by kernel_rfl) (by kernel_rfl) (fun _ _ _ h => h) (Or.inl ⟨by rfl, ?_⟩) (by assumption) ?_
                    rotate_left
                    · intro W hSw
                      try dsimp only at hSw
                      go_simp
                      try with_reducible rfl
                    try simp only [Act.put, List.setIfInBounds_toArray, List.set_cons_zero, List.set_cons_succ]
                    refine wpAnyH_take (i := 5) (oi := ⟨_, _, _, _, _, _⟩) (v := ?_) rfl (by kernel_rfl) (by kernel_rfl) (by kernel_rfl) (fun _ _ _ h => h) (Or.inl ⟨by rfl, ?_⟩) (by assumption) ?_
                    rotate_left
                    · intro W hSw
                      try dsimp only at hSw
                      go_simp
                      try with_reducible rfl
                    try simp only [Act.put, List.setIfInBounds_toArray, List.set_cons_zero, List.set_cons_succ]
                    refine wpAnyH_take (i := 6) (oi := ⟨_, _, _, _, _, _⟩) (v := ?_) rfl (by kernel_rfl) (by kernel_rfl) (by kernel_rfl) (fun _ _ _ h => h) (Or.inl ⟨by rfl, ?_⟩) (by assumption) ?_
                    rotate_left
                    · intro W hSw
                      try dsimp only at hSw
                      go_simp
                      try with_reducible rfl
                    try simp only [Act.put, List.setIfInBounds_toArray, List.set_cons_zero, List.set_cons_succ]
                    refine wpAnyH_take (i := 7) (oi := ⟨_, _, _, _, _, _⟩) (v := _) rfl (by kernel_rfl) (by kernel_rfl) (by kernel_rfl) (fun _ _ _ h => h) (yieldsIf_load_mid (by rfl) _ _ rfl _ _ rfl _ _ (fun _ h => h.2) hua rfl hfa) (by assumption) ?_
                    try simp only [Act.put, List.setIfInBounds_toArray, List.set_cons_zero, List.set_cons_succ]
                    refine wpAnyH_take (i := 8) (oi := ⟨_, _, _, _, _, _⟩) (v := ?_) rfl (by kernel_rfl) (by kernel_rfl) (by kernel_rfl) (fun _ _ _ h => h) (Or.inl ⟨by rfl, ?_⟩) (by assumption) ?_
                    rotate_left
                    · intro W hSw
                      try dsimp only at hSw
                      go_simp
                      try with_reducible rfl
                    try simp only [Act.put, List.setIfInBounds_toArray, List.set_cons_zero, List.set_cons_succ]
                    refine wpAnyH_done (by kernel_rfl) ?_ _
                    have BB := Lib.hid (below_draws B.out 1)
                    clear hr1 hr2 ef hfs hfa hu hua B
                    go_wp2_with fail
                    go_roundg (N - (i + 1))
                    case measure => omega
                    case rel => exact ⟨i + 1, by omega, by omega, by go_num, BB.out, P.out, Q.out⟩
                  · have hltz : ¬ (i : Int) < N := by omega
                    go_wp2_with fail
                    go_ret
                    exact ⟨rfl, B.out⟩
          · have cf := fun W (hW : SlA W a0 zs) => frames_great a0 n0 c0 zs W L0.out (by omega) hW HB.out hgr
            have HG := Lib.hid hgr
            clear hgr
            go_wp2_with fail
            refine (cf _ S.out).mono ?_
            rintro e w3 ⟨rfl, hD⟩
            have B3 := Lib.hid (bnext B.out hD)
            have S3 := Lib.hid (slA_below S.out hD)
            clear hD B S cf
            go_wp2_with fail
            go_loopg [9] n0 (fun gg s9 wr => ∃ i : Nat, i ≤ n0 ∧ n0 - i ≤ gg ∧ s9 = .int .i64 i ∧ Aside (∀ j, j < i → -1048576 ≤ zs.getD j 0 ∧ zs.getD j 0 ≤ 1048576) ∧ Aside (Below w.heap.size w wr) ∧ Aside (SlA wr a0 zs))
            case atStart => exact ⟨0, Nat.zero_le _, by omega, rfl, fun j hj => absurd hj (Nat.not_lt_zero _), B3.out, S3.out⟩
            case round =>
              clear B3 S3
              obtain ⟨i, hi, hgi, rfl, A, B, S⟩ := hrel
              by_cases hlt : i < n0
              · have hltz : (i : Int) < n0 := by omega
                have hi0 : 0 ≤ (i : Int) := by omega
                obtain ⟨g0, o0, rfl, hg0, hcs⟩ := slA_at S.out (k := i) (by rw [L0.out]; exact hlt)
                have cx := hcs i (by rw [L0.out]; exact hlt)
                have hA2 : ∀ z, zs.getD i 0 = z → -1048576 ≤ z → z ≤ 1048576 → ∀ j, j < i + 1 → -1048576 ≤ zs.getD j 0 ∧ zs.getD j 0 ≤ 1048576 := fun z hz h1 h2 j hj => by
                  rcases Nat.lt_or_ge j i with h3 | h3
                  · exact A.out j h3
                  · obtain rfl : j = i := by omega
                    rw [hz]; exact ⟨h1, h2⟩
                generalize hze : zs.getD i 0 = z at *
                have HA2 := Lib.hid (hA2 z rfl)
                clear hcs A hA2 hze
                by_cases b1 : z < -1048576
                · go_wp2_with fail
                  go_ret
                  exact ⟨rfl, B.out⟩
                · by_cases b2 : 1048576 < z
                  · go_wp2_with fail
                    go_ret
                    exact ⟨rfl, B.out⟩
                  · have HA3 := Lib.hid (HA2.out (by omega) (by omega))
                    clear HA2
                    go_wp2_with fail
                    go_roundg (n0 - (i + 1))
                    case measure => omega
                    case rel => exact ⟨i + 1, by omega, by omega, by go_num, HA3.out, B.out, S.out⟩
              · exfalso
                have hAll : AllIn 1048576 zs := fun z hz => by
                  obtain ⟨j, hj, rfl⟩ := List.getElem_of_mem hz
                  have := A.out j (by have := L0.out; omega)
                  rwa [List.getD_eq_getElem?_getD, List.getElem?_eq_getElem hj, Option.getD_some] at this
                have h2 := greatL_in.2 hAll
                rw [HG.out] at h2
                cases h2
    · obtain rfl : k = 0 := by
        rcases Nat.eq_zero_or_pos k with h | h
        · exact h
        · have := (hk2 h).1; omega
      have k3 : u < 0 := by omega
      have hcc := fun W => count_neg u W k3
      clear hC hk2 hgk
      by_cases h384 : 384 < n0
      · have hz : (384 : Int) < n0 := by omega
        go_wp2_with fail
        refine (hcc _).mono ?_
        rintro e w' ⟨rfl, rfl⟩
        clear hcc
        go_wp2_with fail
        go_ret
        exact ⟨rfl, B.out⟩
      · have hz : ¬ (384 : Int) < n0 := by omega
        have hzz : (n0 : Int) ≤ 384 := by omega
        cases hgr : greatL 1048576 zs
        · have hin := greatL_in.1 hgr
          have cf := fun W (hW : SlA W a0 zs) => frames_calls a0 n0 c0 zs W L0.out (by omega) hW hin
          have cr := fun W (hW : SlA W a0 zs) => rframes_calls a0 n0 c0 zs W L0.out (by omega) hW HK.out hin
          have hnp := countN_pos n0
          have hnr := countN_room n0
          have hfl := framesL_len zs
          rw [L0.out] at hfl
          have HFL := Lib.hid hfl
          have HAL := Lib.hid (framesL_all zs)
          have HIN := Lib.hid hin
          clear hfl hgr hin
          generalize framesL zs = fs at *
          generalize countN n0 = N at *
          go_wp2_with fail
          refine (hcc _).mono ?_
          rintro e w' ⟨rfl, rfl⟩
          clear hcc
          go_wp2_with fail
          refine (cf _ S.out).mono ?_
          rintro e w3 ⟨g, rfl, hg3, hb3, hD⟩
          have B3 := Lib.hid (bnext B.out hD)
          have S3 := Lib.hid (slA_below S.out hD)
          have P3 := Lib.hid (blkP_of hb3)
          clear hD hb3 hg3 B S cf
          go_wp2_with fail
          go_loopg [9] n0 (fun gg s9 wr => ∃ i : Nat, i ≤ n0 ∧ n0 - i ≤ gg ∧ s9 = .int .i64 i ∧ Aside (Below w.heap.size w wr) ∧ Aside (SlA wr a0 zs) ∧ Aside (BlkP wr g 44 (flat fs)))
          case atStart => exact ⟨0, Nat.zero_le _, by omega, rfl, B3.out, S3.out, P3.out⟩
          case round =>
            clear B3 S3 P3
            obtain ⟨i, hi, hgi, rfl, B, S, P⟩ := hrel
            by_cases hlt : i < n0
            · have hltz : (i : Int) < n0 := by omega
              have hi0 : 0 ≤ (i : Int) := by omega
              obtain ⟨g0, o0, rfl, hg0, hcs⟩ := slA_at S.out (k := i) (by rw [L0.out]; exact hlt)
              have cx := hcs i (by rw [L0.out]; exact hlt)
              have bx := allIn_get HIN.out i
              generalize zs.getD i 0 = z at *
              have b1 : ¬ z < -1048576 := by omega
              have b2 : ¬ 1048576 < z := by omega
              clear hcs bx
              go_wp2_with fail
              go_roundg (n0 - (i + 1))
              case measure => omega
              case rel => exact ⟨i + 1, by omega, by omega, by go_num, B.out, S.out, P.out⟩
            · have hltz : ¬ (i : Int) < n0 := by omega
              have hce := cr _ S.out
              clear cr
              go_wp2_with fail
              refine hce.mono ?_
              rintro e w4 ⟨g2, c2, rfl, hP2, hD⟩
              have B4 := Lib.hid (bnext B.out hD)
              have P4 := Lib.hid (blkP_below P.out hD (blkP_lt P.out))
              have Q4 := Lib.hid hP2
              clear hD hP2 B S P hce hltz hlt hi hgi
              have hN14 : N ≤ 14 := by omega
              go_wp2_with fail
              go_loopg [11] N (fun gg s11 wr => ∃ i : Nat, i ≤ N ∧ N - i ≤ gg ∧ s11 = .int .i64 i ∧ Aside (Below w.heap.size w wr) ∧ Aside (BlkP wr g 44 (flat fs)) ∧ Aside (BlkP wr g2 43 (flat fs)))
              case atStart => exact ⟨0, Nat.zero_le _, by omega, rfl, B4.out, P4.out, Q4.out⟩
              case round =>
                clear B4 P4 Q4
                obtain ⟨i, hi, hgi, rfl, B, P, Q⟩ := hrel
                by_cases hlt : i < N
                · have hltz : (i : Int) < N := by omega
                  have hi0 : 0 ≤ (i : Int) := by omega
                  have hf := HAL.out i (by rw [HFL.out]; exact hlt)
                  have hr1 := frameP_range P.out (i := i) (o := i * 32) (by rw [HFL.out]; exact hlt) hf rfl
                  have hr2 := frameP_range Q.out (i := i) (o := i * 32) (by rw [HFL.out]; exact hlt) hf rfl
                  generalize fs.getD i [] = f at *
                  have ef : ∀ W, (Op.equalIn 10000 44 (.agg (f.map (Value.int .i64)).toArray) (.agg (f.map (Value.int .i64)).toArray)).run Try.prog W = .ok true W := fun W => same_frames hf W
                  have hfs : (Try.prog.info? 44).map (·.size) = some (f.map (Value.int .i64)).length := by rw [List.length_map, hf]; kernel_rfl
                  have hfa : (Try.prog.info? 43).map (·.size) = some (f.map (Value.int .i64)).length := by rw [List.length_map, hf]; kernel_rfl
                  have hu := Try.underlying44
                  have hua := Try.underlying43
                  clear hf
                  go_upto_region 22 with (fail)
                  refine wp_region_held_drew (S := (fun W => W.rangeAt g (i * 32) (f.map (Value.int .i64)) ∧ W.rangeAt g2 (i * 32) (f.map (Value.int .i64)))) (by kernel_rfl) ⟨(World.rangeAt_drew _ _ _ _).2 hr1, (World.rangeAt_drew _ _ _ _).2 hr2⟩ (fun hHeld => ?_)
                  refine wpAnyH_take (i := 0) (oi := ⟨_, _, _, _, _, _⟩) (v := ?_) rfl (by kernel_rfl) (by kernel_rfl) (by kernel_rfl) (fun _ _ _ h => h) (Or.inl ⟨by rfl, ?_⟩) (by assumption) ?_
                  rotate_left
                  · intro W hSw
                    try dsimp only at hSw
                    go_simp
                    try with_reducible rfl
                  try simp only [Act.put, List.setIfInBounds_toArray, List.set_cons_zero, List.set_cons_succ]
                  refine wpAnyH_take (i := 1) (oi := ⟨_, _, _, _, _, _⟩) (v := ?_) rfl (by kernel_rfl) (by kernel_rfl) (by kernel_rfl) (fun _ _ _ h => h) (Or.inl ⟨by rfl, ?_⟩) (by assumption) ?_
                  rotate_left
                  · intro W hSw
                    try dsimp only at hSw
                    go_simp
                    try with_reducible rfl
                  try simp only [Act.put, List.setIfInBounds_toArray, List.set_cons_zero, List.set_cons_succ]
                  refine wpAnyH_take (i := 2) (oi := ⟨_, _, _, _, _, _⟩) (v := ?_) rfl (by kernel_rfl) (by kernel_rfl) (by kernel_rfl) (fun _ _ _ h => h) (Or.inl ⟨by rfl, ?_⟩) (by assumption) ?_
                  rotate_left
                  · intro W hSw
                    try dsimp only at hSw
                    go_simp
                    try with_reducible rfl
                  try simp only [Act.put, List.setIfInBounds_toArray, List.set_cons_zero, List.set_cons_succ]
                  refine wpAnyH_take (i := 3) (oi := ⟨_, _, _, _, _, _⟩) (v := _) rfl (by kernel_rfl) (by kernel_rfl) (by kernel_rfl) (fun _ _ _ h => h) (yieldsIf_load_mid (by rfl) _ _ rfl _ _ rfl _ _ (fun _ h => h.1) hu rfl hfs) (by assumption) ?_
                  try simp only [Act.put, List.setIfInBounds_toArray, List.set_cons_zero, List.set_cons_succ]
                  refine wpAnyH_take (i := 4) (oi := ⟨_, _, _, _, _, _⟩) (v := ?_) rfl (by kernel_rfl) (by kernel_rfl) (by kernel_rfl) (fun _ _ _ h => h) (Or.inl ⟨by rfl, ?_⟩) (by assumption) ?_
                  rotate_left
                  · intro W hSw
                    try dsimp only at hSw
                    go_simp
                    try with_reducible rfl
                  try simp only [Act.put, List.setIfInBounds_toArray, List.set_cons_zero, List.set_cons_succ]
                  refine wpAnyH_take (i := 5) (oi := ⟨_, _, _, _, _, _⟩) (v := ?_) rfl (by kernel_rfl) (by kernel_rfl) (by kernel_rfl) (fun _ _ _ h => h) (Or.inl ⟨by rfl, ?_⟩) (by assumption) ?_
                  rotate_left
                  · intro W hSw
                    try dsimp only at hSw
                    go_simp
                    try with_reducible rfl
                  try simp only [Act.put, List.setIfInBounds_toArray, List.set_cons_zero, List.set_cons_succ]
                  refine wpAnyH_take (i := 6) (oi := ⟨_, _, _, _, _, _⟩) (v := ?_) rfl (by kernel_rfl) (by kernel_rfl) (by kernel_rfl) (fun _ _ _ h => h) (Or.inl ⟨by rfl, ?_⟩) (by assumption) ?_
                  rotate_left
                  · intro W hSw
                    try dsimp only at hSw
                    go_simp
                    try with_reducible rfl
                  try simp only [Act.put, List.setIfInBounds_toArray, List.set_cons_zero, List.set_cons_succ]
                  refine wpAnyH_take (i := 7) (oi := ⟨_, _, _, _, _, _⟩) (v := _) rfl (by kernel_rfl) (by kernel_rfl) (by kernel_rfl) (fun _ _ _ h => h) (yieldsIf_load_mid (by rfl) _ _ rfl _ _ rfl _ _ (fun _ h => h.2) hua rfl hfa) (by assumption) ?_
                  try simp only [Act.put, List.setIfInBounds_toArray, List.set_cons_zero, List.set_cons_succ]
                  refine wpAnyH_take (i := 8) (oi := ⟨_, _, _, _, _, _⟩) (v := ?_) rfl (by kernel_rfl) (by kernel_rfl) (by kernel_rfl) (fun _ _ _ h => h) (Or.inl ⟨by rfl, ?_⟩) (by assumption) ?_
                  rotate_left
                  · intro W hSw
                    try dsimp only at hSw
                    go_simp
                    try with_reducible rfl
                  try simp only [Act.put, List.setIfInBounds_toArray, List.set_cons_zero, List.set_cons_succ]
                  refine wpAnyH_done (by kernel_rfl) ?_ _
                  have BB := Lib.hid (below_draws B.out 1)
                  clear hr1 hr2 ef hfs hfa hu hua B
                  go_wp2_with fail
                  go_roundg (N - (i + 1))
                  case measure => omega
                  case rel => exact ⟨i + 1, by omega, by omega, by go_num, BB.out, P.out, Q.out⟩
                · have hltz : ¬ (i : Int) < N := by omega
                  go_wp2_with fail
                  go_ret
                  exact ⟨rfl, B.out⟩
        · have cf := fun W (hW : SlA W a0 zs) => frames_great a0 n0 c0 zs W L0.out (by omega) hW HB.out hgr
          have HG := Lib.hid hgr
          clear hgr
          go_wp2_with fail
          refine (hcc _).mono ?_
          rintro e w' ⟨rfl, rfl⟩
          clear hcc
          go_wp2_with fail
          refine (cf _ S.out).mono ?_
          rintro e w3 ⟨rfl, hD⟩
          have B3 := Lib.hid (bnext B.out hD)
          have S3 := Lib.hid (slA_below S.out hD)
          clear hD B S cf
          go_wp2_with fail
          go_loopg [9] n0 (fun gg s9 wr => ∃ i : Nat, i ≤ n0 ∧ n0 - i ≤ gg ∧ s9 = .int .i64 i ∧ Aside (∀ j, j < i → -1048576 ≤ zs.getD j 0 ∧ zs.getD j 0 ≤ 1048576) ∧ Aside (Below w.heap.size w wr) ∧ Aside (SlA wr a0 zs))
          case atStart => exact ⟨0, Nat.zero_le _, by omega, rfl, fun j hj => absurd hj (Nat.not_lt_zero _), B3.out, S3.out⟩
          case round =>
            clear B3 S3
            obtain ⟨i, hi, hgi, rfl, A, B, S⟩ := hrel
            by_cases hlt : i < n0
            · have hltz : (i : Int) < n0 := by omega
              have hi0 : 0 ≤ (i : Int) := by omega
              obtain ⟨g0, o0, rfl, hg0, hcs⟩ := slA_at S.out (k := i) (by rw [L0.out]; exact hlt)
              have cx := hcs i (by rw [L0.out]; exact hlt)
              have hA2 : ∀ z, zs.getD i 0 = z → -1048576 ≤ z → z ≤ 1048576 → ∀ j, j < i + 1 → -1048576 ≤ zs.getD j 0 ∧ zs.getD j 0 ≤ 1048576 := fun z hz h1 h2 j hj => by
                rcases Nat.lt_or_ge j i with h3 | h3
                · exact A.out j h3
                · obtain rfl : j = i := by omega
                  rw [hz]; exact ⟨h1, h2⟩
              generalize hze : zs.getD i 0 = z at *
              have HA2 := Lib.hid (hA2 z rfl)
              clear hcs A hA2 hze
              by_cases b1 : z < -1048576
              · go_wp2_with fail
                go_ret
                exact ⟨rfl, B.out⟩
              · by_cases b2 : 1048576 < z
                · go_wp2_with fail
                  go_ret
                  exact ⟨rfl, B.out⟩
                · have HA3 := Lib.hid (HA2.out (by omega) (by omega))
                  clear HA2
                  go_wp2_with fail
                  go_roundg (n0 - (i + 1))
                  case measure => omega
                  case rel => exact ⟨i + 1, by omega, by omega, by go_num, HA3.out, B.out, S.out⟩
            · exfalso
              have hAll : AllIn 1048576 zs := fun z hz => by
                obtain ⟨j, hj, rfl⟩ := List.getElem_of_mem hz
                have := A.out j (by have := L0.out; omega)
                rwa [List.getD_eq_getElem?_getD, List.getElem?_eq_getElem hj, Option.getD_some] at this
              have h2 := greatL_in.2 hAll
              rw [HG.out] at h2
              cases h2
end Go.Proofs.Ytlfiaaoegeodnaa
