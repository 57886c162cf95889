/- The walk of layer 10's statement DctPlays. -/
import Derived.Test.YtlfiaaoegeodnaaRefX
import Derived.Test.YtlfiaaoegeodnaaDctLB
import Derived.Test.YtlfiaaoegeodnaaEqI
namespace Go.Proofs.Ytlfiaaoegeodnaa
open Go.RowKit
attribute [local go_sem ↓] Go.wp_at_zero Go.wp_at_succ

theorem heldB_take (zs : List Int) {n : Nat} (h : n < zs.length) : heldB (zs.take (n + 1)) = (heldB (zs.take n) && !(decide (zs.getD n 0 < -1073741824) || decide (1073741824 < zs.getD n 0))) := by
  unfold heldB
  rw [List.take_succ_eq_append_getElem h, List.any_append, List.getD_eq_getElem?_getD, List.getElem?_eq_getElem h]
  simp [Bool.not_or]

set_option maxHeartbeats 4000000 in
theorem dctPlays_walk (a0 : List Int) (l0 : a0.length = 32) (w0 : ∀ z ∈ a0, (Lit.int .i64 z).wf = true) (w : World) : Calls Try.prog 19 #[.agg (a0.map (Value.int .i64)).toArray] w (LawTrue w) := by
  have hi := wf_i64 w0
  have ch := fun W => held_calls a0 W l0 hi
  have hht : ∀ n, n < 32 → heldB (a0.take (n + 1)) = (heldB (a0.take n) && !(decide (a0.getD n 0 < -1073741824) || decide (1073741824 < a0.getD n 0))) := fun n hn => heldB_take a0 (by omega)
  have HT := Lib.hid hht
  have htk : a0.take 32 = a0 := List.take_of_length_le (by omega)
  have HTK := Lib.hid htk
  have K0 := Lib.hid (blk_new w 43 (ints a0))
  have A0 := Lib.hid ((Below.refl _ w).alloc (Nat.le_refl _) (.cells (ints a0) 43))
  have HI := Lib.hid hi
  have L0 := Lib.hid l0
  have E0 := Lib.hid fun W => same_frames l0 W
  have hu := Try.underlying44
  have hua := Try.underlying43
  have hif : (Try.prog.info? 44).map (·.size) = some (a0.map (Value.int .i64)).length := by rw [List.length_map, l0]; kernel_rfl
  have hia : (Try.prog.info? 43).map (·.size) = some (a0.map (Value.int .i64)).length := by rw [List.length_map, l0]; kernel_rfl
  have HIF := Lib.hid hif
  have HIA := Lib.hid hia
  clear hi w0 hht htk l0 hif hia
  rw [show (a0.map (Value.int .i64)).toArray = ints a0 from rfl]
  go_enter Try.func19, Try.ntmps19
  go_wp2_with fail
  refine (awake10_calls _).mono ?_
  rintro e w1 ⟨rfl, hB⟩
  have K1 := Lib.hid (blk_below K0.out hB (blk_lt K0.out))
  have A1 := Lib.hid (bnext A0.out hB)
  clear hB K0 A0
  go_wp2_with fail
  go_loopg [3] 16 (fun gg s3 wr => ∃ n : Nat, n ≤ 16 ∧ 16 - n ≤ gg ∧ s3 = .int .i64 n ∧ Aside (Blk wr w.heap.size 43 (ints a0)) ∧ Aside (Below w.heap.size w wr))
  case atStart => exact ⟨0, Nat.zero_le _, by omega, rfl, K1.out, A1.out⟩
  case round =>
    clear K1 A1
    obtain ⟨n, hn, hgn, rfl, K, A⟩ := hrel
    by_cases hlt : n < 16
    · have hltz : (n : Int) < 16 := by omega
      have hn0 : 0 ≤ (n : Int) := by omega
      have c1 := fun W => flip_calls n W hlt
      have c2 := fun W => rflip_calls n W hlt
      have c3 := fun W => flip_calls (flipN n) W (flip_lt n)
      rw [flip_flip hlt] at c3
      generalize flipN n = fl at *
      go_wp2_with fail
      refine (c1 _).mono ?_
      rintro e w' ⟨rfl, rfl⟩
      go_wp2_with fail
      refine (c2 _).mono ?_
      rintro e w' ⟨rfl, rfl⟩
      go_wp2_with fail
      refine (c1 _).mono ?_
      rintro e w' ⟨rfl, rfl⟩
      go_wp2_with fail
      refine (c3 _).mono ?_
      rintro e w' ⟨rfl, rfl⟩
      clear c1 c2 c3
      go_wp2_with fail
      go_roundg (16 - (n + 1))
      case measure => omega
      case rel => exact ⟨n + 1, by omega, by omega, by go_num, K.out, A.out⟩
    · have hltz : ¬ (n : Int) < 16 := by omega
      have K2 := Lib.hid K.out
      have A2 := Lib.hid A.out
      have hw0 := blk_lt K.out
      clear K A hn hgn hlt
      have hs := A2.out.size
      go_wp2_with (first | (refine wpList_load_row rfl 43 _ rfl w.heap.size rfl 43 (ints a0) (0, 0) _ K2.out Try.underlying43 rfl (by rw [ints_size, L0.out]; kernel_rfl) ?_) | (refine wpList_store_blk rfl 44 _ _ rfl wr.heap.size 44 _ (ints a0) rfl rfl (blk_new wr 44 #[Value.int .i64 0, Value.int .i64 0, Value.int .i64 0, Value.int .i64 0, Value.int .i64 0, Value.int .i64 0, Value.int .i64 0, Value.int .i64 0, Value.int .i64 0, Value.int .i64 0, Value.int .i64 0, Value.int .i64 0, Value.int .i64 0, Value.int .i64 0, Value.int .i64 0, Value.int .i64 0, Value.int .i64 0, Value.int .i64 0, Value.int .i64 0, Value.int .i64 0, Value.int .i64 0, Value.int .i64 0, Value.int .i64 0, Value.int .i64 0, Value.int .i64 0, Value.int .i64 0, Value.int .i64 0, Value.int .i64 0, Value.int .i64 0, Value.int .i64 0, Value.int .i64 0, Value.int .i64 0]) (by rw [ints_size, L0.out]; rfl) (by rw [ints_size, L0.out]; kernel_rfl) (ints_one _) ?_; intro w2 n0 hg))
      have A3 := Lib.hid (below_grown (A2.out.alloc hs (.cells #[Value.int .i64 0, Value.int .i64 0, Value.int .i64 0, Value.int .i64 0, Value.int .i64 0, Value.int .i64 0, Value.int .i64 0, Value.int .i64 0, Value.int .i64 0, Value.int .i64 0, Value.int .i64 0, Value.int .i64 0, Value.int .i64 0, Value.int .i64 0, Value.int .i64 0, Value.int .i64 0, Value.int .i64 0, Value.int .i64 0, Value.int .i64 0, Value.int .i64 0, Value.int .i64 0, Value.int .i64 0, Value.int .i64 0, Value.int .i64 0, Value.int .i64 0, Value.int .i64 0, Value.int .i64 0, Value.int .i64 0, Value.int .i64 0, Value.int .i64 0, Value.int .i64 0, Value.int .i64 0] 44)) hg (by simp; omega) hs)
      have K3 := Lib.hid (blk_grown (blk_alloc K2.out (.cells #[Value.int .i64 0, Value.int .i64 0, Value.int .i64 0, Value.int .i64 0, Value.int .i64 0, Value.int .i64 0, Value.int .i64 0, Value.int .i64 0, Value.int .i64 0, Value.int .i64 0, Value.int .i64 0, Value.int .i64 0, Value.int .i64 0, Value.int .i64 0, Value.int .i64 0, Value.int .i64 0, Value.int .i64 0, Value.int .i64 0, Value.int .i64 0, Value.int .i64 0, Value.int .i64 0, Value.int .i64 0, Value.int .i64 0, Value.int .i64 0, Value.int .i64 0, Value.int .i64 0, Value.int .i64 0, Value.int .i64 0, Value.int .i64 0, Value.int .i64 0, Value.int .i64 0, Value.int .i64 0] 44)) hg (by simp; omega))
      have N3 := Lib.hid n0
      clear hg K2 A2 n0 hw0
      generalize wr.heap.size = g at *
      clear hs
      have hb0 : heldB (a0.take 0) = true := rfl
      have HB0 := Lib.hid hb0
      clear hb0
      go_loopg [5, 6] 32 (fun gg s5 s6 wq => ∃ n : Nat, n ≤ 32 ∧ 32 - n ≤ gg ∧ s6 = .int .i64 n ∧ s5 = .bool (heldB (a0.take n)) ∧ Aside (Blk wq w.heap.size 43 (ints a0)) ∧ Aside (Blk wq g 44 (ints a0)) ∧ Aside (Below w.heap.size w wq))
      case atStart => exact ⟨0, Nat.zero_le _, by omega, rfl, by rw [HB0.out], K3.out, N3.out, A3.out⟩
      case round =>
        clear K3 N3 A3 HB0
        obtain ⟨n, hn, hgn, rfl, rfl, K, N, A⟩ := hrel
        by_cases hlt : n < 32
        · have hltz : (n : Int) < 32 := by omega
          have hn0 : 0 ≤ (n : Int) := by omega
          have cz := blk_int K.out (i := n) (by rw [L0.out]; exact hlt)
          have ht := HT.out n hlt
          generalize a0.getD n 0 = z at *
          have HN := Lib.hid ht
          clear ht
          cases hb : heldB (a0.take n)
          · rw [hb] at HN
            have HN2 : Hid (heldB (a0.take (n + 1)) = false) := Lib.hid (by rw [HN.out]; rfl)
            clear hb HN
            go_wp2_with fail
            go_roundg (32 - (n + 1))
            case measure => omega
            case rel => exact ⟨n + 1, by omega, by omega, by go_num, by rw [HN2.out], K.out, N.out, A.out⟩
          · rw [hb] at HN
            clear hb
            by_cases h1 : -1073741824 ≤ z
            · by_cases h2 : z ≤ 1073741824
              · have HN2 : Hid (heldB (a0.take (n + 1)) = true) := Lib.hid (by rw [HN.out]; simp; omega)
                clear HN
                go_wp2_with fail
                go_roundg (32 - (n + 1))
                case measure => omega
                case rel => exact ⟨n + 1, by omega, by omega, by go_num, by rw [HN2.out], K.out, N.out, A.out⟩
              · have HN2 : Hid (heldB (a0.take (n + 1)) = false) := Lib.hid (by rw [HN.out]; simp; omega)
                clear HN
                go_wp2_with fail
                go_roundg (32 - (n + 1))
                case measure => omega
                case rel => exact ⟨n + 1, by omega, by omega, by go_num, by rw [HN2.out], K.out, N.out, A.out⟩
            · have HN2 : Hid (heldB (a0.take (n + 1)) = false) := Lib.hid (by rw [HN.out]; simp; omega)
              clear HN
              go_wp2_with fail
              go_roundg (32 - (n + 1))
              case measure => omega
              case rel => exact ⟨n + 1, by omega, by omega, by go_num, by rw [HN2.out], K.out, N.out, A.out⟩
        · obtain rfl : n = 32 := by omega
          rw [HTK.out]
          have K4 := K.out
          have N4 := N.out
          have A4 := A.out
          clear K N A hlt hn hgn HT HTK
          go_wp2_with (first | (refine wpList_load_row rfl 44 _ rfl g rfl 44 (ints a0) (0, 0) _ N4 Try.underlying44 rfl (by rw [ints_size, L0.out]; kernel_rfl) ?_))
          refine (ch _).mono ?_
          rintro e w5 ⟨rfl, hC⟩
          have K5 := blk_below K4 hC (blk_lt K4)
          have N5 := blk_below N4 hC (blk_lt N4)
          have A5 := bnext A4 hC
          clear K4 N4 A4 hC ch
          have e0 := E0.out
          have hif := HIF.out
          have hia := HIA.out
          cases hb : heldB a0
          · have cw := fun W => waves_away a0 W L0.out HI.out hb
            have cb := fun W => dback_away a0 W L0.out HI.out hb
            clear hb E0 HIF HIA HI L0 K5
            simp only [ints] at cw cb e0
            go_wp2_with fail
            refine wp_region_held_drew (S := (fun W => Blk W g 44 (ints a0) ∧ Below w.heap.size w W)) (by kernel_rfl) ⟨blk_drew N5, A5.drew⟩ (fun hHeld => ?_)
            refine wpAnyH_take (i := 0) (oi := ⟨_, _, _, _, _, _⟩) (v := _) rfl (by kernel_rfl) (by kernel_rfl) (by kernel_rfl) (fun _ _ _ h => h) (yieldsIf_load_mid (by rfl) _ _ rfl _ _ rfl _ _ (fun _ h => range_whole h.1) hu rfl hif) (by assumption) ?_
            try simp only [Act.put, List.setIfInBounds_toArray, List.set_cons_zero, List.set_cons_succ]
            refine wpAnyH_take (i := 2) (oi := ⟨_, _, _, _, _, _⟩) (v := _) rfl (by kernel_rfl) (by kernel_rfl) (by kernel_rfl) (fun _ _ _ h => h) (yieldsIf_load_mid (by rfl) _ _ rfl _ _ rfl _ _ (fun _ h => range_whole h.1) hu rfl hif) (by assumption) ?_
            try simp only [Act.put, List.setIfInBounds_toArray, List.set_cons_zero, List.set_cons_succ]
            refine wpAnyH_ready (rs := [1]) (by kernel_rfl) (by simp) ?_
            refine AllReadyH.cons (o := ⟨_, _, _, _, _, _⟩) rfl (fun K hK => ?_) AllReadyH.nil
            go_simp
            refine (cw _).mono ?_
            rintro e w' ⟨rfl, hC⟩
            go_simp
            refine hK.out _ _ ⟨blk_below hHeld.1 hC (blk_lt hHeld.1), bnext hHeld.2 hC⟩ (fun hHeld => ?_)
            clear hK K
            try simp only [Act.put, List.setIfInBounds_toArray, List.set_cons_zero, List.set_cons_succ]
            refine wpAnyH_take (i := 3) (oi := ⟨_, _, _, _, _, _⟩) (v := ?_) rfl (by kernel_rfl) (by kernel_rfl) (by kernel_rfl) (fun _ _ _ h => h) (Or.inl ⟨by rfl, ?_⟩) (by assumption) ?_
            rotate_left
            · intro W hSw
              try dsimp only at hSw
              go_simp
              try with_reducible rfl
            try simp only [Act.put, List.setIfInBounds_toArray, List.set_cons_zero, List.set_cons_succ]
            refine wpAnyH_take (i := 4) (oi := ⟨_, _, _, _, _, _⟩) (v := ?_) rfl (by kernel_rfl) (by kernel_rfl) (by kernel_rfl) (fun _ _ _ h => h) (Or.inl ⟨by rfl, ?_⟩) (by assumption) ?_
            rotate_left
            · intro W hSw
              try dsimp only at hSw
              go_simp
              try with_reducible rfl
            try simp only [Act.put, List.setIfInBounds_toArray, List.set_cons_zero, List.set_cons_succ]
            refine wpAnyH_take (i := 5) (oi := ⟨_, _, _, _, _, _⟩) (v := _) rfl (by kernel_rfl) (by kernel_rfl) (by kernel_rfl) (fun _ _ _ h => h) (yieldsIf_load_mid (by rfl) _ _ rfl _ _ rfl _ _ (fun _ h => range_whole h.1) hu rfl hif) (by assumption) ?_
            try simp only [Act.put, List.setIfInBounds_toArray, List.set_cons_zero, List.set_cons_succ]
            refine wpAnyH_take (i := 7) (oi := ⟨_, _, _, _, _, _⟩) (v := _) rfl (by kernel_rfl) (by kernel_rfl) (by kernel_rfl) (fun _ _ _ h => h) (yieldsIf_load_mid (by rfl) _ _ rfl _ _ rfl _ _ (fun _ h => range_whole h.1) hu rfl hif) (by assumption) ?_
            try simp only [Act.put, List.setIfInBounds_toArray, List.set_cons_zero, List.set_cons_succ]
            refine wpAnyH_ready (rs := [6]) (by kernel_rfl) (by simp) ?_
            refine AllReadyH.cons (o := ⟨_, _, _, _, _, _⟩) rfl (fun K hK => ?_) AllReadyH.nil
            go_simp
            refine (cb _).mono ?_
            rintro e w' ⟨rfl, hC⟩
            go_simp
            refine hK.out _ _ ⟨blk_below hHeld.1 hC (blk_lt hHeld.1), bnext hHeld.2 hC⟩ (fun hHeld => ?_)
            clear hK K
            try simp only [Act.put, List.setIfInBounds_toArray, List.set_cons_zero, List.set_cons_succ]
            refine wpAnyH_take (i := 8) (oi := ⟨_, _, _, _, _, _⟩) (v := ?_) rfl (by kernel_rfl) (by kernel_rfl) (by kernel_rfl) (fun _ _ _ h => h) (Or.inl ⟨by rfl, ?_⟩) (by assumption) ?_
            rotate_left
            · intro W hSw
              try dsimp only at hSw
              go_simp
              try with_reducible rfl
            try simp only [Act.put, List.setIfInBounds_toArray, List.set_cons_zero, List.set_cons_succ]
            refine wpAnyH_take (i := 9) (oi := ⟨_, _, _, _, _, _⟩) (v := ?_) rfl (by kernel_rfl) (by kernel_rfl) (by kernel_rfl) (fun _ _ _ h => h) (Or.inl ⟨by rfl, ?_⟩) (by assumption) ?_
            rotate_left
            · intro W hSw
              try dsimp only at hSw
              go_simp
              try with_reducible rfl
            try simp only [Act.put, List.setIfInBounds_toArray, List.set_cons_zero, List.set_cons_succ]
            refine wpAnyH_take (i := 10) (oi := ⟨_, _, _, _, _, _⟩) (v := ?_) rfl (by kernel_rfl) (by kernel_rfl) (by kernel_rfl) (fun _ _ _ h => h) (Or.inl ⟨by rfl, ?_⟩) (by assumption) ?_
            rotate_left
            · intro W hSw
              try dsimp only at hSw
              go_simp
              try with_reducible rfl
            try simp only [Act.put, List.setIfInBounds_toArray, List.set_cons_zero, List.set_cons_succ]
            refine wpAnyH_done (by kernel_rfl) ?_ _
            have hE2 := hHeld.2
            clear hHeld
            go_wp2_with fail
            go_ret
            exact ⟨rfl, hE2⟩
          · have hin := held_in.1 hb
            have cw := fun W => waves_of L0.out hin W
            have cr := fun W => rwaves_calls a0 W L0.out hin
            have e1 := fun W => same_frames ((wavesL_len a0).trans L0.out) W
            generalize wavesL a0 = y at *
            clear hb E0 HIF HIA HI L0 e0 hin
            simp only [ints] at cw cr e1
            go_wp2_with fail
            refine wp_region_held_drew (S := (fun W => Blk W g 44 (ints a0) ∧ Blk W w.heap.size 43 (ints a0) ∧ Below w.heap.size w W)) (by kernel_rfl) ⟨blk_drew N5, blk_drew K5, A5.drew⟩ (fun hHeld => ?_)
            refine wpAnyH_take (i := 0) (oi := ⟨_, _, _, _, _, _⟩) (v := _) rfl (by kernel_rfl) (by kernel_rfl) (by kernel_rfl) (fun _ _ _ h => h) (yieldsIf_load_mid (by rfl) _ _ rfl _ _ rfl _ _ (fun _ h => range_whole h.1) hu rfl hif) (by assumption) ?_
            try simp only [Act.put, List.setIfInBounds_toArray, List.set_cons_zero, List.set_cons_succ]
            refine wpAnyH_take (i := 2) (oi := ⟨_, _, _, _, _, _⟩) (v := _) rfl (by kernel_rfl) (by kernel_rfl) (by kernel_rfl) (fun _ _ _ h => h) (yieldsIf_load_mid (by rfl) _ _ rfl _ _ rfl _ _ (fun _ h => range_whole h.2.1) hua rfl hia) (by assumption) ?_
            try simp only [Act.put, List.setIfInBounds_toArray, List.set_cons_zero, List.set_cons_succ]
            refine wpAnyH_ready (rs := [1]) (by kernel_rfl) (by simp) ?_
            refine AllReadyH.cons (o := ⟨_, _, _, _, _, _⟩) rfl (fun K hK => ?_) AllReadyH.nil
            go_simp
            refine (cw _).mono ?_
            rintro e w' ⟨rfl, hC⟩
            go_simp
            refine hK.out _ _ ⟨blk_below hHeld.1 hC (blk_lt hHeld.1), blk_below hHeld.2.1 hC (blk_lt hHeld.2.1), bnext hHeld.2.2 hC⟩ (fun hHeld => ?_)
            clear hK K
            try simp only [Act.put, List.setIfInBounds_toArray, List.set_cons_zero, List.set_cons_succ]
            refine wpAnyH_ready (rs := [3]) (by kernel_rfl) (by simp) ?_
            refine AllReadyH.cons (o := ⟨_, _, _, _, _, _⟩) rfl (fun K hK => ?_) AllReadyH.nil
            go_simp
            refine (cr _).mono ?_
            rintro e w' ⟨rfl, hC⟩
            go_simp
            refine hK.out _ _ ⟨blk_below hHeld.1 hC (blk_lt hHeld.1), blk_below hHeld.2.1 hC (blk_lt hHeld.2.1), bnext hHeld.2.2 hC⟩ (fun hHeld => ?_)
            clear hK K
            try simp only [Act.put, List.setIfInBounds_toArray, List.set_cons_zero, List.set_cons_succ]
            refine wpAnyH_take (i := 4) (oi := ⟨_, _, _, _, _, _⟩) (v := ?_) rfl (by kernel_rfl) (by kernel_rfl) (by kernel_rfl) (fun _ _ _ h => h) (Or.inl ⟨by rfl, ?_⟩) (by assumption) ?_
            rotate_left
            · intro W hSw
              try dsimp only at hSw
              go_simp
              try with_reducible rfl
            try simp only [Act.put, List.setIfInBounds_toArray, List.set_cons_zero, List.set_cons_succ]
            refine wpAnyH_take (i := 5) (oi := ⟨_, _, _, _, _, _⟩) (v := ?_) rfl (by kernel_rfl) (by kernel_rfl) (by kernel_rfl) (fun _ _ _ h => h) (Or.inl ⟨by rfl, ?_⟩) (by assumption) ?_
            rotate_left
            · intro W hSw
              try dsimp only at hSw
              go_simp
              try with_reducible rfl
            try simp only [Act.put, List.setIfInBounds_toArray, List.set_cons_zero, List.set_cons_succ]
            refine wpAnyH_done (by kernel_rfl) ?_ _
            have hE2 := hHeld.2.2
            clear hHeld
            go_wp2_with fail
            go_ret
            exact ⟨rfl, hE2⟩
end Go.Proofs.Ytlfiaaoegeodnaa
