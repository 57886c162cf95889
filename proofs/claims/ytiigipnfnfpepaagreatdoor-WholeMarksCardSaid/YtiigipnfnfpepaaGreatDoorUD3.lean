/- The law's own setting (layer 26). The law's own sound (layer 26). The law's own sound (layer 26): walked. Towers: sound that begins alike is sent alike (plain). The walk of WholeBegins: rows of string -/
import Derived.Test.YtiigipnfnfpepaaGreatDoorUD2
import Derived.Test.YtiigipnfnfpepaaGreatDoorUA
namespace Go.Proofs.YtiigipnfnfpepaaGreatDoor
open Go.RowKit

def setI (kb : List UInt8) (sz ch : Int) : Array Value := bytesV kb ++ #[.int .i64 sz, .int .i64 ch]
theorem built_set (sz ch : Int) (l : List UInt8) (h : l.length = 16) : Tryz.prog.built 28 [(0, .agg (bytesV l)), (1, .int .i64 sz), (2, .int .i64 ch)] = some (setI l sz ch) :=
 match l, h with
 | a0 :: a1 :: a2 :: a3 :: a4 :: a5 :: a6 :: a7 :: a8 :: a9 :: a10 :: a11 :: a12 :: a13 :: a14 :: a15 :: [], _ => (show _ = _ from by kernel_rfl)
theorem build_set (sz ch : Int) {kb : List UInt8} (h : kb.length = 16) {a : Act} {op : Oper} (x y z : Operand) (ho : op.op = .build 28 #[(0, x), (1, y), (2, z)]) (hx : a.eval x = .agg (bytesV kb)) (hy : a.eval y = .int .i64 sz) (hz : a.eval z = .int .i64 ch) (W : World) :
 (execOp a.eval op).run Tryz.prog W = .ok (.value (.agg (setI kb sz ch))) W := by
 have := Go.run_build (P := Tryz.prog) W 28 #[(0, .agg (bytesV kb)), (1, .int .i64 sz), (2, .int .i64 ch)] (setI kb sz ch) (built_set sz ch kb h)
 unfold execOp
 simp only [ho, List.map_toArray, List.map_cons, List.map_nil, hx, hy, hz, Sem.run_bind, this, Result.andThen_ok]
 rfl
abbrev ZS : Array Value := #[Value.int .u8 0, Value.int .u8 0, Value.int .u8 0, Value.int .u8 0, Value.int .u8 0, Value.int .u8 0, Value.int .u8 0, Value.int .u8 0, Value.int .u8 0, Value.int .u8 0, Value.int .u8 0, Value.int .u8 0, Value.int .u8 0, Value.int .u8 0, Value.int .u8 0, Value.int .u8 0, Value.int .i64 0, Value.int .i64 0]
theorem setI_size (kb : List UInt8) (sz ch : Int) (hk : kb.length = 16) : (setI kb sz ch).size = ZS.size := by rw [setI, Array.size_append, bytesV_size, hk]; rfl
theorem setI_info (kb : List UInt8) (sz ch : Int) (hk : kb.length = 16) : (Tryz.prog.info? 28).map (·.size) = some (setI kb sz ch).size := by rw [setI, Array.size_append, bytesV_size, hk]; kernel_rfl
theorem bytesV_one (kb : List UInt8) : (bytesV kb).all (·.oneCell') = true := by simp [bytesV, Value.oneCell']
theorem setI_one (kb : List UInt8) (sz ch : Int) : (setI kb sz ch).all (·.oneCell') = true := by rw [setI, Array.all_append, bytesV_one]; simp [Value.oneCell']

set_option maxRecDepth 20000 in
set_option maxHeartbeats 4000000 in
theorem set26_calls (kb : List UInt8) (x y : Nat) (w : World) (hk : kb.length = 16) (hx : x < 256) (hy : y < 256) :
 Calls Tryz.prog 6 #[.agg (bytesV kb), .int .u8 x, .int .u8 y] w fun e w' => e = .returned (.agg (setV kb (12 + x % 13) (1 + y % 2))) ∧ Below w.heap.size w w' := by
 have HK := hid hk
 have HKS := hid (key_size hk)
 have K1 := hid (blk_alloc (blk_new w 23 (bytesV kb)) (.cells ZS 28))
 have B1 := hid (((Below.refl w.heap.size w).alloc (Nat.le_refl _) (.cells (bytesV kb) 23)).alloc (by simp) (.cells ZS 28))
 have R1 : Hid (Blk ((w.alloc (.cells (bytesV kb) 23)).alloc (.cells ZS 28)) (w.heap.size + 1) 28 ZS) := hid (by
  have := blk_new (w.alloc (.cells (bytesV kb) 23)) 28 ZS
  rw [World.size_alloc] at this
  exact this)
 have hx0 : (0 : Int) ≤ x := by omega
 have hy0 : (0 : Int) ≤ y := by omega
 have hx1 : (x : Int) < 256 := by omega
 have hy1 : (y : Int) < 256 := by omega
 obtain ⟨p, hp⟩ : ∃ p : Nat, (x : Int) % 13 = p ∧ x % 13 = p := ⟨x % 13, by omega, rfl⟩
 obtain ⟨q, hq⟩ : ∃ q : Nat, (y : Int) % 2 = q ∧ y % 2 = q := ⟨y % 2, by omega, rfl⟩
 rw [hp.2, hq.2]
 obtain ⟨hp1, _⟩ := hp
 obtain ⟨hq1, _⟩ := hq
 have hp2 : (p : Int) < 13 := by omega
 have hq2 : (q : Int) < 2 := by omega
 have hp3 : (0 : Int) ≤ p := by omega
 have hq3 : (0 : Int) ≤ q := by omega
 have HE := hid (show setI kb (12 + (p : Int)) (1 + (q : Int)) = setV kb (12 + p) (1 + q) by rw [setI, setV]; simp)
 have HSI := hid (setI_info kb (12 + (p : Int)) (1 + (q : Int)) hk)
 have HSZ := hid (setI_size kb (12 + (p : Int)) (1 + (q : Int)) hk)
 have HSO := hid (setI_one kb (12 + (p : Int)) (1 + (q : Int)))
 clear hk hx hy
 go_enter Tryz.func6, Tryz.ntmps6
 go_wp2_with (first | (refine wpList_load_blk (by rfl) 23 _ rfl w.heap.size rfl 23 (bytesV kb) _ K1.out Tryz.underlying23 rfl HKS.out ?_) | (refine wpList_val (.agg (setI kb (12 + (p : Int)) (1 + (q : Int)))) (by rfl) (build_set _ _ HK.out (.tmp 7) (.tmp 11) (.tmp 15) rfl rfl rfl rfl _) ?_) | (refine wpList_store_blk rfl 28 _ _ rfl (w.heap.size + 1) 28 ZS (setI kb (12 + (p : Int)) (1 + (q : Int))) rfl rfl R1.out HSZ.out HSI.out HSO.out ?_; intro w2 n0 n1; have R2 := hid n0; have B2 := hid (below_grown B1.out n1 B1.out.size (by omega)); clear n0 n1))
 rw [← HE.out]
 exact bodyPost_ret (results_cell_row rfl _ _ (w.heap.size + 1) 28 (setI kb (12 + (p : Int)) (1 + (q : Int))) (0, 0) _ rfl R2.out Tryz.underlying28 rfl HSI.out) rfl ⟨rfl, B2.out⟩
end Go.Proofs.YtiigipnfnfpepaaGreatDoor
namespace Go.Proofs.YtiigipnfnfpepaaGreatDoor
open Go.RowKit
attribute [local go_sem ↓] Go.wp_at_zero Go.wp_at_succ

def sndX (x : Int) : Int := x % 65536 - 32768
theorem sndX_is (x : Int) : (x.tmod 65536 + 65536).tmod 65536 - 32768 = sndX x := by
 unfold sndX
 have h1 : -65536 < x.tmod 65536 := by have := Int.tmod_lt_of_pos x (show (0:Int) < 65536 by decide); have := Int.lt_tmod_of_pos x (show (0:Int) < 65536 by decide); omega
 rw [Int.tmod_eq_emod_of_nonneg (by omega), Int.tmod_def]
 generalize x.tdiv 65536 = q
 omega
def sndAll (zs : List Int) : List Int := (zs.take 400).map sndX
def soundL (ch : Nat) (zs : List Int) : List Int := if ch = 2 ∧ (sndAll zs).length % 2 = 1 then (sndAll zs).take ((sndAll zs).length - 1) else sndAll zs
theorem sndAll_len (zs : List Int) : (sndAll zs).length = min 400 zs.length := by simp [sndAll]
theorem soundL_snd {ch : Nat} (hc : ch = 1 ∨ ch = 2) (zs : List Int) : (soundL ch zs).length ≤ 400 ∧ Snd ch (soundL ch zs) := by
 have hl := sndAll_len zs
 have hx : ∀ z ∈ sndAll zs, -32768 ≤ z ∧ z ≤ 32767 := fun z hz => by
  obtain ⟨y, _, rfl⟩ := List.mem_map.1 hz
  unfold sndX; omega
 have hy : ∀ z ∈ soundL ch zs, -32768 ≤ z ∧ z ≤ 32767 := fun z hz => by
  unfold soundL at hz
  split at hz
  · exact hx z (List.mem_of_mem_take hz)
  · exact hx z hz
 have hL : (soundL ch zs).length ≤ 400 ∧ (soundL ch zs).length % ch = 0 := by
  unfold soundL
  rcases hc with rfl | rfl
  · rw [if_neg (by omega)]; omega
  · split
    · rw [List.length_take]; omega
    · omega
 exact ⟨hL.1, by omega, hL.2, hy⟩
theorem sndAll_take (zs : List Int) {k : Nat} (hk : k < zs.length) (h2 : k < 400) : sndAll (zs.take (k + 1)) = sndAll (zs.take k) ++ [sndX (zs.getD k 0)] := by
 unfold sndAll
 rw [List.take_take, List.take_take, show min 400 (k + 1) = k + 1 by omega, show min 400 k = k by omega, List.take_succ_eq_append_getElem hk, List.map_append, List.getD_eq_getElem?_getD, List.getElem?_eq_getElem hk]
 rfl
theorem sndAll_full (zs : List Int) {k : Nat} (h : k = min 400 zs.length) : sndAll (zs.take k) = sndAll zs := by
 unfold sndAll
 rw [List.take_take]
 congr 1
 by_cases h3 : zs.length ≤ 400
 · rw [List.take_of_length_le (by omega), List.take_of_length_le (by omega)]
 · rw [show min 400 k = 400 by omega]

theorem turn13_calls (w : World) : Calls Tryz.prog 17 #[.int .u64 1, .int .i64 3] w fun e w' => e = .returned (.int .u64 8) ∧ Below w.heap.size w w' := by
 go_enter Tryz.func17, Tryz.ntmps17
 go_wp2_with fail
 go_quiet (fail)
 go_wp2_with fail
 go_ret
 exact ⟨rfl, below_draws (Below.refl _ _) nq⟩
theorem turn83_calls (w : World) : Calls Tryz.prog 17 #[.int .u64 8, .int .i64 (-3)] w fun e w' => e = .returned (.int .u64 1) ∧ Below w.heap.size w w' := by
 go_enter Tryz.func17, Tryz.ntmps17
 go_wp2_with fail
 go_quiet (fail)
 go_wp2_with fail
 go_ret
 exact ⟨rfl, below_draws (Below.refl _ _) nq⟩
theorem goes_calls (w : World) : Calls Tryz.prog 5 #[] w fun e w' => e = .returned (.bool true) ∧ Below w.heap.size w w' := by
 go_enter Tryz.func5, Tryz.ntmps5
 go_wp2_with fail
 refine (turn13_calls _).mono ?_
 rintro e w1 ⟨rfl, B1⟩
 go_wp2_with fail
 refine (turn83_calls _).mono ?_
 rintro e w2 ⟨rfl, B2⟩
 go_wp2_with fail
 go_ret
 exact ⟨rfl, bnext B1 B2⟩
end Go.Proofs.YtiigipnfnfpepaaGreatDoor
namespace Go.Proofs.YtiigipnfnfpepaaGreatDoor
open Go.RowKit
attribute [local go_sem ↓] Go.wp_at_zero Go.wp_at_succ

structure SlC (w : World) (a : Option Addr) (n c : Nat) (zs : List Int) : Prop where
 len : zs.length = n
 sl : SlA w a zs
 nil : a = none → c = 0
 lo : n ≤ c
 hi : c ≤ 9223372036854775807
theorem slC_below {w w' : World} {a : Option Addr} {n c : Nat} {zs : List Int} (h : SlC w a n c zs) (hb : Below w.heap.size w w') : SlC w' a n c zs := ⟨h.len, slA_below h.sl hb, h.nil, h.lo, h.hi⟩
theorem slC_src {w : World} {a : Option Addr} {n c : Nat} {zs : List Int} (h : SlC w a n c zs) : Src2 w (.slice a n c) zs := src2_of h.len h.sl h.nil
theorem slC_row {w : World} {base n : Nat} {v : Value} {zs : List Int} (h : w.ownsRow base 3 1 v n (zs.map (Value.int .i64))) : ∃ a c, v = .slice a n c ∧ SlC w a n c zs := by
 obtain ⟨a, c, h1, h2, h3, h4⟩ := slA_row h
 rw [h2] at h1
 refine ⟨a, c, h1, h2, h3, h4, ?_, ?_⟩
 · rcases h.2 with ⟨h5, h6⟩ | ⟨g, cap, cur, h5, h6, h7, h8, h9, h10⟩
   · omega
   · rw [h5] at h1; cases h1; exact h8
 · rcases h.2 with ⟨h5, h6⟩ | ⟨g, cap, cur, h5, h6, h7, h8, h9, h10⟩
   · rw [h5] at h1; cases h1; omega
   · rw [h5] at h1; cases h1; unfold maxLen at h9; omega
theorem slC_take {w : World} {a : Option Addr} {n c k : Nat} {zs : List Int} (h : SlC w a n c zs) (hk : k ≤ n) : SlC w a k c (zs.take k) := by
 have hl := h.len
 refine ⟨by rw [List.length_take]; omega, ?_, h.nil, Nat.le_trans hk h.lo, h.hi⟩
 rcases h.sl with rfl | ⟨g, o, h1, h2, h3⟩
 · left; simp
 · right
   refine ⟨g, o, h1, h2, fun j hj => ?_⟩
   rw [List.length_take] at hj
   rw [h3 j (by omega), List.getD_eq_getElem?_getD, List.getD_eq_getElem?_getD, List.getElem?_take_of_lt (by omega)]

set_option maxRecDepth 20000 in
set_option maxHeartbeats 4000000 in
theorem sound26_calls (ch : Nat) (a : Option Addr) (n c : Nat) (zs : List Int) (w : World) (hch : ch = 1 ∨ ch = 2) (hz : zs.length = n) (hn : n ≤ maxLen) (h : SlA w a zs) (hi : ∀ z ∈ zs, -9223372036854775808 ≤ z ∧ z ≤ 9223372036854775807) :
 Calls Tryz.prog 7 #[.slice a n c, .int .i64 ch] w fun e w' => ∃ a' c', e = .returned (.slice a' (soundL ch zs).length c') ∧ SlC w' a' (soundL ch zs).length c' (soundL ch zs) ∧ Below w.heap.size w w' := by
 unfold maxLen at hn
 obtain ⟨inf, hinf, hzr, hsz, hby⟩ := info_parts (P := Tryz.prog) (e := 3) (z := .int .i64 0) (size := 1) (bytes := 8) (by kernel_rfl)
 have H := hid h
 have HI := hid hi
 have HO := hid (World.ownsRow_nil w w.heap.size 3 1)
 have hc0 : (0 : Int) ≤ ch := by omega
 have hc2 : (ch : Int) ≤ 2 := by omega
 have HCH := hid hch
 have HZN := hid hz
 clear h hi hch hz
 go_enter Tryz.func7, Tryz.ntmps7
 go_wp2_with fail
 go_loopg [5, 6] (min 400 n) (fun gg s5 s6 wr => ∃ kk : Nat, kk ≤ min 400 n ∧ min 400 n - kk ≤ gg ∧ s6 = .int .i64 kk ∧ Aside (Below w.heap.size w wr) ∧ Aside (wr.ownsRow w.heap.size 3 1 s5 kk ((sndAll (zs.take kk)).map (Value.int .i64))))
 case atStart => exact ⟨0, Nat.zero_le _, by omega, rfl, Below.refl _ w, HO.out⟩
 case round =>
  clear HO
  obtain ⟨kk, hkk, hgk, rfl, B, O⟩ := hrel
  by_cases hlt : kk < min 400 n
  · have hltz : (kk : Int) < n := by omega
    have hlt3 : (kk : Int) < 400 := by omega
    have hk0 : 0 ≤ (kk : Int) := by omega
    obtain ⟨g0, o0, rfl, hg0, hcs⟩ := slA_at (slA_below H.out B.out) (k := kk) (by rw [HZN.out]; omega)
    have cx := hcs kk (by rw [HZN.out]; omega)
    have HT := hid (sndAll_take zs (k := kk) (by rw [HZN.out]; omega) (by omega))
    have HXI := hid (HI.out (zs.getD kk 0) (by rw [List.getD_eq_getElem?_getD, List.getElem?_eq_getElem (by rw [HZN.out]; omega)]; exact List.getElem_mem _))
    generalize zs.getD kk 0 = x at *
    have hbx := tmod_bd x (m := 65535) (by omega)
    have hsx := sndX_is x
    rw [show (65535 : Int) + 1 = 65536 from rfl] at hbx
    generalize hr : x.tmod 65536 = r at *
    rw [Int.tmod_eq_emod_of_nonneg (by omega)] at hsx
    have hr1 : (0 : Int) ≤ r + 65536 := by omega
    have HXB := HXI.out
    have hq : 0 ≤ (r + 65536) % 65536 ∧ (r + 65536) % 65536 < 65536 := by omega
    have hs := B.out.size
    clear hcs
    have hsx2 := hid (show r % 65536 - 32768 = sndX x by omega)
    clear hsx hq
    go_wp2_with (first | (at_builtin; refine wpList_append_own _ rfl _ _ 24 rfl w.heap.size 3 inf (.int .i64 0) 1 8 Tryz.underlying24 hinf hzr hsz hby rfl (by decide) _ kk _ rfl (O.out.alloc _) ⟨wr.heap.size, 0, none⟩ 1 1 [.int .i64 (r % 65536 - 32768)] rfl rfl (cell_one_new _ _ _) (by simp [Value.oneCell']) (by unfold maxLen; omega) (by omega) (by simp; omega) ?_; intro v' w5 hown' hgrow _))
    have hol := O.out.lt
    have B5 := hid ((B.out.alloc hs (.cells #[.int .i64 (r % 65536 - 32768)] 3)).grown hgrow (by simp; omega) (fun k e => (hol k e).1))
    rw [hsx2.out, show [Value.int .i64 (sndX x)] = [sndX x].map (Value.int .i64) from rfl, ← List.map_append, ← HT.out] at hown'
    have O5 := hid hown'
    clear hown' hgrow hol O B
    go_wp2_with fail
    go_roundg (min 400 n - (kk + 1))
    case measure => omega
    case rel => exact ⟨kk + 1, by omega, by omega, by go_num, B5.out, O5.out⟩
  · have hO := O.out
    have hkk2 : kk = min 400 n := by omega
    rw [sndAll_full zs (k := kk) (by rw [HZN.out]; exact hkk2)] at hO
    obtain ⟨a', c', rfl, hC⟩ := slC_row hO
    have C := hid hC
    have HSL := hid hC.len
    have hk0 : (0 : Int) ≤ kk := by omega
    have hk4 : (kk : Int) ≤ 400 := by omega
    have hcap : (kk : Int) ≤ c' := by have := hC.lo; omega
    have hcap2 : (c' : Int) ≤ 9223372036854775807 := by have := hC.hi; omega
    clear hO O hC hkk hgk hlt
    by_cases hc2' : ch = 2
    · obtain rfl := hc2'
      by_cases hm : kk % 2 = 1
      · have hmz : (kk : Int) % 2 = 1 := by omega
        have hSo := hid (show soundL 2 zs = (sndAll zs).take (kk - 1) by rw [soundL, if_pos ⟨rfl, by rw [HSL.out]; exact hm⟩, HSL.out])
        have hlen := hid (show (soundL 2 zs).length = kk - 1 by rw [hSo.out, List.length_take, HSL.out]; omega)
        have hk1 : (1 : Int) ≤ kk := by omega
        have C2 := hid (slC_take C.out (show kk - 1 ≤ kk by omega))
        rw [← hSo.out] at C2
        clear hm
        by_cases hc : kk < n
        · have hltz : (kk : Int) < n := by omega
          have hlt3 : ¬ (kk : Int) < 400 := by omega
          clear hkk2
          go_wp2_with fail
          go_ret
          rw [hlen.out]; exact ⟨a', c', rfl, C2.out, B.out⟩
        · have hltz : ¬ (kk : Int) < n := by omega
          clear hkk2
          go_wp2_with fail
          go_ret
          rw [hlen.out]; exact ⟨a', c', rfl, C2.out, B.out⟩
      · have hmz : ¬ (kk : Int) % 2 = 1 := by omega
        have hmz0 : (kk : Int) % 2 = 0 := by omega
        have hSo := hid (show soundL 2 zs = sndAll zs by rw [soundL, if_neg (fun h => hm (by rw [← HSL.out]; exact h.2))])
        clear hm hmz
        by_cases hc : kk < n
        · have hltz : (kk : Int) < n := by omega
          have hlt3 : ¬ (kk : Int) < 400 := by omega
          clear hkk2
          go_wp2_with fail
          go_ret
          rw [hSo.out, HSL.out]; exact ⟨a', c', rfl, C.out, B.out⟩
        · have hltz : ¬ (kk : Int) < n := by omega
          clear hkk2
          go_wp2_with fail
          go_ret
          rw [hSo.out, HSL.out]; exact ⟨a', c', rfl, C.out, B.out⟩
    · obtain rfl : ch = 1 := by have := HCH.out; omega
      have hSo := hid (show soundL 1 zs = sndAll zs by rw [soundL, if_neg (fun h => hc2' h.1)])
      clear hc2'
      by_cases hc : kk < n
      · have hltz : (kk : Int) < n := by omega
        have hlt3 : ¬ (kk : Int) < 400 := by omega
        clear hkk2
        go_wp2_with fail
        go_ret
        rw [hSo.out, HSL.out]; exact ⟨a', c', rfl, C.out, B.out⟩
      · have hltz : ¬ (kk : Int) < n := by omega
        clear hkk2
        go_wp2_with fail
        go_ret
        rw [hSo.out, HSL.out]; exact ⟨a', c', rfl, C.out, B.out⟩
end Go.Proofs.YtiigipnfnfpepaaGreatDoor
namespace Go.Proofs.YtiigipnfnfpepaaGreatDoor

theorem getD_left {L M : List (List Int)} {i : Nat} (h : i < L.length) : (L ++ M).getD i [] = L.getD i [] := by
 rw [List.getD_eq_getElem?_getD, List.getElem?_append_left h, ← List.getD_eq_getElem?_getD]
theorem getD_right {L M : List (List Int)} {i : Nat} (h : L.length ≤ i) : (L ++ M).getD i [] = M.getD (i - L.length) [] := by
 rw [List.getD_eq_getElem?_getD, List.getElem?_append_right h, ← List.getD_eq_getElem?_getD]
theorem bothTo_get (A B : List (List Int)) : ∀ (k i : Nat), i < k → (bothTo A B k).getD (2 * i) [] = A.getD i [] ∧ (bothTo A B k).getD (2 * i + 1) [] = B.getD i []
 | 0, _, h => absurd h (Nat.not_lt_zero _)
 | k + 1, i, h => by
  have hl := bothTo_len A B k
  rw [bothTo_succ]
  by_cases hi : i < k
  · have ih := bothTo_get A B k i hi
    rw [getD_left (by omega), getD_left (by omega)]
    exact ih
  · obtain rfl : i = k := by omega
    rw [getD_right (by omega), getD_right (by omega), hl, Nat.sub_self, show 2 * i + 1 - 2 * i = 1 by omega]
    exact ⟨rfl, rfl⟩
theorem midsL_len (x : List Int) : (midsL x).length = x.length / 2 := by simp [midsL]
theorem sidesL_len (x : List Int) : (sidesL x).length = x.length / 2 := by simp [sidesL]
theorem midsL_get (x : List Int) {q : Nat} (h : q < x.length / 2) : (midsL x).getD q 0 = midAt x q := by
 rw [midsL, List.getD_eq_getElem?_getD, List.getElem?_map, List.getElem?_range h]; rfl
theorem sidesL_get (x : List Int) {q : Nat} (h : q < x.length / 2) : (sidesL x).getD q 0 = sideAt x q := by
 rw [sidesL, List.getD_eq_getElem?_getD, List.getElem?_map, List.getElem?_range h]; rfl

theorem frL_near {ch n i : Nat} {x y : List Int} (hc : ch = 1 ∨ ch = 2) (hx : n ≤ x.length) (hy : n ≤ y.length) (h : ∀ q, q < n → x.getD q 0 = y.getD q 0) (hi : 32 * (i / ch) + 48 ≤ n / ch) : (frL ch x).getD i [] = (frL ch y).getD i [] := by
 rcases hc with rfl | rfl
 · rw [Nat.div_one, Nat.div_one] at hi
   rw [frL, frL, if_pos rfl, if_pos rfl]
   exact frames_near (fun q hq => h q (by omega)) (by unfold countN; omega) (by unfold countN; omega)
 · rw [frL, frL, if_neg (by decide), if_neg (by decide)]
   have hm : (framesL (midsL x)).getD (i / 2) [] = (framesL (midsL y)).getD (i / 2) [] := frames_near (fun q hq => by
    rw [midsL_get x (by omega), midsL_get y (by omega), midAt, midAt, h _ (by omega), h _ (by omega)]) (by rw [midsL_len]; unfold countN; omega) (by rw [midsL_len]; unfold countN; omega)
   have hs : (framesL (sidesL x)).getD (i / 2) [] = (framesL (sidesL y)).getD (i / 2) [] := frames_near (fun q hq => by
    rw [sidesL_get x (by omega), sidesL_get y (by omega), sideAt, sideAt, h _ (by omega), h _ (by omega)]) (by rw [sidesL_len]; unfold countN; omega) (by rw [sidesL_len]; unfold countN; omega)
   have gx := bothTo_get (framesL (midsL x)) (framesL (sidesL x)) (countN (x.length / 2)) (i / 2) (by unfold countN; omega)
   have gy := bothTo_get (framesL (midsL y)) (framesL (sidesL y)) (countN (y.length / 2)) (i / 2) (by unfold countN; omega)
   by_cases h2 : i % 2 = 0
   · rw [show 2 * (i / 2) = i by omega] at gx gy
     rw [gx.1, gy.1, hm]
   · rw [show 2 * (i / 2) + 1 = i by omega] at gx gy
     rw [gx.2, gy.2, hs]
theorem packets_near {kb : List UInt8} {sz ch n i : Nat} {pay : Int} {x y : List Int} (hc : ch = 1 ∨ ch = 2) (hx : n ≤ x.length) (hy : n ≤ y.length) (h : ∀ q, q < n → x.getD q 0 = y.getD q 0) (hi : 32 * (i / ch) + 48 ≤ n / ch)
 (h1 : i < (packetsL kb sz ch pay x).length) (h2 : i < (packetsL kb sz ch pay y).length) : (packetsL kb sz ch pay x).getD i [] = (packetsL kb sz ch pay y).getD i [] := by
 unfold packetsL at *
 rw [pktsL_len] at h1 h2
 rw [pktsL, pktsL, List.getD_eq_getElem?_getD, List.getD_eq_getElem?_getD, List.getElem?_map, List.getElem?_map, List.getElem?_range h1, List.getElem?_range h2]
 refine pktL_near i fun j hj => frL_near hc hx hy h ?_
 have : j / ch ≤ i / ch := Nat.div_le_div_right hj
 omega
end Go.Proofs.YtiigipnfnfpepaaGreatDoor
namespace Go.Proofs.YtiigipnfnfpepaaGreatDoor
open Go.RowKit

theorem run_append_src2 (w : World) (base : Nat) (v : Value) (n : Nat) (xs : List Int) (hown : w.ownsRow base 3 1 v n (xs.map (Value.int .i64)))
 (vx : Value) (zs : List Int) (hz : Src2 w vx zs) (hsm : n + zs.length ≤ 1000000) (hbase : base ≤ w.heap.size) :
 ∃ v' w', (Builtin.append_ #[24, 24] 24 #[v, vx]).run Tryz.prog w = .ok v' w' ∧ w'.ownsRow base 3 1 v' (n + zs.length) ((xs ++ zs).map (Value.int .i64)) ∧ w.grownBy w' v.ownBlock := by
 obtain ⟨inf, hinf, hzr, hsz, hby⟩ := info_parts (P := Tryz.prog) (e := 3) (z := .int .i64 0) (size := 1) (bytes := 8) (by kernel_rfl)
 rcases hz with ⟨rfl, rfl⟩ | ⟨ad, c, rfl, hc⟩
 · refine ⟨v, w, run_append_owned_none w base 24 24 3 inf 1 Tryz.underlying24 hinf v n _ hown, by simpa using hown, ⟨rfl, rfl, rfl, Nat.le_refl _, fun _ _ _ => rfl⟩⟩
 · obtain ⟨v', w', h1, h2, h3, _⟩ := run_append_own w base 24 24 3 inf (.int .i64 0) 1 8 Tryz.underlying24 hinf hzr hsz hby rfl (by decide) v n _ hown ad zs.length c (zs.map (Value.int .i64)) (by simp) hc (ints_one1 zs) (by unfold maxLen; omega) (by omega) hbase
   exact ⟨v', w', h1, by rw [List.map_append]; exact h2, h3⟩

theorem pay_in (x : Int) : 0 ≤ bits .and .i64 x 281474976710655 ∧ bits .and .i64 x 281474976710655 < 281474976710656 := by
 have h : (BitVec.ofInt IntKind.i64.bits x &&& BitVec.ofInt IntKind.i64.bits 281474976710655).toNat ≤ 281474976710655 := by
  rw [BitVec.toNat_and]
  refine Nat.le_trans Nat.and_le_right ?_
  decide
 have e : bits .and .i64 x 281474976710655 = IntKind.i64.wrap ((BitVec.ofInt IntKind.i64.bits x &&& BitVec.ofInt IntKind.i64.bits 281474976710655).toNat : Int) := rfl
 rw [e, IntKind.wrap_i64]
 omega

structure StrC (w : World) (a : Option Addr) (n c : Nat) (l : List (List UInt8)) : Prop where
 len : l.length = n
 lo : n ≤ c
 hi : c ≤ 9223372036854775807
 at' : l = [] ∨ ∃ g, a = some ⟨g, 0, none⟩ ∧ g < w.heap.size ∧ ∀ j, j < n → w.cell? ⟨g, j, none⟩ = some (.string (str (l.getD j [])))
theorem strC_row {w : World} {base n : Nat} {v : Value} {l : List (List UInt8)} (h : w.ownsRow base 9 1 v n (strsV l)) : ∃ a c, v = .slice a n c ∧ StrC w a n c l := by
 have hl := h.1
 rw [strsV, List.length_map, Nat.mul_one] at hl
 rcases h.2 with ⟨h1, h2⟩ | ⟨g, cap, cur, h1, h2, h3, h4, h5, h6, h7⟩
 · exact ⟨none, 0, by rw [h1, h2], hl, by omega, by omega, .inl (List.length_eq_zero_iff.1 (by omega))⟩
 · refine ⟨some ⟨g, 0, none⟩, cap, h1, hl, h4, by unfold maxLen at h5; omega, .inr ⟨g, rfl, (Array.getElem?_eq_some_iff.1 h3).1, fun j hj => ?_⟩⟩
   have h8 := congrArg (fun l : List Value => l[j]?) h7
   simp only [List.getElem?_take, Array.getElem?_toList, strsV, List.getElem?_map] at h8
   rw [if_pos (by omega), List.getElem?_eq_getElem (by omega)] at h8
   rw [List.getD_eq_getElem?_getD, List.getElem?_eq_getElem (by omega)]
   simpa [World.cell?, h3] using h8
theorem strC_below {w w' : World} {a : Option Addr} {n c : Nat} {l : List (List UInt8)} (h : StrC w a n c l) (hb : Below w.heap.size w w') : StrC w' a n c l := ⟨h.len, h.lo, h.hi, by
 rcases h.at' with h | ⟨g, h1, h2, h3⟩
 · exact .inl h
 · exact .inr ⟨g, h1, Nat.lt_of_lt_of_le h2 hb.size, fun j hj => (hb.cell (p := ⟨g, j, none⟩) h2).trans (h3 j hj)⟩⟩
theorem strC_draws {w : World} {a : Option Addr} {n c : Nat} {l : List (List UInt8)} (h : StrC w a n c l) (k : Nat) : StrC (w.drewN k) a n c l := ⟨h.len, h.lo, h.hi, h.at'⟩
theorem strC_at {w : World} {a : Option Addr} {n c : Nat} {l : List (List UInt8)} (h : StrC w a n c l) {j : Nat} (hj : j < n) : ∃ g, a = some ⟨g, 0, none⟩ ∧ g < w.heap.size ∧ w.cell? ⟨g, j, none⟩ = some (.string (str (l.getD j []))) := by
 rcases h.at' with rfl | ⟨g, h1, h2, h3⟩
 · have := h.len; simp at this; omega
 · exact ⟨g, h1, h2, h3 j hj⟩
end Go.Proofs.YtiigipnfnfpepaaGreatDoor
