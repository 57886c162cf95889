/- The contract of lap.Frames at samples that are held. -/
import Derived.Test.YtlfiaaoegeodnaaLapF
namespace Go.Proofs.Ytlfiaaoegeodnaa
open Go.RowKit
attribute [local go_sem ↓] Go.wp_at_zero Go.wp_at_succ

/-- what is asked of frames while seams are turned -/
theorem seamed_in {c : Int} {A B : List Int → List Int → List Int} {fs : List (List Int)} (hc : 0 ≤ c) (h : ∀ i, AllIn c (fs.getD i []))
    (hA : ∀ a b, AllIn c a → AllIn c b → AllIn (c + c / 2 + 2) (A a b)) (hB : ∀ a b, AllIn c a → AllIn c b → AllIn (c + c / 2 + 2) (B a b)) (k i : Nat) : AllIn (c + c / 2 + 2) (seamed A B fs k i) := by
  intro z hz
  simp only [seamed, List.mem_map, List.mem_range] at hz
  obtain ⟨j, _, rfl⟩ := hz
  have h1 := allIn_get (h i) j
  have h2 := allIn_get (hB _ _ (h (i - 1)) (h i)) j
  have h3 := allIn_get (hA _ _ (h i) (h (i + 1))) j
  split <;> split <;> omega
theorem framesOf_in {c : Int} {l : List Int} (hc : 0 ≤ c) (h : AllIn c l) (i : Nat) : AllIn c ((framesOf l).getD i []) := by
  rcases Nat.lt_or_ge i (countN l.length) with hi | hi
  · rw [framesOf_get l hi]
    intro z hz
    simp only [List.mem_map, List.mem_range] at hz
    obtain ⟨j, _, rfl⟩ := hz
    exact allIn_get h _
  · rw [List.getD_eq_getElem?_getD, List.getElem?_eq_none (by rw [framesOf_len]; exact hi)]
    intro z hz
    simp at hz
theorem seam1_in {c : Int} (hc : 0 ≤ c) (a b : List Int) (ha : AllIn c a) (hb : AllIn c b) : AllIn (c + c / 2 + 2) (seam1 a b) :=
  seamA_in hc ha hb (fun _ _ _ h1 h2 h3 h4 => ⟨(turnL_in hc h1 h2 h3 h4).1, (turnL_in hc h1 h2 h3 h4).2.1⟩) 16
theorem seam2_in {c : Int} (hc : 0 ≤ c) (a b : List Int) (ha : AllIn c a) (hb : AllIn c b) : AllIn (c + c / 2 + 2) (seam2 a b) :=
  seamB_in hc ha hb (fun _ _ _ h1 h2 h3 h4 => (turnL_in hc h1 h2 h3 h4).2.2) 16
theorem unseam1_in {c : Int} (hc : 0 ≤ c) (a b : List Int) (ha : AllIn c a) (hb : AllIn c b) : AllIn (c + c / 2 + 2) (unseam1 a b) :=
  seamA_in hc ha hb (fun _ _ _ h1 h2 h3 h4 => ⟨(backL_in hc h1 h2 h3 h4).1, (backL_in hc h1 h2 h3 h4).2.1⟩) 16
theorem unseam2_in {c : Int} (hc : 0 ≤ c) (a b : List Int) (ha : AllIn c a) (hb : AllIn c b) : AllIn (c + c / 2 + 2) (unseam2 a b) :=
  seamB_in hc ha hb (fun _ _ _ h1 h2 h3 h4 => (backL_in hc h1 h2 h3 h4).2.2) 16
theorem countN_pos (n : Nat) : 1 ≤ countN n := by unfold countN; omega
theorem countN_room (n : Nat) : n ≤ 32 * countN n - 32 ∧ 32 * countN n ≤ n + 64 := by unfold countN; omega
/-- what the seams leave -/
theorem seams_is {A B : List Int → List Int → List Int} {fs : List (List Int)} (hA : HalfA A) (hB : HalfB B) (h32 : All32 fs) {k i : Nat} (hk : k + 1 ≤ fs.length) (hi : i < fs.length) : (seamTo A B fs k).getD i [] = seamed A B fs k i := seamTo_get hA hB h32 k hk i hi
theorem seamTo_all {A B : List Int → List Int → List Int} {fs : List (List Int)} (hA : HalfA A) (hB : HalfB B) (h32 : All32 fs) {k : Nat} (hk : k + 1 ≤ fs.length) : All32 (seamTo A B fs k) := by
  intro i hi
  rw [seamTo_len] at hi
  rw [seams_is hA hB h32 hk hi, seamed_len]

set_option maxRecDepth 100000 in
set_option maxHeartbeats 8000000 in
theorem frames_calls (a : Option Addr) (n c : Nat) (l : List Int) (w : World) (hz : l.length = n) (hn : n ≤ 100000) (h : SlA w a l) (hl : AllIn 1048576 l) :
    Calls Try.prog 56 #[.slice a n c] w fun e w' => ∃ g, e = .returned (.tuple #[.slice (some ⟨g, 0, none⟩) (countN n) (countN n), .int .i64 0]) ∧ w.heap.size ≤ g ∧ Blk w' g 44 (ints (flat (framesL l))) ∧ Below w.heap.size w w' := by
  have hc := lcontains 1048576 a n c l w (by omega) (by omega) hz (by omega) h (allIn_i64 hl)
  have hA := (Below.refl _ w).alloc (Nat.le_refl _) (.cells #[.int .i64 1048576] 3)
  rw [show (l.any fun x => decide (x < -1048576) || decide (1048576 < x)) = false from greatL_in.2 hl] at hc
  have h32 := framesOf_all l
  have hfl := framesOf_len l
  rw [hz] at hfl
  have hin0 := framesOf_in (by omega) hl
  have hff := fill_frames l
  rw [hz] at hff
  have hroom := countN_room n
  have hpos := countN_pos n
  have hcn := countN_cast n
  have HFL := Lib.hid (show framesL l = (seamTo seam1 seam2 (framesOf l) (countN n - 1)).map wavesL by unfold framesL; rw [hz])
  generalize hm : countN n = m at *
  have HM := Lib.hid hm
  clear hm
  have HCN := Lib.hid hcn
  have H := Lib.hid h
  have HFF := Lib.hid hff
  have HL := Lib.hid hl
  have H32 := Lib.hid h32
  have HIN := Lib.hid hin0
  obtain ⟨inf, hinf, hzr, hsz, hby⟩ := info_parts (P := Try.prog) (e := 44) (z := .agg #[Value.int .i64 0, Value.int .i64 0, Value.int .i64 0, Value.int .i64 0, Value.int .i64 0, Value.int .i64 0, Value.int .i64 0, Value.int .i64 0, Value.int .i64 0, Value.int .i64 0, Value.int .i64 0, Value.int .i64 0, Value.int .i64 0, Value.int .i64 0, Value.int .i64 0, Value.int .i64 0, Value.int .i64 0, Value.int .i64 0, Value.int .i64 0, Value.int .i64 0, Value.int .i64 0, Value.int .i64 0, Value.int .i64 0, Value.int .i64 0, Value.int .i64 0, Value.int .i64 0, Value.int .i64 0, Value.int .i64 0, Value.int .i64 0, Value.int .i64 0, Value.int .i64 0, Value.int .i64 0]) (size := 32) (bytes := 256) (by kernel_rfl)
  have hmk := fun (W : World) => run_make (P := Try.prog) W 54 44 inf (.agg #[Value.int .i64 0, Value.int .i64 0, Value.int .i64 0, Value.int .i64 0, Value.int .i64 0, Value.int .i64 0, Value.int .i64 0, Value.int .i64 0, Value.int .i64 0, Value.int .i64 0, Value.int .i64 0, Value.int .i64 0, Value.int .i64 0, Value.int .i64 0, Value.int .i64 0, Value.int .i64 0, Value.int .i64 0, Value.int .i64 0, Value.int .i64 0, Value.int .i64 0, Value.int .i64 0, Value.int .i64 0, Value.int .i64 0, Value.int .i64 0, Value.int .i64 0, Value.int .i64 0, Value.int .i64 0, Value.int .i64 0, Value.int .i64 0, Value.int .i64 0, Value.int .i64 0, Value.int .i64 0]) Try.underlying54 hinf hzr .i64 .i64 m m (by omega) (Int.le_refl _) (by rw [hby]; omega) (by omega)
  rw [hsz, Int.toNat_natCast, show (Value.agg #[Value.int .i64 0, Value.int .i64 0, Value.int .i64 0, Value.int .i64 0, Value.int .i64 0, Value.int .i64 0, Value.int .i64 0, Value.int .i64 0, Value.int .i64 0, Value.int .i64 0, Value.int .i64 0, Value.int .i64 0, Value.int .i64 0, Value.int .i64 0, Value.int .i64 0, Value.int .i64 0, Value.int .i64 0, Value.int .i64 0, Value.int .i64 0, Value.int .i64 0, Value.int .i64 0, Value.int .i64 0, Value.int .i64 0, Value.int .i64 0, Value.int .i64 0, Value.int .i64 0, Value.int .i64 0, Value.int .i64 0, Value.int .i64 0, Value.int .i64 0, Value.int .i64 0, Value.int .i64 0]).cells = ints (List.replicate 32 0) by kernel_rfl, made_frames] at hmk
  have HMK := Lib.hid hmk
  clear hmk hinf hzr hsz hby hcn h hff hl h32 hin0
  have cc := fun W => count_calls n W (by omega) (by omega)
  rw [HCN.out] at cc
  go_enter Try.func56, Try.ntmps56
  go_wp2_with fail
  refine (lgreat_calls _ _).mono ?_
  rintro e w1 ⟨rfl, rfl⟩
  go_wp2_with fail
  refine hc.mono ?_
  rintro e w2 ⟨rfl, hB⟩
  have hE := Lib.hid (bnext hA hB)
  clear hc hA hB
  have hm5 : (m : Int) ≤ 4096 := by omega
  go_wp2_with fail
  refine (cc _).mono ?_
  rintro e w' ⟨rfl, rfl⟩
  go_wp2_with fail
  refine (cc _).mono ?_
  rintro e w' ⟨rfl, rfl⟩
  have hmk := HMK.out w2
  go_wp2_with fail
  have hs := hE.out.size
  have B0 := Lib.hid (hE.out.alloc hs (.cells (ints (List.replicate (32 * m) 0)) 44))
  have K0 := Lib.hid (blk_new w2 44 (ints (List.replicate (32 * m) 0)))
  clear hmk hE
  generalize hg : w2.heap.size = g at *
  have HG := Lib.hid hg
  clear hg
  go_loopg [24] n (fun gg s24 wr => ∃ kk : Nat, kk ≤ n ∧ n - kk ≤ gg ∧ s24 = .int .i64 kk ∧ Aside (Below w.heap.size w wr) ∧ Aside (Blk wr g 44 (ints (overTo (fun i => l.getD i 0) (List.replicate (32 * m) 0) kk))))
  case atStart => exact ⟨0, Nat.zero_le _, by omega, rfl, B0.out, by rw [overTo_zero]; exact K0.out⟩
  case round =>
    clear B0 K0
    obtain ⟨kk, hkk, hgk, rfl, B, K0⟩ := hrel
    by_cases hlt : kk < n
    · have hltz : (kk : Int) < n := by omega
      obtain ⟨q, hq⟩ : ∃ q : Nat, (kk : Int) / 32 = q := ⟨kk / 32, by omega⟩
      obtain ⟨r, hr⟩ : ∃ r : Nat, (kk : Int) % 32 = r := ⟨kk % 32, by omega⟩
      have hqr : q * 32 + r = kk := by omega
      have hqm : (q : Int) < m := by omega
      have hr32 : (r : Int) < 32 := by omega
      have hSl := slA_at (slA_below2 H.out B.out) (k := kk) (by omega)
      obtain ⟨g0, o0, rfl, hg0, hcs⟩ := hSl
      have cx := hcs kk (by omega)
      have hlo := overTo_len (fun i => l.getD i 0) (List.replicate (32 * m) 0) kk
      have c0 := blk_int K0.out (i := kk) (by rw [hlo, List.length_replicate]; omega)
      have f0 := blk_free K0.out kk
      have HOV := Lib.hid (overTo_succ (g := fun i => l.getD i 0) (zs := List.replicate (32 * m) 0) (k := kk) (v := l.getD kk 0) rfl (by rw [List.length_replicate]; omega))
      rw [← hqr] at c0 f0
      generalize l.getD kk 0 = x at *
      have HQR := Lib.hid hqr
      clear hqr hcs hlo
      go_wp2_with fail
      go_roundg (n - (kk + 1))
      case measure => omega
      case rel =>
        have hh := blk_set_int K0.out kk x
        rw [HOV.out] at hh
        have hbb := B.out.setCell (p := ⟨g, kk, none⟩) hs (.int .i64 x)
        rw [← HQR.out] at hh hbb
        exact ⟨kk + 1, by omega, by omega, by go_num, hbb, by rw [HQR.out] at hh ⊢; exact hh⟩
    · have hltz : ¬ (kk : Int) < n := by omega
      obtain rfl : kk = n := by omega
      have K1 := K0.out
      rw [HFF.out] at K1
      have K2 := Lib.hid K1
      have hA1 := HalfA1
      have hB1 := HalfB1
      clear K0 K1 HFF hltz hgk hkk
      go_wp2_with fail
      go_loopg [41] (m - 1) (fun gg s41 wr => ∃ kk : Nat, kk ≤ m - 1 ∧ m - 1 - kk ≤ gg ∧ s41 = .int .i64 kk ∧ Aside (Below w.heap.size w wr) ∧ Aside (Blk wr g 44 (ints (flat (seamTo seam1 seam2 (framesOf l) kk)))))
      case atStart => exact ⟨0, Nat.zero_le _, by omega, rfl, B.out, K2.out⟩
      case round =>
        clear K2 B
        obtain ⟨kk, hkk, hgk, rfl, B, K0⟩ := hrel
        by_cases hlt : kk < m - 1
        · have hltz : (kk : Int) < (m : Int) - 1 := by omega
          have hk0 : 0 ≤ (kk : Int) := by omega
          have hk1 : (kk : Int) < m := by omega
          have hk2 : 0 ≤ (kk : Int) + 1 := by omega
          have hk3 : (kk : Int) + 1 < m := by omega
          have hk4 : ((kk : Int) + 1).toNat = kk + 1 := by omega
          have hw1 : IntKind.i64.wrap ((kk : Int) + 1) = kk + 1 := IntWalk.i64_in _ ⟨by omega, by omega⟩
          have hlt' : kk + 1 < m := by omega
          have hst : seamTo seam1 seam2 (framesOf l) (kk + 1) = ((seamTo seam1 seam2 (framesOf l) kk).set kk (seam1 ((seamTo seam1 seam2 (framesOf l) kk).getD kk []) ((seamTo seam1 seam2 (framesOf l) kk).getD (kk + 1) []))).set (kk + 1) (seam2 ((seamTo seam1 seam2 (framesOf l) kk).getD kk []) ((seamTo seam1 seam2 (framesOf l) kk).getD (kk + 1) [])) := rfl
          have hal := seamTo_all hA1 hB1 H32.out (k := kk) (by omega)
          have hsl := seamTo_len seam1 seam2 (framesOf l) kk
          rw [hfl] at hsl
          have hf0 := hal kk (by omega)
          have hf1 := hal (kk + 1) (by omega)
          have hi0 := seamed_in (by omega) HIN.out (fun a b => seam1_in (by omega) a b) (fun a b => seam2_in (by omega) a b) kk kk
          have hi1 := seamed_in (by omega) HIN.out (fun a b => seam1_in (by omega) a b) (fun a b => seam2_in (by omega) a b) kk (kk + 1)
          rw [← seams_is hA1 hB1 H32.out (by omega) (by omega)] at hi0 hi1
          have hr0 := frame_range (o := kk * 32) (blk_drew K0.out) (by omega) hf0 rfl
          have hr1 := frame_range (o := (kk + 1) * 32) (blk_drew K0.out) (by omega) hf1 rfl
          have hlx := seam1_len ((seamTo seam1 seam2 (framesOf l) kk).getD kk []) ((seamTo seam1 seam2 (framesOf l) kk).getD (kk + 1) [])
          have hly := seam2_len ((seamTo seam1 seam2 (framesOf l) kk).getD kk []) ((seamTo seam1 seam2 (framesOf l) kk).getD (kk + 1) [])
          have ct := fun W => seam_calls _ _ W hf0 hf1 (allIn_mono hi0 (by omega)) (allIn_mono hi1 (by omega))
          rw [hf0] at hlx
          rw [hf1] at hly
          have HST := Lib.hid hst
          clear hst hi0 hi1 hal
          generalize hT : seamTo seam1 seam2 (framesOf l) kk = T at *
          change ∀ W, Calls _ _ #[.agg (ints (T.getD kk [])), .agg (ints (T.getD (kk + 1) []))] W (fun e w' => e = .returned (.tuple #[.agg (ints (seam1 (T.getD kk []) (T.getD (kk + 1) []))), .agg (ints (seam2 (T.getD kk []) (T.getD (kk + 1) [])))]) ∧ Below W.heap.size W w') at ct
          generalize seam1 (T.getD kk []) (T.getD (kk + 1) []) = x at *
          generalize seam2 (T.getD kk []) (T.getD (kk + 1) []) = y at *
          generalize T.getD kk [] = f0 at *
          generalize T.getD (kk + 1) [] = f1 at *
          have hu := Try.underlying44
          have hi0 : (Try.prog.info? 44).map (·.size) = some (f0.map (Value.int .i64)).length := by rw [List.length_map, hf0]; kernel_rfl
          have hi1 : (Try.prog.info? 44).map (·.size) = some (f1.map (Value.int .i64)).length := by rw [List.length_map, hf1]; kernel_rfl
          have hgs : w.heap.size ≤ g := hs
          clear hT
          simp only [ints] at ct
          go_wp2_with fail
          refine wp_region_held_drew (S := (fun _ => True)) (by kernel_rfl) trivial (fun hHeld => ?_)
          refine wpAnyH_take (i := 0) (oi := ⟨_, _, _, _, _, _⟩) (v := ?_) rfl (by kernel_rfl) (by kernel_rfl) (by kernel_rfl) (fun _ _ _ h => h) (Or.inl ⟨by rfl, ?_⟩) (by assumption) ?_
          rotate_left
          · intro W hSw
            try dsimp only at hSw
            go_simp
            try with_reducible rfl
          try simp only [Act.put, List.setIfInBounds_toArray, List.set_cons_zero, List.set_cons_succ]
          refine wpAnyH_take (i := 1) (oi := ⟨_, _, _, _, _, _⟩) (v := ?_) rfl (by kernel_rfl) (by kernel_rfl) (by kernel_rfl) (fun _ _ _ h => h) (Or.inl ⟨by rfl, ?_⟩) (by assumption) ?_
          rotate_left
          · intro W hSw
            try dsimp only at hSw
            go_simp
            try with_reducible rfl
          try simp only [Act.put, List.setIfInBounds_toArray, List.set_cons_zero, List.set_cons_succ]
          refine wpAnyH_take (i := 2) (oi := ⟨_, _, _, _, _, _⟩) (v := ?_) rfl (by kernel_rfl) (by kernel_rfl) (by kernel_rfl) (fun _ _ _ h => h) (Or.inl ⟨by rfl, ?_⟩) (by assumption) ?_
          rotate_left
          · intro W hSw
            try dsimp only at hSw
            go_simp
            try with_reducible rfl
          try simp only [Act.put, List.setIfInBounds_toArray, List.set_cons_zero, List.set_cons_succ]
          refine wpAnyH_take (i := 3) (oi := ⟨_, _, _, _, _, _⟩) (v := ?_) rfl (by kernel_rfl) (by kernel_rfl) (by kernel_rfl) (fun _ _ _ h => h) (Or.inl ⟨by rfl, ?_⟩) (by assumption) ?_
          rotate_left
          · intro W hSw
            try dsimp only at hSw
            go_simp
            try with_reducible rfl
          try simp only [Act.put, List.setIfInBounds_toArray, List.set_cons_zero, List.set_cons_succ]
          refine wpAnyH_take (i := 4) (oi := ⟨_, _, _, _, _, _⟩) (v := ?_) rfl (by kernel_rfl) (by kernel_rfl) (by kernel_rfl) (fun _ _ _ h => h) (Or.inl ⟨by rfl, ?_⟩) (by assumption) ?_
          rotate_left
          · intro W hSw
            try dsimp only at hSw
            go_simp
            try with_reducible rfl
          try simp only [Act.put, List.setIfInBounds_toArray, List.set_cons_zero, List.set_cons_succ]
          refine wpAnyH_take (i := 5) (oi := ⟨_, _, _, _, _, _⟩) (v := ?_) rfl (by kernel_rfl) (by kernel_rfl) (by kernel_rfl) (fun _ _ _ h => h) (Or.inl ⟨by rfl, ?_⟩) (by assumption) ?_
          rotate_left
          · intro W hSw
            try dsimp only at hSw
            go_simp
            try with_reducible rfl
          try simp only [Act.put, List.setIfInBounds_toArray, List.set_cons_zero, List.set_cons_succ]
          refine wpAnyH_take (i := 6) (oi := ⟨_, _, _, _, _, _⟩) (v := ?_) rfl (by kernel_rfl) (by kernel_rfl) (by kernel_rfl) (fun _ _ _ h => h) (Or.inl ⟨by rfl, ?_⟩) (by assumption) ?_
          rotate_left
          · intro W hSw
            try dsimp only at hSw
            go_simp
            try with_reducible rfl
          try simp only [Act.put, List.setIfInBounds_toArray, List.set_cons_zero, List.set_cons_succ]
          refine wpAnyH_take (i := 7) (oi := ⟨_, _, _, _, _, _⟩) (v := ?_) rfl (by kernel_rfl) (by kernel_rfl) (by kernel_rfl) (fun _ _ _ h => h) (Or.inl ⟨by rfl, ?_⟩) (by assumption) ?_
          rotate_left
          · intro W hSw
            try dsimp only at hSw
            go_simp
            try with_reducible rfl
          try simp only [Act.put, List.setIfInBounds_toArray, List.set_cons_zero, List.set_cons_succ]
          refine wpAnyH_take (i := 9) (oi := ⟨_, _, _, _, _, _⟩) (v := ?_) rfl (by kernel_rfl) (by kernel_rfl) (by kernel_rfl) (fun _ _ _ h => h) (Or.inl ⟨by rfl, ?_⟩) (by assumption) ?_
          rotate_left
          · intro W hSw
            try dsimp only at hSw
            go_simp
            try with_reducible rfl
          try simp only [Act.put, List.setIfInBounds_toArray, List.set_cons_zero, List.set_cons_succ]
          refine wpAnyH_take (i := 10) (oi := ⟨_, _, _, _, _, _⟩) (v := ?_) rfl (by kernel_rfl) (by kernel_rfl) (by kernel_rfl) (fun _ _ _ h => h) (Or.inl ⟨by rfl, ?_⟩) (by assumption) ?_
          rotate_left
          · intro W hSw
            try dsimp only at hSw
            go_simp
            try with_reducible rfl
          try simp only [Act.put, List.setIfInBounds_toArray, List.set_cons_zero, List.set_cons_succ]
          refine wpAnyH_take (i := 11) (oi := ⟨_, _, _, _, _, _⟩) (v := ?_) rfl (by kernel_rfl) (by kernel_rfl) (by kernel_rfl) (fun _ _ _ h => h) (Or.inl ⟨by rfl, ?_⟩) (by assumption) ?_
          rotate_left
          · intro W hSw
            try dsimp only at hSw
            go_simp
            try with_reducible rfl
          try simp only [Act.put, List.setIfInBounds_toArray, List.set_cons_zero, List.set_cons_succ]
          refine wpAnyH_take (i := 12) (oi := ⟨_, _, _, _, _, _⟩) (v := ?_) rfl (by kernel_rfl) (by kernel_rfl) (by kernel_rfl) (fun _ _ _ h => h) (Or.inl ⟨by rfl, ?_⟩) (by assumption) ?_
          rotate_left
          · intro W hSw
            try dsimp only at hSw
            go_simp
            try with_reducible rfl
          try simp only [Act.put, List.setIfInBounds_toArray, List.set_cons_zero, List.set_cons_succ]
          refine wpAnyH_ready (rs := [8, 13]) (by kernel_rfl) (by simp) ?_
          refine AllReadyH.cons (o := ⟨_, _, _, _, _, _⟩) rfl (fun K hK => ?_) (AllReadyH.cons (o := ⟨_, _, _, _, _, _⟩) rfl (fun K hK => ?_) AllReadyH.nil)
          · rw [if_pos (by rfl)]
            refine wp_load_mid 44 _ rfl g (kk * 32) rfl (f0.map (Value.int .i64)) _ hr0 hu rfl hi0 ?_
            refine hK.out _ _ trivial (fun _ => ?_)
            clear hK K
            try simp only [Act.put, List.setIfInBounds_toArray, List.set_cons_zero, List.set_cons_succ]
            refine wpAnyH_ready (rs := [13]) (by kernel_rfl) (by simp) ?_
            refine AllReadyH.cons (o := ⟨_, _, _, _, _, _⟩) rfl (fun K hK => ?_) AllReadyH.nil
            rw [if_pos (by rfl)]
            refine wp_load_mid 44 _ rfl g ((kk + 1) * 32) rfl (f1.map (Value.int .i64)) _ hr1 hu rfl hi1 ?_
            refine hK.out _ _ trivial (fun _ => ?_)
            clear hK K
            try simp only [Act.put, List.setIfInBounds_toArray, List.set_cons_zero, List.set_cons_succ]
            refine wpAnyH_ready (rs := [14]) (by kernel_rfl) (by simp) ?_
            refine AllReadyH.cons (o := ⟨_, _, _, _, _, _⟩) rfl (fun K hK => ?_) AllReadyH.nil
            go_simp
            refine (ct _).mono ?_
            rintro e w1 ⟨rfl, hC⟩
            go_simp
            have m0 := blk_below (blk_drew K0.out) hC (blk_lt K0.out)
            have m4 := bnext B.out.drew hC
            refine hK.out _ _ trivial (fun _ => ?_)
            clear hK K
            try simp only [Act.put, List.setIfInBounds_toArray, List.set_cons_zero, List.set_cons_succ]
            refine wpAnyH_take (i := 15) (oi := ⟨_, _, _, _, _, _⟩) (v := ?_) rfl (by kernel_rfl) (by kernel_rfl) (by kernel_rfl) (fun _ _ _ h => h) (Or.inl ⟨by rfl, ?_⟩) (by assumption) ?_
            rotate_left
            · intro W hSw
              try dsimp only at hSw
              go_simp
              try with_reducible rfl
            try simp only [Act.put, List.setIfInBounds_toArray, List.set_cons_zero, List.set_cons_succ]
            refine wpAnyH_take (i := 16) (oi := ⟨_, _, _, _, _, _⟩) (v := ?_) rfl (by kernel_rfl) (by kernel_rfl) (by kernel_rfl) (fun _ _ _ h => h) (Or.inl ⟨by rfl, ?_⟩) (by assumption) ?_
            rotate_left
            · intro W hSw
              try dsimp only at hSw
              go_simp
              try with_reducible rfl
            try simp only [Act.put, List.setIfInBounds_toArray, List.set_cons_zero, List.set_cons_succ]
            refine wpAnyH_take (i := 17) (oi := ⟨_, _, _, _, _, _⟩) (v := ?_) rfl (by kernel_rfl) (by kernel_rfl) (by kernel_rfl) (fun _ _ _ h => h) (Or.inl ⟨by rfl, ?_⟩) (by assumption) ?_
            rotate_left
            · intro W hSw
              try dsimp only at hSw
              go_simp
              try with_reducible rfl
            try simp only [Act.put, List.setIfInBounds_toArray, List.set_cons_zero, List.set_cons_succ]
            refine wpAnyH_take (i := 18) (oi := ⟨_, _, _, _, _, _⟩) (v := ?_) rfl (by kernel_rfl) (by kernel_rfl) (by kernel_rfl) (fun _ _ _ h => h) (Or.inl ⟨by rfl, ?_⟩) (by assumption) ?_
            rotate_left
            · intro W hSw
              try dsimp only at hSw
              go_simp
              try with_reducible rfl
            try simp only [Act.put, List.setIfInBounds_toArray, List.set_cons_zero, List.set_cons_succ]
            refine wpAnyH_ready (rs := [19]) (by kernel_rfl) (by simp) ?_
            refine AllReadyH.cons (o := ⟨_, _, _, _, _, _⟩) rfl (fun K hK => ?_) AllReadyH.nil
            rw [if_pos (by rfl)]
            refine wp_store_mid 44 _ _ rfl g (kk * 32) (ints x) rfl rfl (by rw [ints_size, hlx]; exact frame_there m0 (by first | omega | (rw [List.length_set]; omega)) rfl) (by rw [ints_size, hlx]; kernel_rfl) (ints_one _) ?_
            have k1 := frame_store (i := kk) m0 (by omega) hlx rfl
            have hs4 := m4.size
            have m5 := below_grown m4 k1.2 hs4 (by omega)
            have m1 := k1.1
            clear m0 m4 k1 hs4
            refine hK.out _ _ trivial (fun _ => ?_)
            clear hK K
            try simp only [Act.put, List.setIfInBounds_toArray, List.set_cons_zero, List.set_cons_succ]
            refine wpAnyH_take (i := 20) (oi := ⟨_, _, _, _, _, _⟩) (v := ?_) rfl (by kernel_rfl) (by kernel_rfl) (by kernel_rfl) (fun _ _ _ h => h) (Or.inl ⟨by rfl, ?_⟩) (by assumption) ?_
            rotate_left
            · intro W hSw
              try dsimp only at hSw
              go_simp
              try with_reducible rfl
            try simp only [Act.put, List.setIfInBounds_toArray, List.set_cons_zero, List.set_cons_succ]
            refine wpAnyH_ready (rs := [21]) (by kernel_rfl) (by simp) ?_
            refine AllReadyH.cons (o := ⟨_, _, _, _, _, _⟩) rfl (fun K hK => ?_) AllReadyH.nil
            rw [if_pos (by rfl)]
            refine wp_store_mid 44 _ _ rfl g ((kk + 1) * 32) (ints y) rfl rfl (by rw [ints_size, hly]; exact frame_there m1 (by first | omega | (rw [List.length_set]; omega)) rfl) (by rw [ints_size, hly]; kernel_rfl) (ints_one _) ?_
            have k1 := frame_store (i := kk + 1) m1 (by rw [List.length_set]; omega) hly rfl
            have hs4 := m5.size
            have m6 := Lib.hid (below_grown m5 k1.2 hs4 (by omega))
            have m2 := Lib.hid k1.1
            clear m1 m5 k1 hs4
            refine hK.out _ _ trivial (fun _ => ?_)
            clear hK K
            try simp only [Act.put, List.setIfInBounds_toArray, List.set_cons_zero, List.set_cons_succ]
            refine wpAnyH_done (by kernel_rfl) ?_ _
            clear hw1 hk4 ct
            go_wp2_with fail
            go_roundg (m - 1 - (kk + 1))
            case measure => omega
            case rel => exact ⟨kk + 1, by omega, by omega, by go_num, m6.out, by rw [HST.out]; exact m2.out⟩
          · rw [if_pos (by rfl)]
            refine wp_load_mid 44 _ rfl g ((kk + 1) * 32) rfl (f1.map (Value.int .i64)) _ hr1 hu rfl hi1 ?_
            refine hK.out _ _ trivial (fun _ => ?_)
            clear hK K
            try simp only [Act.put, List.setIfInBounds_toArray, List.set_cons_zero, List.set_cons_succ]
            refine wpAnyH_ready (rs := [8]) (by kernel_rfl) (by simp) ?_
            refine AllReadyH.cons (o := ⟨_, _, _, _, _, _⟩) rfl (fun K hK => ?_) AllReadyH.nil
            rw [if_pos (by rfl)]
            refine wp_load_mid 44 _ rfl g (kk * 32) rfl (f0.map (Value.int .i64)) _ hr0 hu rfl hi0 ?_
            refine hK.out _ _ trivial (fun _ => ?_)
            clear hK K
            try simp only [Act.put, List.setIfInBounds_toArray, List.set_cons_zero, List.set_cons_succ]
            refine wpAnyH_ready (rs := [14]) (by kernel_rfl) (by simp) ?_
            refine AllReadyH.cons (o := ⟨_, _, _, _, _, _⟩) rfl (fun K hK => ?_) AllReadyH.nil
            go_simp
            refine (ct _).mono ?_
            rintro e w1 ⟨rfl, hC⟩
            go_simp
            have m0 := blk_below (blk_drew K0.out) hC (blk_lt K0.out)
            have m4 := bnext B.out.drew hC
            refine hK.out _ _ trivial (fun _ => ?_)
            clear hK K
            try simp only [Act.put, List.setIfInBounds_toArray, List.set_cons_zero, List.set_cons_succ]
            refine wpAnyH_take (i := 15) (oi := ⟨_, _, _, _, _, _⟩) (v := ?_) rfl (by kernel_rfl) (by kernel_rfl) (by kernel_rfl) (fun _ _ _ h => h) (Or.inl ⟨by rfl, ?_⟩) (by assumption) ?_
            rotate_left
            · intro W hSw
              try dsimp only at hSw
              go_simp
              try with_reducible rfl
            try simp only [Act.put, List.setIfInBounds_toArray, List.set_cons_zero, List.set_cons_succ]
            refine wpAnyH_take (i := 16) (oi := ⟨_, _, _, _, _, _⟩) (v := ?_) rfl (by kernel_rfl) (by kernel_rfl) (by kernel_rfl) (fun _ _ _ h => h) (Or.inl ⟨by rfl, ?_⟩) (by assumption) ?_
            rotate_left
            · intro W hSw
              try dsimp only at hSw
              go_simp
              try with_reducible rfl
            try simp only [Act.put, List.setIfInBounds_toArray, List.set_cons_zero, List.set_cons_succ]
            refine wpAnyH_take (i := 17) (oi := ⟨_, _, _, _, _, _⟩) (v := ?_) rfl (by kernel_rfl) (by kernel_rfl) (by kernel_rfl) (fun _ _ _ h => h) (Or.inl ⟨by rfl, ?_⟩) (by assumption) ?_
            rotate_left
            · intro W hSw
              try dsimp only at hSw
              go_simp
              try with_reducible rfl
            try simp only [Act.put, List.setIfInBounds_toArray, List.set_cons_zero, List.set_cons_succ]
            refine wpAnyH_take (i := 18) (oi := ⟨_, _, _, _, _, _⟩) (v := ?_) rfl (by kernel_rfl) (by kernel_rfl) (by kernel_rfl) (fun _ _ _ h => h) (Or.inl ⟨by rfl, ?_⟩) (by assumption) ?_
            rotate_left
            · intro W hSw
              try dsimp only at hSw
              go_simp
              try with_reducible rfl
            try simp only [Act.put, List.setIfInBounds_toArray, List.set_cons_zero, List.set_cons_succ]
            refine wpAnyH_ready (rs := [19]) (by kernel_rfl) (by simp) ?_
            refine AllReadyH.cons (o := ⟨_, _, _, _, _, _⟩) rfl (fun K hK => ?_) AllReadyH.nil
            rw [if_pos (by rfl)]
            refine wp_store_mid 44 _ _ rfl g (kk * 32) (ints x) rfl rfl (by rw [ints_size, hlx]; exact frame_there m0 (by first | omega | (rw [List.length_set]; omega)) rfl) (by rw [ints_size, hlx]; kernel_rfl) (ints_one _) ?_
            have k1 := frame_store (i := kk) m0 (by omega) hlx rfl
            have hs4 := m4.size
            have m5 := below_grown m4 k1.2 hs4 (by omega)
            have m1 := k1.1
            clear m0 m4 k1 hs4
            refine hK.out _ _ trivial (fun _ => ?_)
            clear hK K
            try simp only [Act.put, List.setIfInBounds_toArray, List.set_cons_zero, List.set_cons_succ]
            refine wpAnyH_take (i := 20) (oi := ⟨_, _, _, _, _, _⟩) (v := ?_) rfl (by kernel_rfl) (by kernel_rfl) (by kernel_rfl) (fun _ _ _ h => h) (Or.inl ⟨by rfl, ?_⟩) (by assumption) ?_
            rotate_left
            · intro W hSw
              try dsimp only at hSw
              go_simp
              try with_reducible rfl
            try simp only [Act.put, List.setIfInBounds_toArray, List.set_cons_zero, List.set_cons_succ]
            refine wpAnyH_ready (rs := [21]) (by kernel_rfl) (by simp) ?_
            refine AllReadyH.cons (o := ⟨_, _, _, _, _, _⟩) rfl (fun K hK => ?_) AllReadyH.nil
            rw [if_pos (by rfl)]
            refine wp_store_mid 44 _ _ rfl g ((kk + 1) * 32) (ints y) rfl rfl (by rw [ints_size, hly]; exact frame_there m1 (by first | omega | (rw [List.length_set]; omega)) rfl) (by rw [ints_size, hly]; kernel_rfl) (ints_one _) ?_
            have k1 := frame_store (i := kk + 1) m1 (by rw [List.length_set]; omega) hly rfl
            have hs4 := m5.size
            have m6 := Lib.hid (below_grown m5 k1.2 hs4 (by omega))
            have m2 := Lib.hid k1.1
            clear m1 m5 k1 hs4
            refine hK.out _ _ trivial (fun _ => ?_)
            clear hK K
            try simp only [Act.put, List.setIfInBounds_toArray, List.set_cons_zero, List.set_cons_succ]
            refine wpAnyH_done (by kernel_rfl) ?_ _
            clear hw1 hk4 ct
            go_wp2_with fail
            go_roundg (m - 1 - (kk + 1))
            case measure => omega
            case rel => exact ⟨kk + 1, by omega, by omega, by go_num, m6.out, by rw [HST.out]; exact m2.out⟩
        · have hltz : ¬ (kk : Int) < (m : Int) - 1 := by omega
          obtain rfl : kk = m - 1 := by omega
          have K1 := Lib.hid K0.out
          have B1 := Lib.hid B.out
          have hSl := seamTo_len seam1 seam2 (framesOf l) (m - 1)
          rw [hfl] at hSl
          have hal := seamTo_all hA1 hB1 H32.out (k := m - 1) (by omega)
          have hin : ∀ i, i < m → AllIn 1572866 ((seamTo seam1 seam2 (framesOf l) (m - 1)).getD i []) := fun i hi => by
            rw [seams_is hA1 hB1 H32.out (by omega) (by omega)]
            exact allIn_mono (seamed_in (by omega) HIN.out (fun a b => seam1_in (by omega) a b) (fun a b => seam2_in (by omega) a b) (m - 1) i) (by omega)
          have HAL := Lib.hid hal
          have HN := Lib.hid hin
          have HF2 := HFL
          clear K0 B hal hin hltz hgk hkk HFL HIN H32
          generalize seamTo seam1 seam2 (framesOf l) (m - 1) = T at *
          go_wp2_with fail
          go_loopg [67] m (fun gg s67 wr => ∃ kk : Nat, kk ≤ m ∧ m - kk ≤ gg ∧ s67 = .int .i64 kk ∧ Aside (Below w.heap.size w wr) ∧ Aside (Blk wr g 44 (ints (flat (eachTo wavesL T kk)))))
          case atStart => exact ⟨0, Nat.zero_le _, by omega, rfl, B1.out, by rw [eachTo_zero]; exact K1.out⟩
          case round =>
            clear K1 B1
            obtain ⟨kk, hkk, hgk, rfl, B, K0⟩ := hrel
            by_cases hlt : kk < m
            · have hltz : (kk : Int) < (m : Int) := by omega
              have hk0 : 0 ≤ (kk : Int) := by omega
              have hel := eachTo_len wavesL T kk
              have hfk := eachTo_get wavesL (fs := T) (k := kk) (i := kk) (by omega)
              rw [if_neg (by omega)] at hfk
              have hf0 := HAL.out kk (by omega)
              have hr0 := frame_range (o := kk * 32) K0.out (i := kk) (by omega) (by rw [hfk]; exact hf0) rfl
              rw [hfk] at hr0
              have cw := fun W => waves_of hf0 (allIn_mono (HN.out kk hlt) (by omega)) W
              have hlx := (wavesL_len (T.getD kk [])).trans hf0
              have HSU := Lib.hid (eachTo_succ wavesL (fs := T) (k := kk) (by omega))
              generalize wavesL (T.getD kk []) = x at *
              generalize T.getD kk [] = f0 at *
              clear hfk
              simp only [ints] at cw
              go_wp2_with (first | (refine wpList_load_mid rfl 44 _ rfl g (kk * 32) rfl (f0.map (Value.int .i64)) _ hr0 Try.underlying44 rfl (by rw [List.length_map, hf0]; kernel_rfl) ?_))
              refine (cw _).mono ?_
              rintro e w1 ⟨rfl, hC⟩
              have m0 := blk_below K0.out hC (blk_lt K0.out)
              have m4 := bnext B.out hC
              clear hr0 hC K0 B cw
              have hs4 := m4.size
              go_wp2_with (first | (refine wpList_store_mid rfl 44 _ _ rfl g (kk * 32) (ints x) rfl rfl (by rw [ints_size, hlx]; exact frame_there m0 (by omega) rfl) (by rw [ints_size, hlx]; kernel_rfl) (ints_one _) ?_))
              have k1 := frame_store (i := kk) m0 (by omega) hlx rfl
              have m5 := Lib.hid (below_grown m4 k1.2 hs4 hs)
              have m1 := k1.1
              rw [HSU.out] at m1
              have m2 := Lib.hid m1
              clear m0 m4 k1 hs4 m1
              go_wp2_with fail
              go_roundg (m - (kk + 1))
              case measure => omega
              case rel => exact ⟨kk + 1, by omega, by omega, by go_num, m5.out, m2.out⟩
            · have hltz : ¬ (kk : Int) < (m : Int) := by omega
              obtain rfl : kk = m := by omega
              go_wp2_with fail
              go_ret2
              have hf := K0.out
              rw [eachTo_all wavesL hSl, ← HF2.out] at hf
              exact ⟨g, rfl, hs, hf, B.out⟩
end Go.Proofs.Ytlfiaaoegeodnaa
