/- The contract of mid.Split. -/
import Derived.Test.YtnmhbonheaoldaaMidU
import Derived.Test.YtnmhbonheaoldaaTwo
namespace Go.Proofs.Ytnmhbonheaoldaa
open Go.RowKit Go.Shelf
attribute [local go_sem] Oper.semAt_some

/-- the middle and the side of two numbers that lie one behind the other -/
def midAt (zs : List Int) (k : Nat) : Int := zs.getD (2 * k + 1) 0 + (zs.getD (2 * k) 0 - zs.getD (2 * k + 1) 0) / 2
def sideAt (zs : List Int) (k : Nat) : Int := zs.getD (2 * k) 0 - zs.getD (2 * k + 1) 0

theorem finRange_map (m : Nat) (f : Nat → Int) : ((List.finRange m).map fun x => f x.val) = (List.range m).map f := by
  apply List.ext_getElem
  · simp
  · intro i h1 h2
    simp

theorem great_one (most : Int) (a : Option Addr) (n c : Nat) (zs : List Int) (g : Nat) (w : World) (hm : 0 ≤ most) (hm1 : most ≤ 1000000000) (hz : zs.length = n) (hn : n ≤ 1000000) (hg : Blk w g 55 #[.slice a n c]) (h : Src2 w (.slice a n c) zs) (hi : ∀ z ∈ zs, -9223372036854775808 ≤ z ∧ z ≤ 9223372036854775807) :
    Calls Try.prog 56 #[.int .i64 most, .slice (some ⟨g, 0, none⟩) 1 1] w fun e w' => e = .returned (.bool (zs.any (beyond most))) ∧ Below w.heap.size w w' := by
  have := greatM_calls most (fun _ => a) (fun _ => c) (fun _ => zs) g 1 1 w hm hm1 (by omega) (blk_lt hg) (fun j hj => by
    obtain rfl : j = 0 := by omega
    rw [blk_cell hg, hz]
    rfl) (fun j _ => by rw [hz]; exact h) (by simpa [catZ, hz] using hn) (fun j _ => hi)
  simpa [catZ] using this

set_option maxHeartbeats 1000000 in
theorem split_odd (a : Option Addr) (n c : Nat) (w : World) (hn : n ≤ 1000000) (ho : n % 2 = 1) :
    Calls Try.prog 46 #[.slice a n c] w fun e w' => e = .returned (.tuple #[.slice none 0 0, .slice none 0 0, .int .i64 1]) ∧ Below w.heap.size w w' := by
  have h1 : ((n : Int) % 2 != 0) = true := by simp; omega
  have h2 : (0 : Int) ≤ n := by omega
  go_enter Try.func46, Try.ntmps46
  go_wp2_with fail
  refine bodyPost_ret (results_tmp3 rfl _ _ _) rfl ?_
  exact ⟨rfl, Below.refl _ _⟩

set_option maxHeartbeats 1000000 in
theorem split_great (a : Option Addr) (n c : Nat) (zs : List Int) (w : World) (hn : n ≤ 1000000) (ho : n % 2 = 0) (hz : zs.length = n) (h : Src2 w (.slice a n c) zs) (hi : ∀ z ∈ zs, -9223372036854775808 ≤ z ∧ z ≤ 9223372036854775807) (hg : zs.any (beyond 1048576) = true) :
    Calls Try.prog 46 #[.slice a n c] w fun e w' => e = .returned (.tuple #[.slice none 0 0, .slice none 0 0, .int .i64 7]) ∧ Below w.heap.size w w' := by
  have h1 : ((n : Int) % 2 != 0) = false := by simp; omega
  have h2 : (0 : Int) ≤ n := by omega
  have hb := (Below.refl w.heap.size w).alloc (Nat.le_refl _) (.cells #[.slice a n c] 55)
  have cg := great_one 1048576 a n c zs w.heap.size (w.alloc (.cells #[.slice a n c] 55)) (by omega) (by omega) hz hn (blk_new w _ _) (src2_below h hb) hi
  rw [hg] at cg
  have HB := Lib.hid hb
  clear hb h hi hg
  go_enter Try.func46, Try.ntmps46
  go_wp2_with fail
  refine cg.mono ?_
  rintro e w1 ⟨rfl, B1⟩
  clear cg
  go_wp2_with fail
  refine bodyPost_ret (results_tmp3 rfl _ _ _) rfl ?_
  exact ⟨rfl, HB.out.trans (B1.mono (by simp))⟩

set_option maxHeartbeats 4000000 in
theorem split_ok (a : Option Addr) (m c : Nat) (zs : List Int) (w : World) (hn : 2 * m ≤ 1000) (hc : 2 * m ≤ c) (hc2 : c ≤ 9223372036854775807) (hz : zs.length = 2 * m) (h : SlA w a zs) (h0 : a = none → c = 0) (hi : ∀ z ∈ zs, -1048576 ≤ z ∧ z ≤ 1048576) :
    Calls Try.prog 46 #[.slice a (2 * m : Nat) c] w fun e w' => ∃ vm vs, e = .returned (.tuple #[vm, vs, .int .i64 0]) ∧
      w'.ownsRow w.heap.size 3 1 vm m (((List.range m).map (midAt zs)).map (Value.int .i64)) ∧ w'.ownsRow w.heap.size 3 1 vs m (((List.range m).map (sideAt zs)).map (Value.int .i64)) ∧ Below w.heap.size w w' := by
  have h1 : (((2 * m : Nat) : Int) % 2 != 0) = false := by simp
  have h2 : (0 : Int) ≤ ((2 * m : Nat) : Int) := by omega
  have hb := (Below.refl w.heap.size w).alloc (Nat.le_refl _) (.cells #[.slice a (2 * m) c] 55)
  have cg := great_one 1048576 a (2 * m) c zs w.heap.size (w.alloc (.cells #[.slice a (2 * m) c] 55)) (by omega) (by omega) hz (by omega) (blk_new w _ _) (src2_below (src2_of hz h h0) hb) (fun z hz => by have := hi z hz; omega)
  have hg : zs.any (beyond 1048576) = false := by
    rw [List.any_eq_false]
    intro z hz
    have := hi z hz
    rw [beyond_in (by omega) (by omega)]
    decide
  rw [hg] at cg
  have HB := Lib.hid hb
  have H := Lib.hid h
  have HI := Lib.hid hi
  have HZ := Lib.hid hz
  have H0 := Lib.hid h0
  clear hb h hi hg hz h0
  refine (callsIn_wide (n := 5)).1 ?_
  refine callsIn_of_wp_marks Try.func46 rfl trivial ?_ rfl
  simp only [Try.ntmps46, List.size_toArray, List.length_cons, List.length_nil, Nat.reduceAdd, Nat.reduceSub, Array.replicate_succ, Array.replicate_zero, List.push_toArray, List.append_toArray, List.nil_append, List.cons_append]
  gi_wp2_with fail
  refine ⟨trivial, ?_⟩
  refine (callsIn_wide.2 cg).mono ?_
  rintro e w1 ⟨rfl, B1⟩
  have B2 := Lib.hid (HB.out.trans (B1.mono (by simp)))
  clear cg B1 HB
  gi_wp2_with fail
  refine ⟨trivial, ?_⟩
  refine (chunk_in Fence.wide _ trivial rfl _ _ _ _).mono ?_
  rintro e w' ⟨rfl, rfl⟩
  gi_wp2_with fail
  obtain ⟨g, o, hgo⟩ : ∃ g o, 0 < m → a = some ⟨g, o, none⟩ ∧ g < w.heap.size ∧ ∀ j, j < zs.length → w.cell? ⟨g, o + j, none⟩ = some (.int .i64 (zs.getD j 0)) := by
    rcases H.out with e | ⟨g, o, h1, h2, h3⟩
    · exact ⟨0, 0, fun hm => by have := HZ.out; rw [e] at this; simp at this; omega⟩
    · exact ⟨g, o, fun _ => ⟨h1, h2, h3⟩⟩
  have hsz := B2.out.size
  have hb0 := ((((Below.refl w1.heap.size w1).alloc (Nat.le_refl _) (.cells #[.slice none 0 0] 55)).alloc (by simp) (.cells #[.slice none 0 0] 55)).alloc (by simp; omega) (.cells #[.slice a (2 * m) c] 55)).alloc (by simp; omega) (.cells #[.int .i64 2] 3)
  have hB0 := B2.out.trans (hb0.mono hsz)
  have x1 := Boxed.new w1 55 (.slice none 0 0)
  have x2 := Boxed.new (w1.alloc (.cells #[.slice none 0 0] 55)) 55 (.slice none 0 0)
  have x3 := Boxed.new ((w1.alloc (.cells #[.slice none 0 0] 55)).alloc (.cells #[.slice none 0 0] 55)) 55 (.slice a (2 * m) c)
  have x4 := Boxed.new (((w1.alloc (.cells #[.slice none 0 0] 55)).alloc (.cells #[.slice none 0 0] 55)).alloc (.cells #[.slice a (2 * m) c] 55)) 3 (.int .i64 2)
  simp only [World.size_alloc] at x2 x3 x4
  have y1 := ((x1.alloc (.cells #[.slice none 0 0] 55)).alloc (.cells #[.slice a (2 * m) c] 55)).alloc (.cells #[.int .i64 2] 3)
  have y2 := (x2.alloc (.cells #[.slice a (2 * m) c] 55)).alloc (.cells #[.int .i64 2] 3)
  have y3 := x3.alloc (.cells #[.int .i64 2] 3)
  have hT0 : TwoRows (fun B => B = w1.heap.size + 1 + 1 ∨ B = w1.heap.size + 1 + 1 + 1) w.heap.size w1.heap.size (w1.heap.size + 1) _ _ (.slice none 0 0) (.slice none 0 0) (.slice none 0 0) (.slice none 0 0) [] [] :=
    ⟨KeepsOthers.refl _, Below.refl _ _, by simp; omega, hsz, by omega, by omega, y1, y2, World.ownsRow_nil _ _ _ _, World.ownsRow_nil _ _ _ _, by simp [Value.ownBlock], fun B hB => ⟨by simp; omega, by omega, by omega, by simp [Value.ownBlock], by simp [Value.ownBlock], rfl⟩⟩
  have hs0 : w1.heap.size + 3 < ((((w1.alloc (.cells #[.slice none 0 0] 55)).alloc (.cells #[.slice none 0 0] 55)).alloc (.cells #[.slice a (2 * m) c] 55)).alloc (.cells #[.int .i64 2] 3)).heap.size := by simp
  clear x1 x2 x3 hb0 y1 y2 B2
  generalize ((((w1.alloc (.cells #[.slice none 0 0] 55)).alloc (.cells #[.slice none 0 0] 55)).alloc (.cells #[.slice a (2 * m) c] 55)).alloc (.cells #[.int .i64 2] 3)) = W0 at *
  have HT0 := Lib.hid hT0
  have HB0 := Lib.hid hB0
  have HGO := Lib.hid hgo
  have hst := chunk_stops 4 (w1.heap.size + 1 + 1) (w1.heap.size + 1 + 1 + 1) g o m c a (fun hm => (hgo hm).1) (by omega) hc hc2 W0 (by omega) (by omega) y3.cell x4.cell
  clear hT0 hB0 hgo y3 x4
  refine wpIn_rangeFunc_ownF rfl (by omega) (gf := 62) (lb := #[.pointer (some ⟨w1.heap.size + 1 + 1, 0, none⟩), .pointer (some ⟨w1.heap.size + 1 + 1 + 1, 0, none⟩)]) rfl trivial (enters_of Try.func62 (by kernel_rfl) rfl)
    hst kt_trans (kt_put (by omega) (by omega)) (Below.refl _ _) (fun _ => rfl)
    (fun pre W => ∃ vm vs, TwoRows (fun B => B = w1.heap.size + 1 + 1 ∨ B = w1.heap.size + 1 + 1 + 1) w.heap.size w1.heap.size (w1.heap.size + 1) W0 W vm vs vm vs (pre.map fun x => midAt zs x.val) (pre.map fun x => sideAt zs x.val))
    (fun _ _ _ => False)
    (fun s A B row ⟨vm, vs, h⟩ hg hr => ⟨vm, vs, two_turned h hg hr⟩)
    (fun _ _ _ _ _ hs _ _ => hs)
    ⟨_, _, HT0.out⟩
    (fun x => { tmps := #[.slice a (2 * m) c, undef, .slice none 0 0, .slice none 0 0, .int .i64 0, .pointer (some ⟨w1.heap.size, 0, none⟩), .pointer (some ⟨w1.heap.size + 1, 0, none⟩), .slice (some ⟨g, o + 2 * x.val, none⟩) 2 2, undef, undef, .bool false,
          .slice a (2 * m) c, .int .i64 (2 * (m : Int)), .int .i64 0, .bool false, .bool false, .slice a (2 * m) c, .slice (some ⟨w.heap.size, 0, none⟩) 1 1, .bool false, .slice a (2 * m) c,
          .func (.func 62) #[] #[.pointer (some ⟨w1.heap.size + 1 + 1, 0, none⟩), .pointer (some ⟨w1.heap.size + 1 + 1 + 1, 0, none⟩)],
          .slice (some ⟨g, o + 2 * x.val, none⟩) 2 2, undef, undef, undef, undef, undef, undef, undef, undef, undef, undef, undef, undef, undef, undef, undef, undef, undef, undef, undef, undef], defers := [] }) ?assign ?body ?done ?stop
  case assign =>
    intro l x W K hK
    unfold pairAt
    gi_wp2
    exact hK
  case body =>
    rintro l pre x W ⟨vm, vs, hT⟩ hlt
    have hW := HB0.out.trans hT.bl
    obtain ⟨_, hg, hcs⟩ := HGO.out (by have := x.isLt; omega)
    have hx := x.isLt
    have hzl := HZ.out
    have c0 := (hW.cell (p := ⟨g, o + 2 * x.val, none⟩) hg).trans (hcs (2 * x.val) (by omega))
    have c1 := (hW.cell (p := ⟨g, o + (2 * x.val + 1), none⟩) hg).trans (hcs (2 * x.val + 1) (by omega))
    have b0 := HI.out (zs.getD (2 * x.val) 0) (by rw [List.getD_eq_getElem?_getD, List.getElem?_eq_getElem (by omega)]; exact List.getElem_mem (by omega))
    have b1 := HI.out (zs.getD (2 * x.val + 1) 0) (by rw [List.getD_eq_getElem?_getD, List.getElem?_eq_getElem (by omega)]; exact List.getElem_mem (by omega))
    rw [← Nat.add_assoc] at c1
    have hmid : midAt zs x.val = zs.getD (2 * x.val + 1) 0 + (zs.getD (2 * x.val) 0 - zs.getD (2 * x.val + 1) 0) / 2 := rfl
    have hsid : sideAt zs x.val = zs.getD (2 * x.val) 0 - zs.getD (2 * x.val + 1) 0 := rfl
    have HM := Lib.hid hmid
    have HD := Lib.hid hsid
    have HT := Lib.hid hT
    have hlen : (pre.map fun x => midAt zs x.val).length ≤ 100000 := by rw [List.length_map]; omega
    have hlen2 : (pre.map fun x => sideAt zs x.val).length ≤ 100000 := by rw [List.length_map]; omega
    clear hcs hmid hsid hT hW hzl
    generalize zs.getD (2 * x.val) 0 = z0 at *
    generalize zs.getD (2 * x.val + 1) 0 = z1 at *
    refine wpIn_block (wpIn_seq ?_)
    refine round_region (S := (fun _ W => W.cell? ⟨g, o + 2 * x.val, none⟩ = some (.int .i64 z0) ∧ W.cell? ⟨g, o + 2 * x.val + 1, none⟩ = some (.int .i64 z1))) (by kernel_rfl) (fun h => by obtain ⟨_, _, h⟩ := h; exact h) (by kernel_rfl) ⟨c0, c1⟩ (fun hHeld => ?_)
    refine anyU_take0 (i := 0) (oi := ⟨_, _, _, _, _, _⟩) (v := ?_) rfl (by kernel_rfl) (by kernel_rfl) (by kernel_rfl) (fun _ _ _ h => h) (fun _ _ => Iff.rfl) (Or.inl ⟨by rfl, ?_⟩) (by assumption) ?_
    rotate_left
    · intro W hSw
      go_simp
      try with_reducible rfl
    try simp only [Act.put, List.setIfInBounds_toArray, List.set_cons_zero, List.set_cons_succ]
    refine anyU_take0 (i := 1) (oi := ⟨_, _, _, _, _, _⟩) (v := ?_) rfl (by kernel_rfl) (by kernel_rfl) (by kernel_rfl) (fun _ _ _ h => h) (fun _ _ => Iff.rfl) (Or.inl ⟨by rfl, ?_⟩) (by assumption) ?_
    rotate_left
    · intro W hSw
      go_simp
      try with_reducible rfl
    try simp only [Act.put, List.setIfInBounds_toArray, List.set_cons_zero, List.set_cons_succ]
    refine anyU_take (i := 2) (b := 6) (oi := ⟨_, _, _, _, _, _⟩) (ob := ⟨_, _, _, _, _, _⟩) (C := (fun W => W.cell? ⟨g, o + 2 * x.val, none⟩ = some (.int .i64 z0))) (v := ?_) rfl rfl (by kernel_rfl) (by kernel_rfl) (by kernel_rfl) (by kernel_rfl) (by kernel_rfl) (fun _ _ _ h => h) (fun _ _ => Iff.rfl) (fun _ _ _ h => h.1) (Or.inl ⟨by rfl, ?_⟩) (by assumption) ?_
    rotate_left
    · intro W hSw
      try dsimp only at hSw
      go_simp
      try with_reducible rfl
    try simp only [Act.put, List.setIfInBounds_toArray, List.set_cons_zero, List.set_cons_succ]
    refine anyU_take0 (i := 3) (oi := ⟨_, _, _, _, _, _⟩) (v := ?_) rfl (by kernel_rfl) (by kernel_rfl) (by kernel_rfl) (fun _ _ _ h => h) (fun _ _ => Iff.rfl) (Or.inl ⟨by rfl, ?_⟩) (by assumption) ?_
    rotate_left
    · intro W hSw
      go_simp
      try with_reducible rfl
    try simp only [Act.put, List.setIfInBounds_toArray, List.set_cons_zero, List.set_cons_succ]
    refine anyU_take0 (i := 4) (oi := ⟨_, _, _, _, _, _⟩) (v := ?_) rfl (by kernel_rfl) (by kernel_rfl) (by kernel_rfl) (fun _ _ _ h => h) (fun _ _ => Iff.rfl) (Or.inl ⟨by rfl, ?_⟩) (by assumption) ?_
    rotate_left
    · intro W hSw
      go_simp
      try with_reducible rfl
    try simp only [Act.put, List.setIfInBounds_toArray, List.set_cons_zero, List.set_cons_succ]
    refine anyU_take (i := 5) (b := 6) (oi := ⟨_, _, _, _, _, _⟩) (ob := ⟨_, _, _, _, _, _⟩) (C := (fun W => W.cell? ⟨g, o + 2 * x.val + 1, none⟩ = some (.int .i64 z1))) (v := ?_) rfl rfl (by kernel_rfl) (by kernel_rfl) (by kernel_rfl) (by kernel_rfl) (by kernel_rfl) (fun _ _ _ h => h) (fun _ _ => Iff.rfl) (fun _ _ _ h => h.2) (Or.inl ⟨by rfl, ?_⟩) (by assumption) ?_
    rotate_left
    · intro W hSw
      try dsimp only at hSw
      go_simp
      try with_reducible rfl
    try simp only [Act.put, List.setIfInBounds_toArray, List.set_cons_zero, List.set_cons_succ]
    refine anyU_ready (rs := [6]) (by kernel_rfl) (by simp) ?_
    refine readyU_cons (o := ⟨_, _, _, _, _, _⟩) rfl (fun K hK => ?_) readyU_nil
    go_simp
    refine (midOf_calls _ _ _ (by omega) (by omega) (by omega) (by omega)).mono ?_
    rintro e w' ⟨rfl, rfl⟩
    refine hK.out _ _ hHeld (fun hHeld => ?_)
    clear hK K
    try simp only [Act.put, List.setIfInBounds_toArray, List.set_cons_zero, List.set_cons_succ]
    refine anyU_take0 (i := 7) (oi := ⟨_, _, _, _, _, _⟩) (v := ?_) rfl (by kernel_rfl) (by kernel_rfl) (by kernel_rfl) (fun _ _ _ h => h) (fun _ _ => Iff.rfl) (Or.inl ⟨by rfl, ?_⟩) (by assumption) ?_
    rotate_left
    · intro W hSw
      go_simp
      try with_reducible rfl
    try simp only [Act.put, List.setIfInBounds_toArray, List.set_cons_zero, List.set_cons_succ]
    refine anyU_take0 (i := 8) (oi := ⟨_, _, _, _, _, _⟩) (v := ?_) rfl (by kernel_rfl) (by kernel_rfl) (by kernel_rfl) (fun _ _ _ h => h) (fun _ _ => Iff.rfl) (Or.inl ⟨by rfl, ?_⟩) (by assumption) ?_
    rotate_left
    · intro W hSw
      go_simp
      try with_reducible rfl
    try simp only [Act.put, List.setIfInBounds_toArray, List.set_cons_zero, List.set_cons_succ]
    refine anyU_take0 (i := 9) (oi := ⟨_, _, _, _, _, _⟩) (v := ?_) rfl (by kernel_rfl) (by kernel_rfl) (by kernel_rfl) (fun _ _ _ h => h) (fun _ _ => Iff.rfl) (Or.inl ⟨by rfl, ?_⟩) (by assumption) ?_
    rotate_left
    · intro W hSw
      go_simp
      try with_reducible rfl
    try simp only [Act.put, List.setIfInBounds_toArray, List.set_cons_zero, List.set_cons_succ]
    refine anyU_take0 (i := 10) (oi := ⟨_, _, _, _, _, _⟩) (v := ?_) rfl (by kernel_rfl) (by kernel_rfl) (by kernel_rfl) (fun _ _ _ h => h) (fun _ _ => Iff.rfl) (Or.inl ⟨by rfl, ?_⟩) (by assumption) ?_
    rotate_left
    · intro W hSw
      go_simp
      try with_reducible rfl
    try simp only [Act.put, List.setIfInBounds_toArray, List.set_cons_zero, List.set_cons_succ]
    refine anyU_take0 (i := 11) (oi := ⟨_, _, _, _, _, _⟩) (v := ?_) rfl (by kernel_rfl) (by kernel_rfl) (by kernel_rfl) (fun _ _ _ h => h) (fun _ _ => Iff.rfl) (Or.inl ⟨by rfl, ?_⟩) (by assumption) ?_
    rotate_left
    · intro W hSw
      go_simp
      try with_reducible rfl
    try simp only [Act.put, List.setIfInBounds_toArray, List.set_cons_zero, List.set_cons_succ]
    refine anyU_done (by kernel_rfl) ?_ _
    change Code.wpIn _ _ _ _ _ _ _
    obtain ⟨mv, hmv⟩ : ∃ mv, mv = z1 + (z0 - z1) / 2 := ⟨_, rfl⟩
    obtain ⟨sv, hsv⟩ : ∃ sv, sv = z0 - z1 := ⟨_, rfl⟩
    rw [← hmv] at HM ⊢
    rw [← hsv] at HD ⊢
    obtain ⟨xm, hxm⟩ : ∃ xm, xm = pre.map fun x => midAt zs x.val := ⟨_, rfl⟩
    obtain ⟨xd, hxd⟩ : ∃ xd, xd = pre.map fun x => sideAt zs x.val := ⟨_, rfl⟩
    rw [← hxm] at HT hlen
    rw [← hxd] at HT hlen2
    have HXM := Lib.hid hxm
    have HXD := Lib.hid hxd
    clear hxm hxd
    have hvm : ∀ g, vm.ownBlock = some g → g < W.heap.size := fun g e => by
      obtain ⟨_, cs, h⟩ := owns_block HT.out.rm e
      exact (Array.getElem?_eq_some_iff.1 h).1
    have T0 := two_drew (two_drew (two_base HT.out))
    have z00 : W.heap.size ≤ W.drew.drew.heap.size := Nat.le_refl _
    clear c0 c1 b0 b1 hmv hsv HGO hst HI HZ H0 H HT0 hHeld


    refine round_region (S := (fun L V => (L.getD 3 true = true ∨ V.cell? ⟨w1.heap.size, 0, none⟩ = some vm) ∧ (L.getD 7 true = true ∨ V.cell? ⟨w1.heap.size + 1, 0, none⟩ = some vs))) (by kernel_rfl) (fun h => by obtain ⟨_, _, h⟩ := h; exact h) (by kernel_rfl) ⟨Or.inr T0.bm.cell, Or.inr T0.bs.cell⟩ (fun hHeld => ?_)
    refine anyU_take (i := 0) (b := 3) (oi := ⟨_, _, _, _, _, _⟩) (ob := ⟨_, _, _, _, _, _⟩) (C := (fun V => V.cell? ⟨w1.heap.size, 0, none⟩ = some vm)) (v := ?_) rfl rfl (by kernel_rfl) (by kernel_rfl) (by kernel_rfl) (by kernel_rfl) (by kernel_rfl) (fun _ _ _ h => h) (fun L w => by simp only [getD_set_ne true (show (0 : Nat) ≠ 3 by decide), getD_set_ne true (show (0 : Nat) ≠ 7 by decide)]) (fun L V h k => k.1.resolve_left (by rw [h]; decide)) (Or.inl ⟨by rfl, ?_⟩) ⟨Or.inr T0.bm.cell, Or.inr T0.bs.cell⟩ ?_
    rotate_left
    · intro W hSw
      try dsimp only at hSw
      go_simp
      try with_reducible rfl
    try simp only [Act.put, List.setIfInBounds_toArray, List.set_cons_zero, List.set_cons_succ]
    refine anyU_take0 (i := 1) (oi := ⟨_, _, _, _, _, _⟩) (v := ?_) rfl (by kernel_rfl) (by kernel_rfl) (by kernel_rfl) (fun _ _ _ h => h) (fun L w => by simp only [getD_set_ne true (show (1 : Nat) ≠ 3 by decide), getD_set_ne true (show (1 : Nat) ≠ 7 by decide)]) (Or.inl ⟨by rfl, ?_⟩) ⟨Or.inr T0.bm.cell, Or.inr T0.bs.cell⟩ ?_
    rotate_left
    · intro W hSw
      go_simp
      try with_reducible rfl
    try simp only [Act.put, List.setIfInBounds_toArray, List.set_cons_zero, List.set_cons_succ]
    refine anyU_take (i := 4) (b := 7) (oi := ⟨_, _, _, _, _, _⟩) (ob := ⟨_, _, _, _, _, _⟩) (C := (fun V => V.cell? ⟨w1.heap.size + 1, 0, none⟩ = some vs)) (v := ?_) rfl rfl (by kernel_rfl) (by kernel_rfl) (by kernel_rfl) (by kernel_rfl) (by kernel_rfl) (fun _ _ _ h => h) (fun L w => by simp only [getD_set_ne true (show (4 : Nat) ≠ 3 by decide), getD_set_ne true (show (4 : Nat) ≠ 7 by decide)]) (fun L V h k => k.2.resolve_left (by rw [h]; decide)) (Or.inl ⟨by rfl, ?_⟩) ⟨Or.inr T0.bm.cell, Or.inr T0.bs.cell⟩ ?_
    rotate_left
    · intro W hSw
      try dsimp only at hSw
      go_simp
      try with_reducible rfl
    try simp only [Act.put, List.setIfInBounds_toArray, List.set_cons_zero, List.set_cons_succ]
    refine anyU_take0 (i := 5) (oi := ⟨_, _, _, _, _, _⟩) (v := ?_) rfl (by kernel_rfl) (by kernel_rfl) (by kernel_rfl) (fun _ _ _ h => h) (fun L w => by simp only [getD_set_ne true (show (5 : Nat) ≠ 3 by decide), getD_set_ne true (show (5 : Nat) ≠ 7 by decide)]) (Or.inl ⟨by rfl, ?_⟩) ⟨Or.inr T0.bm.cell, Or.inr T0.bs.cell⟩ ?_
    rotate_left
    · intro W hSw
      go_simp
      try with_reducible rfl
    try simp only [Act.put, List.setIfInBounds_toArray, List.set_cons_zero, List.set_cons_succ]
    clear hHeld
    generalize W.drew.drew = V0 at *
    -- BEGIN gensplit
    refine anyU_ready (rs := [2, 6]) (by kernel_rfl) (by simp) ?_
    refine readyU_cons (o := ⟨_, _, _, _, _, _⟩) rfl (fun K hK => ?_) (readyU_cons (o := ⟨_, _, _, _, _, _⟩) rfl (fun K hK => ?_) readyU_nil)
    · skip
      go_simp
      have T1 := two_alloc T0 (.cells #[.int .i64 mv] 3)
      have K1 := blk_new V0 3 #[.int .i64 mv]
      refine hK.out _ _ ⟨Or.inr T1.bm.cell, Or.inr T1.bs.cell⟩ (fun hHeld => ?_)
      clear hK K hHeld
      try simp only [Act.put, List.setIfInBounds_toArray, List.set_cons_zero, List.set_cons_succ]
      clear T0
      have q1 : W.heap.size ≤ (V0.alloc (.cells #[.int .i64 mv] 3)).heap.size := by rw [World.size_alloc]; omega
      generalize (V0.alloc (.cells #[.int .i64 mv] 3)) = V1 at *
      refine anyU_ready (rs := [3, 6]) (by kernel_rfl) (by simp) ?_
      refine readyU_cons (o := ⟨_, _, _, _, _, _⟩) rfl (fun K hK => ?_) (readyU_cons (o := ⟨_, _, _, _, _, _⟩) rfl (fun K hK => ?_) readyU_nil)
      · skip
        obtain ⟨v2, V2, hr2, ho2, hw2, ha2⟩ := run_append_one V1 T1.rm K1 (by exact hlen) (two_size T1) 55
        obtain ⟨g2, c2, rfl⟩ := ownsRow_succ ho2
        have T2 := two_append T1 ho2 hw2 ha2
        have q2 : W.heap.size ≤ V2.heap.size := by have := hw2.size; omega
        refine stepU_append (by rfl) _ _ _ _ rfl _ _ rfl rfl _ V2 hr2 ?_
        refine hK.out _ _ ⟨Or.inl (by rfl), Or.inr T2.bs.cell⟩ (fun hHeld => ?_)
        clear hK K hHeld hr2 ho2 hw2 ha2
        try simp only [Act.put, List.setIfInBounds_toArray, List.set_cons_zero, List.set_cons_succ]
        refine anyU_ready (rs := [6]) (by kernel_rfl) (by simp) ?_
        refine readyU_cons (o := ⟨_, _, _, _, _, _⟩) rfl (fun K hK => ?_) readyU_nil
        go_simp
        have T3 := two_alloc T2 (.cells #[.int .i64 sv] 3)
        have K3 := blk_new V2 3 #[.int .i64 sv]
        have L3 := blk_alloc K1 (.cells #[.int .i64 sv] 3)
        refine hK.out _ _ ⟨Or.inl (by rfl), Or.inr T3.bs.cell⟩ (fun hHeld => ?_)
        clear hK K hHeld
        try simp only [Act.put, List.setIfInBounds_toArray, List.set_cons_zero, List.set_cons_succ]
        clear T2 K1
        have q3 : W.heap.size ≤ (V2.alloc (.cells #[.int .i64 sv] 3)).heap.size := by rw [World.size_alloc]; omega
        generalize (V2.alloc (.cells #[.int .i64 sv] 3)) = V3 at *
        refine anyU_ready (rs := [7]) (by kernel_rfl) (by simp) ?_
        refine readyU_cons (o := ⟨_, _, _, _, _, _⟩) rfl (fun K hK => ?_) readyU_nil
        obtain ⟨v4, V4, hr4, ho4, hw4, ha4⟩ := run_append_one V3 T3.rs K3 (by exact hlen2) (two_size T3) 55
        obtain ⟨g4, c4, rfl⟩ := ownsRow_succ ho4
        have T4 := two_append2 T3 ho4 hw4 ha4
        have q4 : W.heap.size ≤ V4.heap.size := by have := hw4.size; omega
        refine stepU_append (by rfl) _ _ _ _ rfl _ _ rfl rfl _ V4 hr4 ?_
        refine hK.out _ _ ⟨Or.inl (by rfl), Or.inl (by rfl)⟩ (fun hHeld => ?_)
        clear hK K hHeld hr4 ho4 hw4 ha4
        try simp only [Act.put, List.setIfInBounds_toArray, List.set_cons_zero, List.set_cons_succ]
        refine anyU_ready (rs := [8]) (by kernel_rfl) (by simp) ?_
        refine readyU_cons (o := ⟨_, _, _, _, _, _⟩) rfl (fun K hK => ?_) readyU_nil
        have T5 := two_put T4
        have h5c := T4.bm.cell
        have h5f := T4.bm.frozen
        go_simp
        refine hK.out _ _ ⟨Or.inl (by rfl), Or.inl (by rfl)⟩ (fun hHeld => ?_)
        clear hK K hHeld h5c h5f
        try simp only [Act.put, List.setIfInBounds_toArray, List.set_cons_zero, List.set_cons_succ]
        obtain ⟨V5, hV5⟩ : ∃ V, V = V4.setCell ⟨w1.heap.size, 0, none⟩ (.slice (some ⟨g2, 0, none⟩) (xm.length + 1) c2) := ⟨_, rfl⟩
        rw [← hV5] at T5 ⊢
        clear hV5
        refine anyU_ready (rs := [9]) (by kernel_rfl) (by simp) ?_
        refine readyU_cons (o := ⟨_, _, _, _, _, _⟩) rfl (fun K hK => ?_) readyU_nil
        have T6 := two_put2 T5
        have h6c := T5.bs.cell
        have h6f := T5.bs.frozen
        go_simp
        refine hK.out _ _ ⟨Or.inl (by rfl), Or.inl (by rfl)⟩ (fun hHeld => ?_)
        clear hK K hHeld h6c h6f
        try simp only [Act.put, List.setIfInBounds_toArray, List.set_cons_zero, List.set_cons_succ]
        refine anyU_done (by kernel_rfl) ?_ _
        have TJ := two_join HT.out T6
        rw [← HM.out, ← HD.out] at TJ
        exact ⟨T6.kf, ⟨(T6.av _ (Or.inl rfl)).2.2.2.2.2, (T6.av _ (Or.inr rfl)).2.2.2.2.2⟩, _, _, two_cast TJ (by rw [List.map_append, ← HXM.out]; rfl) (by rw [List.map_append, ← HXD.out]; rfl)⟩
      · skip
        go_simp
        have T7 := two_alloc T1 (.cells #[.int .i64 sv] 3)
        have K7 := blk_new V1 3 #[.int .i64 sv]
        have L7 := blk_alloc K1 (.cells #[.int .i64 sv] 3)
        refine hK.out _ _ ⟨Or.inr T7.bm.cell, Or.inr T7.bs.cell⟩ (fun hHeld => ?_)
        clear hK K hHeld
        try simp only [Act.put, List.setIfInBounds_toArray, List.set_cons_zero, List.set_cons_succ]
        clear T1 K1
        have q7 : W.heap.size ≤ (V1.alloc (.cells #[.int .i64 sv] 3)).heap.size := by rw [World.size_alloc]; omega
        generalize (V1.alloc (.cells #[.int .i64 sv] 3)) = V7 at *
        refine anyU_ready (rs := [3]) (by kernel_rfl) (by simp) ?_
        refine readyU_cons (o := ⟨_, _, _, _, _, _⟩) rfl (fun K hK => ?_) readyU_nil
        obtain ⟨v8, V8, hr8, ho8, hw8, ha8⟩ := run_append_one V7 T7.rm L7 (by exact hlen) (two_size T7) 55
        obtain ⟨g8, c8, rfl⟩ := ownsRow_succ ho8
        have T8 := two_append T7 ho8 hw8 ha8
        have q8 : W.heap.size ≤ V8.heap.size := by have := hw8.size; omega
        have L8 := blk_grown K7 hw8 (fun e => by have := hvm _ e.symm; omega)
        refine stepU_append (by rfl) _ _ _ _ rfl _ _ rfl rfl _ V8 hr8 ?_
        refine hK.out _ _ ⟨Or.inl (by rfl), Or.inr T8.bs.cell⟩ (fun hHeld => ?_)
        clear hK K hHeld hr8 ho8 hw8 ha8
        try simp only [Act.put, List.setIfInBounds_toArray, List.set_cons_zero, List.set_cons_succ]
        refine anyU_ready (rs := [7]) (by kernel_rfl) (by simp) ?_
        refine readyU_cons (o := ⟨_, _, _, _, _, _⟩) rfl (fun K hK => ?_) readyU_nil
        obtain ⟨v9, V9, hr9, ho9, hw9, ha9⟩ := run_append_one V8 T8.rs L8 (by exact hlen2) (two_size T8) 55
        obtain ⟨g9, c9, rfl⟩ := ownsRow_succ ho9
        have T9 := two_append2 T8 ho9 hw9 ha9
        have q9 : W.heap.size ≤ V9.heap.size := by have := hw9.size; omega
        refine stepU_append (by rfl) _ _ _ _ rfl _ _ rfl rfl _ V9 hr9 ?_
        refine hK.out _ _ ⟨Or.inl (by rfl), Or.inl (by rfl)⟩ (fun hHeld => ?_)
        clear hK K hHeld hr9 ho9 hw9 ha9
        try simp only [Act.put, List.setIfInBounds_toArray, List.set_cons_zero, List.set_cons_succ]
        refine anyU_ready (rs := [8]) (by kernel_rfl) (by simp) ?_
        refine readyU_cons (o := ⟨_, _, _, _, _, _⟩) rfl (fun K hK => ?_) readyU_nil
        have T10 := two_put T9
        have h10c := T9.bm.cell
        have h10f := T9.bm.frozen
        go_simp
        refine hK.out _ _ ⟨Or.inl (by rfl), Or.inl (by rfl)⟩ (fun hHeld => ?_)
        clear hK K hHeld h10c h10f
        try simp only [Act.put, List.setIfInBounds_toArray, List.set_cons_zero, List.set_cons_succ]
        obtain ⟨V10, hV10⟩ : ∃ V, V = V9.setCell ⟨w1.heap.size, 0, none⟩ (.slice (some ⟨g8, 0, none⟩) (xm.length + 1) c8) := ⟨_, rfl⟩
        rw [← hV10] at T10 ⊢
        clear hV10
        refine anyU_ready (rs := [9]) (by kernel_rfl) (by simp) ?_
        refine readyU_cons (o := ⟨_, _, _, _, _, _⟩) rfl (fun K hK => ?_) readyU_nil
        have T11 := two_put2 T10
        have h11c := T10.bs.cell
        have h11f := T10.bs.frozen
        go_simp
        refine hK.out _ _ ⟨Or.inl (by rfl), Or.inl (by rfl)⟩ (fun hHeld => ?_)
        clear hK K hHeld h11c h11f
        try simp only [Act.put, List.setIfInBounds_toArray, List.set_cons_zero, List.set_cons_succ]
        refine anyU_done (by kernel_rfl) ?_ _
        have TJ := two_join HT.out T11
        rw [← HM.out, ← HD.out] at TJ
        exact ⟨T11.kf, ⟨(T11.av _ (Or.inl rfl)).2.2.2.2.2, (T11.av _ (Or.inr rfl)).2.2.2.2.2⟩, _, _, two_cast TJ (by rw [List.map_append, ← HXM.out]; rfl) (by rw [List.map_append, ← HXD.out]; rfl)⟩
    · skip
      go_simp
      have T12 := two_alloc T0 (.cells #[.int .i64 sv] 3)
      have K12 := blk_new V0 3 #[.int .i64 sv]
      refine hK.out _ _ ⟨Or.inr T12.bm.cell, Or.inr T12.bs.cell⟩ (fun hHeld => ?_)
      clear hK K hHeld
      try simp only [Act.put, List.setIfInBounds_toArray, List.set_cons_zero, List.set_cons_succ]
      clear T0
      have q12 : W.heap.size ≤ (V0.alloc (.cells #[.int .i64 sv] 3)).heap.size := by rw [World.size_alloc]; omega
      generalize (V0.alloc (.cells #[.int .i64 sv] 3)) = V12 at *
      refine anyU_ready (rs := [2]) (by kernel_rfl) (by simp) ?_
      refine readyU_cons (o := ⟨_, _, _, _, _, _⟩) rfl (fun K hK => ?_) readyU_nil
      go_simp
      have T13 := two_alloc T12 (.cells #[.int .i64 mv] 3)
      have K13 := blk_new V12 3 #[.int .i64 mv]
      have L13 := blk_alloc K12 (.cells #[.int .i64 mv] 3)
      refine hK.out _ _ ⟨Or.inr T13.bm.cell, Or.inr T13.bs.cell⟩ (fun hHeld => ?_)
      clear hK K hHeld
      try simp only [Act.put, List.setIfInBounds_toArray, List.set_cons_zero, List.set_cons_succ]
      clear T12 K12
      have q13 : W.heap.size ≤ (V12.alloc (.cells #[.int .i64 mv] 3)).heap.size := by rw [World.size_alloc]; omega
      generalize (V12.alloc (.cells #[.int .i64 mv] 3)) = V13 at *
      refine anyU_ready (rs := [3]) (by kernel_rfl) (by simp) ?_
      refine readyU_cons (o := ⟨_, _, _, _, _, _⟩) rfl (fun K hK => ?_) readyU_nil
      obtain ⟨v14, V14, hr14, ho14, hw14, ha14⟩ := run_append_one V13 T13.rm K13 (by exact hlen) (two_size T13) 55
      obtain ⟨g14, c14, rfl⟩ := ownsRow_succ ho14
      have T14 := two_append T13 ho14 hw14 ha14
      have q14 : W.heap.size ≤ V14.heap.size := by have := hw14.size; omega
      have L14 := blk_grown L13 hw14 (fun e => by have := hvm _ e.symm; omega)
      refine stepU_append (by rfl) _ _ _ _ rfl _ _ rfl rfl _ V14 hr14 ?_
      refine hK.out _ _ ⟨Or.inl (by rfl), Or.inr T14.bs.cell⟩ (fun hHeld => ?_)
      clear hK K hHeld hr14 ho14 hw14 ha14
      try simp only [Act.put, List.setIfInBounds_toArray, List.set_cons_zero, List.set_cons_succ]
      refine anyU_ready (rs := [7]) (by kernel_rfl) (by simp) ?_
      refine readyU_cons (o := ⟨_, _, _, _, _, _⟩) rfl (fun K hK => ?_) readyU_nil
      obtain ⟨v15, V15, hr15, ho15, hw15, ha15⟩ := run_append_one V14 T14.rs L14 (by exact hlen2) (two_size T14) 55
      obtain ⟨g15, c15, rfl⟩ := ownsRow_succ ho15
      have T15 := two_append2 T14 ho15 hw15 ha15
      have q15 : W.heap.size ≤ V15.heap.size := by have := hw15.size; omega
      refine stepU_append (by rfl) _ _ _ _ rfl _ _ rfl rfl _ V15 hr15 ?_
      refine hK.out _ _ ⟨Or.inl (by rfl), Or.inl (by rfl)⟩ (fun hHeld => ?_)
      clear hK K hHeld hr15 ho15 hw15 ha15
      try simp only [Act.put, List.setIfInBounds_toArray, List.set_cons_zero, List.set_cons_succ]
      refine anyU_ready (rs := [8]) (by kernel_rfl) (by simp) ?_
      refine readyU_cons (o := ⟨_, _, _, _, _, _⟩) rfl (fun K hK => ?_) readyU_nil
      have T16 := two_put T15
      have h16c := T15.bm.cell
      have h16f := T15.bm.frozen
      go_simp
      refine hK.out _ _ ⟨Or.inl (by rfl), Or.inl (by rfl)⟩ (fun hHeld => ?_)
      clear hK K hHeld h16c h16f
      try simp only [Act.put, List.setIfInBounds_toArray, List.set_cons_zero, List.set_cons_succ]
      obtain ⟨V16, hV16⟩ : ∃ V, V = V15.setCell ⟨w1.heap.size, 0, none⟩ (.slice (some ⟨g14, 0, none⟩) (xm.length + 1) c14) := ⟨_, rfl⟩
      rw [← hV16] at T16 ⊢
      clear hV16
      refine anyU_ready (rs := [9]) (by kernel_rfl) (by simp) ?_
      refine readyU_cons (o := ⟨_, _, _, _, _, _⟩) rfl (fun K hK => ?_) readyU_nil
      have T17 := two_put2 T16
      have h17c := T16.bs.cell
      have h17f := T16.bs.frozen
      go_simp
      refine hK.out _ _ ⟨Or.inl (by rfl), Or.inl (by rfl)⟩ (fun hHeld => ?_)
      clear hK K hHeld h17c h17f
      try simp only [Act.put, List.setIfInBounds_toArray, List.set_cons_zero, List.set_cons_succ]
      refine anyU_done (by kernel_rfl) ?_ _
      have TJ := two_join HT.out T17
      rw [← HM.out, ← HD.out] at TJ
      exact ⟨T17.kf, ⟨(T17.av _ (Or.inl rfl)).2.2.2.2.2, (T17.av _ (Or.inr rfl)).2.2.2.2.2⟩, _, _, two_cast TJ (by rw [List.map_append, ← HXM.out]; rfl) (by rw [List.map_append, ← HXD.out]; rfl)⟩
    -- END gensplit
  case done =>
    rintro D ys W hD rfl ⟨vm, vs, hT⟩ hK
    have cm := hT.bm.cell
    have cs := hT.bs.cell
    have HT := Lib.hid hT
    clear hT HI HGO hst HT0 H0 H HZ
    gi_wp2
    refine wpIn_wide.2 ?_
    go_quiet (fail)
    have hK2 : (W.drewN nq).heap[D]? = some (.deferred (some [])) := hK
    have e1 := finRange_map m (midAt zs)
    have e2 := finRange_map m (sideAt zs)
    have hd1 := HT.out.rm
    have hd2 := HT.out.rs
    rw [e1, List.length_map, List.length_range] at hd1
    rw [e2, List.length_map, List.length_range] at hd2
    have RM := Lib.hid hd1
    have RS := Lib.hid hd2
    have hB := below_draws (HB0.out.trans HT.out.bl) nq
    have hD2 : w.heap.size ≤ D := by have := HB0.out.size; omega
    have HB := Lib.hid (hB.trans (belowK_b (w := w) (Nat.le_refl _) (W.drewN nq) D _ (.deferred none) hD2 hK2 rfl rfl))
    clear hd1 hd2 e1 e2 hB cm cs
    gi_wp2
    refine ⟨by simp, .inl ⟨_, _, rfl, run_takeDeferred hK2, ?_⟩⟩
    exact ⟨_, results_tmp3 rfl _ _ _, vm, vs, rfl, ownsRow_putObj RM.out _ hK2 rfl, ownsRow_putObj RS.out _ hK2 rfl, HB.out⟩
  case stop =>
    rintro D c pre W _ _ h _
    exact h.elim
end Go.Proofs.Ytnmhbonheaoldaa
