/- Contracts of dct: stages. -/
import Derived.Test.YtlfiaaoegeodnaaDctW
import Derived.Deep.LoopGhost
namespace Go.Proofs.Ytlfiaaoegeodnaa
open Go.RowKit

set_option maxHeartbeats 4000000 in
theorem stage_16 (fd : Nat) (F : Nat → Nat → Int → List Int → List Int) (g : Nat) (zs : List Int) (w : World) (hb : Blk w g 75 (ints zs)) (hl : zs.length = 32)
    (eg : ∀ args w, (callFunc fd args).run Try.prog w = .ok (.enter fd args) w)
    (hdo : ∀ (i j : Nat) (k : Int) (zs : List Int) (w : World), Blk w g 75 (ints zs) → zs.length = 32 → Fit zs → i < 16 → j < 16 → i ≠ j → -9223372036854775808 ≤ k → k ≤ 9223372036854775807 →
      Calls Try.prog fd #[.pointer (some ⟨g, 0, none⟩), .int .i64 i, .int .i64 j, .int .i64 k] w (BlkTo 75 w g (F i j k zs)))
    (hlen : ∀ i j k zs, (F i j k zs).length = zs.length) (hfit : ∀ t m, t < 1 → m ≤ 8 → Fit (stageIn F 16 (t * 16) m (stageTo F 16 t zs))) :
    Calls Try.prog 72 #[.pointer (some ⟨g, 0, none⟩), .int .i64 16, .func (.func fd) #[] #[]] w (BlkTo 75 w g (stageTo F 16 1 zs)) := by
  have hlI : ∀ (p : Nat) (zs : List Int) (m : Nat), (stageIn F 16 p m zs).length = zs.length := fun p zs m => by
    induction m with
    | zero => rfl
    | succ m ih => rw [stageIn, hlen, ih]
  have hlT : ∀ t, (stageTo F 16 t zs).length = 32 := fun t => by
    induction t with
    | zero => exact hl
    | succ t ih => rw [stageTo, hlI, ih]
  have HD := Lib.hid hdo
  have HF := Lib.hid hfit
  have HI := Lib.hid hlI
  have HT := Lib.hid hlT
  have HB := Lib.hid hb
  clear hdo hfit hlI hlT hb hl hlen
  go_enter Try.func72, Try.ntmps72
  go_wp2_with fail
  go_loopg [6, 7] 1 (fun gg a _ wr => ∃ t : Nat, t ≤ 1 ∧ 1 - t ≤ gg ∧ a = .int .i64 ((t : Int) * 16) ∧ Aside (Blk wr g 75 (ints (stageTo F 16 t zs))) ∧ Aside (w.grownBy wr (some g)))
  case atStart => exact ⟨0, by omega, by omega, rfl, HB.out, World.grownBy.refl w _⟩
  case round =>
    obtain ⟨t, ht, hg, rfl, B, G⟩ := hrel
    by_cases hlt : t < 1
    · go_wp2_with fail
      generalize decide ((t : Int) * 16 < 16) = v9
      go_loopg [7, 15] 8 (fun gg _ a wr => ∃ m : Nat, m ≤ 8 ∧ 8 - m ≤ gg ∧ a = .int .i64 m ∧ Aside (Blk wr g 75 (ints (stageIn F 16 (t * 16) m (stageTo F 16 t zs)))) ∧ Aside (w.grownBy wr (some g)))
      case atStart => exact ⟨0, by omega, by omega, rfl, B.out, G.out⟩
      case round =>
        obtain ⟨m, hm, hg2, rfl, B2, G2⟩ := hrel
        by_cases hlt2 : m < 8
        · have hcall := HD.out (t * 16 + m) (t * 16 + m + 8) (-((m : Int) * 512 / 16)) _ _ B2.out ((HI.out _ _ _).trans (HT.out t)) (HF.out t m hlt (by omega)) (by omega) (by omega) (by omega) (by omega) (by omega)
          simp only [Int.natCast_add, Int.natCast_mul, Int.cast_ofNat_Int] at hcall
          go_wp2_with fail
          refine hcall.mono ?_
          rintro e w' ⟨rfl, b', g'⟩
          go_wp2_with fail
          go_roundg (8 - (m + 1))
          case measure => omega
          case rel => exact ⟨m + 1, by omega, by omega, by go_num, b', grown_trans G2.out g'⟩
        · obtain rfl : m = 8 := by omega
          go_wp2_with fail
          go_roundg (1 - (t + 1))
          case measure => omega
          case rel => exact ⟨t + 1, by omega, by omega, by go_num, B2.out, G2.out⟩
    · obtain rfl : t = 1 := by omega
      go_wp2_with fail
      go_end0
      exact ⟨rfl, B.out, G.out⟩

set_option maxHeartbeats 4000000 in
theorem stage_8 (fd : Nat) (F : Nat → Nat → Int → List Int → List Int) (g : Nat) (zs : List Int) (w : World) (hb : Blk w g 75 (ints zs)) (hl : zs.length = 32)
    (eg : ∀ args w, (callFunc fd args).run Try.prog w = .ok (.enter fd args) w)
    (hdo : ∀ (i j : Nat) (k : Int) (zs : List Int) (w : World), Blk w g 75 (ints zs) → zs.length = 32 → Fit zs → i < 16 → j < 16 → i ≠ j → -9223372036854775808 ≤ k → k ≤ 9223372036854775807 →
      Calls Try.prog fd #[.pointer (some ⟨g, 0, none⟩), .int .i64 i, .int .i64 j, .int .i64 k] w (BlkTo 75 w g (F i j k zs)))
    (hlen : ∀ i j k zs, (F i j k zs).length = zs.length) (hfit : ∀ t m, t < 2 → m ≤ 4 → Fit (stageIn F 8 (t * 8) m (stageTo F 8 t zs))) :
    Calls Try.prog 72 #[.pointer (some ⟨g, 0, none⟩), .int .i64 8, .func (.func fd) #[] #[]] w (BlkTo 75 w g (stageTo F 8 2 zs)) := by
  have hlI : ∀ (p : Nat) (zs : List Int) (m : Nat), (stageIn F 8 p m zs).length = zs.length := fun p zs m => by
    induction m with
    | zero => rfl
    | succ m ih => rw [stageIn, hlen, ih]
  have hlT : ∀ t, (stageTo F 8 t zs).length = 32 := fun t => by
    induction t with
    | zero => exact hl
    | succ t ih => rw [stageTo, hlI, ih]
  have HD := Lib.hid hdo
  have HF := Lib.hid hfit
  have HI := Lib.hid hlI
  have HT := Lib.hid hlT
  have HB := Lib.hid hb
  clear hdo hfit hlI hlT hb hl hlen
  go_enter Try.func72, Try.ntmps72
  go_wp2_with fail
  go_loopg [6, 7] 2 (fun gg a _ wr => ∃ t : Nat, t ≤ 2 ∧ 2 - t ≤ gg ∧ a = .int .i64 ((t : Int) * 8) ∧ Aside (Blk wr g 75 (ints (stageTo F 8 t zs))) ∧ Aside (w.grownBy wr (some g)))
  case atStart => exact ⟨0, by omega, by omega, rfl, HB.out, World.grownBy.refl w _⟩
  case round =>
    obtain ⟨t, ht, hg, rfl, B, G⟩ := hrel
    by_cases hlt : t < 2
    · go_wp2_with fail
      generalize decide ((t : Int) * 8 < 16) = v9
      go_loopg [7, 15] 4 (fun gg _ a wr => ∃ m : Nat, m ≤ 4 ∧ 4 - m ≤ gg ∧ a = .int .i64 m ∧ Aside (Blk wr g 75 (ints (stageIn F 8 (t * 8) m (stageTo F 8 t zs)))) ∧ Aside (w.grownBy wr (some g)))
      case atStart => exact ⟨0, by omega, by omega, rfl, B.out, G.out⟩
      case round =>
        obtain ⟨m, hm, hg2, rfl, B2, G2⟩ := hrel
        by_cases hlt2 : m < 4
        · have hcall := HD.out (t * 8 + m) (t * 8 + m + 4) (-((m : Int) * 512 / 8)) _ _ B2.out ((HI.out _ _ _).trans (HT.out t)) (HF.out t m hlt (by omega)) (by omega) (by omega) (by omega) (by omega) (by omega)
          simp only [Int.natCast_add, Int.natCast_mul, Int.cast_ofNat_Int] at hcall
          go_wp2_with fail
          refine hcall.mono ?_
          rintro e w' ⟨rfl, b', g'⟩
          go_wp2_with fail
          go_roundg (4 - (m + 1))
          case measure => omega
          case rel => exact ⟨m + 1, by omega, by omega, by go_num, b', grown_trans G2.out g'⟩
        · obtain rfl : m = 4 := by omega
          go_wp2_with fail
          go_roundg (2 - (t + 1))
          case measure => omega
          case rel => exact ⟨t + 1, by omega, by omega, by go_num, B2.out, G2.out⟩
    · obtain rfl : t = 2 := by omega
      go_wp2_with fail
      go_end0
      exact ⟨rfl, B.out, G.out⟩

set_option maxHeartbeats 4000000 in
theorem stage_4 (fd : Nat) (F : Nat → Nat → Int → List Int → List Int) (g : Nat) (zs : List Int) (w : World) (hb : Blk w g 75 (ints zs)) (hl : zs.length = 32)
    (eg : ∀ args w, (callFunc fd args).run Try.prog w = .ok (.enter fd args) w)
    (hdo : ∀ (i j : Nat) (k : Int) (zs : List Int) (w : World), Blk w g 75 (ints zs) → zs.length = 32 → Fit zs → i < 16 → j < 16 → i ≠ j → -9223372036854775808 ≤ k → k ≤ 9223372036854775807 →
      Calls Try.prog fd #[.pointer (some ⟨g, 0, none⟩), .int .i64 i, .int .i64 j, .int .i64 k] w (BlkTo 75 w g (F i j k zs)))
    (hlen : ∀ i j k zs, (F i j k zs).length = zs.length) (hfit : ∀ t m, t < 4 → m ≤ 2 → Fit (stageIn F 4 (t * 4) m (stageTo F 4 t zs))) :
    Calls Try.prog 72 #[.pointer (some ⟨g, 0, none⟩), .int .i64 4, .func (.func fd) #[] #[]] w (BlkTo 75 w g (stageTo F 4 4 zs)) := by
  have hlI : ∀ (p : Nat) (zs : List Int) (m : Nat), (stageIn F 4 p m zs).length = zs.length := fun p zs m => by
    induction m with
    | zero => rfl
    | succ m ih => rw [stageIn, hlen, ih]
  have hlT : ∀ t, (stageTo F 4 t zs).length = 32 := fun t => by
    induction t with
    | zero => exact hl
    | succ t ih => rw [stageTo, hlI, ih]
  have HD := Lib.hid hdo
  have HF := Lib.hid hfit
  have HI := Lib.hid hlI
  have HT := Lib.hid hlT
  have HB := Lib.hid hb
  clear hdo hfit hlI hlT hb hl hlen
  go_enter Try.func72, Try.ntmps72
  go_wp2_with fail
  go_loopg [6, 7] 4 (fun gg a _ wr => ∃ t : Nat, t ≤ 4 ∧ 4 - t ≤ gg ∧ a = .int .i64 ((t : Int) * 4) ∧ Aside (Blk wr g 75 (ints (stageTo F 4 t zs))) ∧ Aside (w.grownBy wr (some g)))
  case atStart => exact ⟨0, by omega, by omega, rfl, HB.out, World.grownBy.refl w _⟩
  case round =>
    obtain ⟨t, ht, hg, rfl, B, G⟩ := hrel
    by_cases hlt : t < 4
    · go_wp2_with fail
      generalize decide ((t : Int) * 4 < 16) = v9
      go_loopg [7, 15] 2 (fun gg _ a wr => ∃ m : Nat, m ≤ 2 ∧ 2 - m ≤ gg ∧ a = .int .i64 m ∧ Aside (Blk wr g 75 (ints (stageIn F 4 (t * 4) m (stageTo F 4 t zs)))) ∧ Aside (w.grownBy wr (some g)))
      case atStart => exact ⟨0, by omega, by omega, rfl, B.out, G.out⟩
      case round =>
        obtain ⟨m, hm, hg2, rfl, B2, G2⟩ := hrel
        by_cases hlt2 : m < 2
        · have hcall := HD.out (t * 4 + m) (t * 4 + m + 2) (-((m : Int) * 512 / 4)) _ _ B2.out ((HI.out _ _ _).trans (HT.out t)) (HF.out t m hlt (by omega)) (by omega) (by omega) (by omega) (by omega) (by omega)
          simp only [Int.natCast_add, Int.natCast_mul, Int.cast_ofNat_Int] at hcall
          go_wp2_with fail
          refine hcall.mono ?_
          rintro e w' ⟨rfl, b', g'⟩
          go_wp2_with fail
          go_roundg (2 - (m + 1))
          case measure => omega
          case rel => exact ⟨m + 1, by omega, by omega, by go_num, b', grown_trans G2.out g'⟩
        · obtain rfl : m = 2 := by omega
          go_wp2_with fail
          go_roundg (4 - (t + 1))
          case measure => omega
          case rel => exact ⟨t + 1, by omega, by omega, by go_num, B2.out, G2.out⟩
    · obtain rfl : t = 4 := by omega
      go_wp2_with fail
      go_end0
      exact ⟨rfl, B.out, G.out⟩

set_option maxHeartbeats 4000000 in
theorem stage_2 (fd : Nat) (F : Nat → Nat → Int → List Int → List Int) (g : Nat) (zs : List Int) (w : World) (hb : Blk w g 75 (ints zs)) (hl : zs.length = 32)
    (eg : ∀ args w, (callFunc fd args).run Try.prog w = .ok (.enter fd args) w)
    (hdo : ∀ (i j : Nat) (k : Int) (zs : List Int) (w : World), Blk w g 75 (ints zs) → zs.length = 32 → Fit zs → i < 16 → j < 16 → i ≠ j → -9223372036854775808 ≤ k → k ≤ 9223372036854775807 →
      Calls Try.prog fd #[.pointer (some ⟨g, 0, none⟩), .int .i64 i, .int .i64 j, .int .i64 k] w (BlkTo 75 w g (F i j k zs)))
    (hlen : ∀ i j k zs, (F i j k zs).length = zs.length) (hfit : ∀ t m, t < 8 → m ≤ 1 → Fit (stageIn F 2 (t * 2) m (stageTo F 2 t zs))) :
    Calls Try.prog 72 #[.pointer (some ⟨g, 0, none⟩), .int .i64 2, .func (.func fd) #[] #[]] w (BlkTo 75 w g (stageTo F 2 8 zs)) := by
  have hlI : ∀ (p : Nat) (zs : List Int) (m : Nat), (stageIn F 2 p m zs).length = zs.length := fun p zs m => by
    induction m with
    | zero => rfl
    | succ m ih => rw [stageIn, hlen, ih]
  have hlT : ∀ t, (stageTo F 2 t zs).length = 32 := fun t => by
    induction t with
    | zero => exact hl
    | succ t ih => rw [stageTo, hlI, ih]
  have HD := Lib.hid hdo
  have HF := Lib.hid hfit
  have HI := Lib.hid hlI
  have HT := Lib.hid hlT
  have HB := Lib.hid hb
  clear hdo hfit hlI hlT hb hl hlen
  go_enter Try.func72, Try.ntmps72
  go_wp2_with fail
  go_loopg [6, 7] 8 (fun gg a _ wr => ∃ t : Nat, t ≤ 8 ∧ 8 - t ≤ gg ∧ a = .int .i64 ((t : Int) * 2) ∧ Aside (Blk wr g 75 (ints (stageTo F 2 t zs))) ∧ Aside (w.grownBy wr (some g)))
  case atStart => exact ⟨0, by omega, by omega, rfl, HB.out, World.grownBy.refl w _⟩
  case round =>
    obtain ⟨t, ht, hg, rfl, B, G⟩ := hrel
    by_cases hlt : t < 8
    · go_wp2_with fail
      generalize decide ((t : Int) * 2 < 16) = v9
      go_loopg [7, 15] 1 (fun gg _ a wr => ∃ m : Nat, m ≤ 1 ∧ 1 - m ≤ gg ∧ a = .int .i64 m ∧ Aside (Blk wr g 75 (ints (stageIn F 2 (t * 2) m (stageTo F 2 t zs)))) ∧ Aside (w.grownBy wr (some g)))
      case atStart => exact ⟨0, by omega, by omega, rfl, B.out, G.out⟩
      case round =>
        obtain ⟨m, hm, hg2, rfl, B2, G2⟩ := hrel
        by_cases hlt2 : m < 1
        · have hcall := HD.out (t * 2 + m) (t * 2 + m + 1) (-((m : Int) * 512 / 2)) _ _ B2.out ((HI.out _ _ _).trans (HT.out t)) (HF.out t m hlt (by omega)) (by omega) (by omega) (by omega) (by omega) (by omega)
          simp only [Int.natCast_add, Int.natCast_mul, Int.cast_ofNat_Int] at hcall
          go_wp2_with fail
          refine hcall.mono ?_
          rintro e w' ⟨rfl, b', g'⟩
          go_wp2_with fail
          go_roundg (1 - (m + 1))
          case measure => omega
          case rel => exact ⟨m + 1, by omega, by omega, by go_num, b', grown_trans G2.out g'⟩
        · obtain rfl : m = 1 := by omega
          go_wp2_with fail
          go_roundg (8 - (t + 1))
          case measure => omega
          case rel => exact ⟨t + 1, by omega, by omega, by go_num, B2.out, G2.out⟩
    · obtain rfl : t = 8 := by omega
      go_wp2_with fail
      go_end0
      exact ⟨rfl, B.out, G.out⟩

end Go.Proofs.Ytlfiaaoegeodnaa
