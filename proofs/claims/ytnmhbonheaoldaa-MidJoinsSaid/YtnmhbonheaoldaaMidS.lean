/- Contracts of slices.Grow and slices.Concat at lists of few numbers; mid.great. -/
import Derived.Test.YtnmhbonheaoldaaRow
import Derived.Deep.LoopGhost
import Derived.Lib.AppendZerosOnto
namespace Go.Proofs.Ytnmhbonheaoldaa
open Go.RowKit

theorem owns_zeros (w : World) (n : Nat) (hn : n ≤ 1000000) :
    (w.drew.alloc (.cells (Builtin.zeroCells (Value.int .i64 0).cells n ++ Builtin.zeroCells (Value.int .i64 0).cells (grownCap w n 0 3 - n)) 3)).ownsRow w.heap.size 3 1 (.slice (some ⟨w.heap.size, 0, none⟩) 0 (grownCap w n 0 3)) 0 [] := by
  have hge := grownCap_ge w n 0 3
  have hcm : grownCap w n 0 3 ≤ maxLen := grownCap_le_maxLen w n 0 3 (by unfold maxLen; omega)
  refine ⟨rfl, .inr ⟨w.heap.size, _, _, rfl, Nat.le_refl _, heap_alloc_new w.drew _, Nat.zero_le _, hcm, ?_, by simp⟩⟩
  have hz : (Value.int .i64 0).cells.size = 1 := rfl
  simp only [Array.size_append, size_zeroCells, hz]
  omega

set_option maxHeartbeats 2000000 in
theorem grow_calls (n : Nat) (w : World) (hn : n ≤ 1000000) :
    Calls Try.prog 63 #[.slice none 0 0, .int .i64 n] w fun e w' => ∃ v, e = .returned v ∧ w'.ownsRow w.heap.size 3 1 v 0 [] ∧ Below w.heap.size w w' := by
  obtain ⟨inf, hinf, hzr, hsz, hby⟩ := info_parts (P := Try.prog) (e := 3) (z := .int .i64 0) (size := 1) (bytes := 8) (by kernel_rfl)
  by_cases h0 : n = 0
  · subst h0
    have HO := Lib.hid (World.ownsRow_nil w w.heap.size 3 1)
    clear hinf hzr hsz hby
    go_enter Try.func63, Try.ntmps63
    go_wp2_with fail
    go_ret
    exact ⟨_, rfl, HO.out, Below.refl _ _⟩
  · have hrz : ∀ ty, (Builtin.append_ #[55, 3] ty #[.slice none 0 0, .int .i64 n]).run Try.prog w = .ok (.slice (some ⟨w.heap.size, 0, none⟩) n (grownCap w n 0 3)) (w.drew.alloc (.cells (Builtin.zeroCells (Value.int .i64 0).cells n ++ Builtin.zeroCells (Value.int .i64 0).cells (grownCap w n 0 3 - n)) 3)) := fun ty =>
      Lib.run_append_nil_zeros w 55 3 ty 3 inf (.int .i64 0) .i64 .i64 Try.underlying55 Try.underlying3 hinf hzr n (by omega) (by omega) (by omega) (by rw [hby]; omega)
    have HO := Lib.hid (owns_zeros w n hn)
    have HB := Lib.hid (((below_draws (Below.refl w.heap.size w) 1)).alloc (Nat.le_refl _) (.cells (Builtin.zeroCells (Value.int .i64 0).cells n ++ Builtin.zeroCells (Value.int .i64 0).cells (grownCap w n 0 3 - n)) 3))
    have hge := grownCap_ge w n 0 3
    have hcm : grownCap w n 0 3 ≤ maxLen := grownCap_le_maxLen w n 0 3 (by unfold maxLen; omega)
    unfold maxLen at hcm
    have HR := Lib.hid hrz
    clear hrz hinf hzr hsz hby
    generalize hG : grownCap w n 0 3 = G at *
    generalize Builtin.zeroCells (Value.int .i64 0).cells n ++ Builtin.zeroCells (Value.int .i64 0).cells (G - n) = cs at *
    clear hG
    have h1 : 0 < (n : Int) := by omega
    go_enter Try.func63, Try.ntmps63
    go_wp2_with (at_builtin; refine Lib.wpList_append_run _ rfl _ _ _ _ rfl _ _ rfl rfl _ _ (HR.out _) ?_)
    go_ret
    exact ⟨_, rfl, HO.out, HB.out⟩

/-- the first k lists, one behind the other -/
def catZ (Z : Nat → List Int) : Nat → List Int
  | 0 => []
  | k + 1 => catZ Z k ++ Z k
theorem catZ_le (Z : Nat → List Int) {k n : Nat} (h : k ≤ n) : (catZ Z k).length ≤ (catZ Z n).length := by
  induction n with
  | zero => obtain rfl : k = 0 := by omega
            exact Nat.le_refl _
  | succ n ih =>
    rcases Nat.lt_or_ge k (n + 1) with h1 | h1
    · have := ih (by omega)
      simp only [catZ, List.length_append]
      omega
    · obtain rfl : k = n + 1 := by omega
      exact Nat.le_refl _
theorem catZ_len (Z : Nat → List Int) (k : Nat) : (catZ Z (k + 1)).length = (catZ Z k).length + (Z k).length := by simp [catZ]

set_option maxHeartbeats 4000000 in
theorem concat_calls (A : Nat → Option Addr) (C : Nat → Nat) (Z : Nat → List Int) (g n c : Nat) (w : World) (hn : n ≤ 100) (hg : g < w.heap.size)
    (hc : ∀ j, j < n → w.cell? ⟨g, j, none⟩ = some (.slice (A j) (Z j).length (C j))) (hz : ∀ j, j < n → Src2 w (.slice (A j) (Z j).length (C j)) (Z j)) (hs : (catZ Z n).length ≤ 1000000) :
    Calls Try.prog 60 #[.slice (some ⟨g, 0, none⟩) n c] w fun e w' => ∃ v, e = .returned v ∧ w'.ownsRow w.heap.size 3 1 v (catZ Z n).length ((catZ Z n).map (Value.int .i64)) ∧ Below w.heap.size w w' := by
  have HC := Lib.hid hc
  have HZ := Lib.hid hz
  have HS := Lib.hid hs
  clear hc hz hs
  go_enter Try.func60, Try.ntmps60
  go_wp2_with fail
  go_loopg [3, 11] n (fun gg s3 s11 wr => ∃ kk : Nat, kk ≤ n ∧ n - kk ≤ gg ∧ s3 = .int .i64 (catZ Z kk).length ∧ s11 = .int .i64 kk ∧ Aside (wr = w))
  case atStart => exact ⟨0, Nat.zero_le _, by omega, rfl, rfl, rfl⟩
  case round =>
    obtain ⟨kk, hkk, hgk, rfl, rfl, E⟩ := hrel
    obtain rfl := E.out.symm
    clear E
    by_cases hlt : kk < n
    · have hltz : (kk : Int) < n := by omega
      have hk0 : 0 ≤ (kk : Int) := by omega
      have cx := HC.out kk hlt
      have hl := catZ_len Z kk
      have hle := catZ_le Z (k := kk + 1) (n := n) (by omega)
      have hs := HS.out
      have e2 : ((catZ Z (kk + 1)).length : Int) = (catZ Z kk).length + (Z kk).length := by omega
      have E2 := Lib.hid e2
      have hb : (catZ Z kk).length + (Z kk).length ≤ 1000000 := by omega
      clear hl hle hs e2
      generalize (catZ Z kk).length = x at *
      generalize (Z kk).length = y at *
      go_wp2_with fail
      go_roundg (n - (kk + 1))
      case measure => omega
      case rel => exact ⟨kk + 1, by omega, by omega, by rw [E2.out], by go_num, rfl⟩
    · obtain rfl : n = kk := by omega
      have hltz : ¬ (n : Int) < n := by omega
      have hs := HS.out
      have HO := Lib.hid (World.ownsRow_nil w w.heap.size 3 1)
      have cg := fun W => grow_calls (catZ Z n).length W hs
      clear hs
      go_wp2_with fail
      refine (cg _).mono ?_
      rintro e w1 ⟨v, rfl, O1, B1⟩
      clear cg HO
      have O1' := Lib.hid O1
      have B1' := Lib.hid B1
      clear O1 B1
      go_wp2_with fail
      go_loopg [6, 27] n (fun gg s6 s27 wr => ∃ kk : Nat, kk ≤ n ∧ n - kk ≤ gg ∧ s27 = .int .i64 kk ∧ Aside (Below w.heap.size w wr) ∧ Aside (wr.ownsRow w.heap.size 3 1 s6 (catZ Z kk).length ((catZ Z kk).map (Value.int .i64))))
      case atStart => exact ⟨0, Nat.zero_le _, by omega, rfl, B1'.out, O1'.out⟩
      case round =>
        clear O1' B1'
        obtain ⟨kk, hkk, hgk, rfl, B, O⟩ := hrel
        by_cases hlt : kk < n
        · have hltz : (kk : Int) < n := by omega
          have hk0 : 0 ≤ (kk : Int) := by omega
          have cx := (B.out.cell (p := ⟨g, kk, none⟩) hg).trans (HC.out kk hlt)
          have HX := Lib.hid (src2_below (HZ.out kk hlt) B.out)
          have hl := catZ_len Z kk
          have hle := catZ_le Z (k := kk + 1) (n := n) (by omega)
          have hs := HS.out
          have hb : (catZ Z kk).length + (Z kk).length ≤ 1000000 := by omega
          have HB := Lib.hid hb
          have hsz := B.out.size
          have HL := Lib.hid hl
          clear hle hs hb hl
          go_wp2_with (first | (at_builtin; refine wpList_append_src2 _ rfl _ _ rfl w.heap.size _ _ _ rfl O.out _ _ rfl HX.out HB.out hsz ?_; intro v' w5 hown' hgrow))
          have hol := O.out.lt
          have B5 := Lib.hid (B.out.grown hgrow hsz (fun k e => (hol k e).1))
          have e3 : catZ Z kk ++ Z kk = catZ Z (kk + 1) := rfl
          rw [e3, ← HL.out] at hown'
          have O5 := Lib.hid hown'
          clear hown' hgrow hol O B HL e3
          go_wp2_with fail
          go_roundg (n - (kk + 1))
          case measure => omega
          case rel => exact ⟨kk + 1, by omega, by omega, by go_num, B5.out, O5.out⟩
        · obtain rfl : n = kk := by omega
          have hltz : ¬ (n : Int) < n := by omega
          go_wp2_with fail
          go_ret
          exact ⟨_, rfl, O.out, B.out⟩
end Go.Proofs.Ytnmhbonheaoldaa
