/- Contract of mid.great. -/
import Derived.Test.YtnmhbonheaoldaaMidS
namespace Go.Proofs.Ytnmhbonheaoldaa
open Go.RowKit

def beyond (most x : Int) : Bool := decide (x < -most) || decide (most < x)
theorem beyond_lo {most x : Int} (h : x < -most) : beyond most x = true := by simp [beyond, h]
theorem beyond_hi {most x : Int} (h : most < x) : beyond most x = true := by simp [beyond, h]
theorem beyond_in {most x : Int} (h : -most ≤ x) (h2 : x ≤ most) : beyond most x = false := by simp [beyond]; omega

set_option maxHeartbeats 1000000 in
theorem great1_calls (most x : Int) (B : Nat) (w : World) (hb : w.cell? ⟨B, 0, none⟩ = some (.int .i64 most)) (h0 : 0 ≤ most) (h1 : most ≤ 1000000000) :
    Calls Try.prog 61 #[.int .i64 x, .pointer (some ⟨B, 0, none⟩)] w fun e w' => e = .returned (.bool (beyond most x)) ∧ Below w.heap.size w w' := by
  rcases Int.lt_or_le x (-most) with h | h
  · rw [beyond_lo h]
    have hd : decide (x < -most) = true := by simpa using h
    go_enter Try.func61, Try.ntmps61
    go_wp2_with fail
    go_ret
    exact ⟨rfl, Below.refl _ _⟩
  · have hd : decide (x < -most) = false := by simpa using h
    rcases Int.lt_or_le most x with h2 | h2
    · rw [beyond_hi h2]
      have hd2 : decide (most < x) = true := by simpa using h2
      go_enter Try.func61, Try.ntmps61
      go_wp2_with fail
      go_ret
      exact ⟨rfl, Below.refl _ _⟩
    · rw [beyond_in h h2]
      have hd2 : decide (most < x) = false := by simpa using h2
      go_enter Try.func61, Try.ntmps61
      go_wp2_with fail
      go_ret
      exact ⟨rfl, Below.refl _ _⟩

theorem great1_tells (most : Int) (B : Nat) (w : World) (hB : B < w.heap.size) (hb : w.cell? ⟨B, 0, none⟩ = some (.int .i64 most)) (h0 : 0 ≤ most) (h1 : most ≤ 1000000000) : Tells 61 #[.pointer (some ⟨B, 0, none⟩)] (beyond most) w :=
  fun W x hW _ _ => (great1_calls most x B W ((hW.cell (p := ⟨B, 0, none⟩) hB).trans hb) h0 h1).mono fun _ _ h => ⟨h.1, bnext hW h.2⟩

theorem catZ_mem {Z : Nat → List Int} {n : Nat} {z : Int} (h : z ∈ catZ Z n) : ∃ k, k < n ∧ z ∈ Z k := by
  induction n with
  | zero => simp [catZ] at h
  | succ n ih =>
    rcases List.mem_append.1 h with h | h
    · obtain ⟨k, hk, hz⟩ := ih h
      exact ⟨k, by omega, hz⟩
    · exact ⟨n, by omega, h⟩

set_option maxHeartbeats 1000000 in
theorem greatM_calls (most : Int) (A : Nat → Option Addr) (C : Nat → Nat) (Z : Nat → List Int) (g n c : Nat) (w : World) (hm : 0 ≤ most) (hm1 : most ≤ 1000000000) (hn : n ≤ 100) (hg : g < w.heap.size)
    (hc : ∀ j, j < n → w.cell? ⟨g, j, none⟩ = some (.slice (A j) (Z j).length (C j))) (hz : ∀ j, j < n → Src2 w (.slice (A j) (Z j).length (C j)) (Z j)) (hs : (catZ Z n).length ≤ 1000000)
    (hi : ∀ j, j < n → ∀ z ∈ Z j, -9223372036854775808 ≤ z ∧ z ≤ 9223372036854775807) :
    Calls Try.prog 56 #[.int .i64 most, .slice (some ⟨g, 0, none⟩) n c] w fun e w' => e = .returned (.bool ((catZ Z n).any (beyond most))) ∧ Below w.heap.size w w' := by
  have hb := (Below.refl w.heap.size w).alloc (Nat.le_refl _) (.cells #[.int .i64 most] 3)
  have cc := concat_calls A C Z g n c (w.alloc (.cells #[.int .i64 most] 3)) hn (by simp; omega) (fun j hj => (hb.cell (p := ⟨g, j, none⟩) hg).trans (hc j hj)) (fun j hj => src2_below (hz j hj) hb) hs
  have hi' : ∀ z ∈ catZ Z n, -9223372036854775808 ≤ z ∧ z ≤ 9223372036854775807 := fun z hz => by
    obtain ⟨k, hk, hz⟩ := catZ_mem hz
    exact hi k hk z hz
  have HI := Lib.hid hi'
  have HS := Lib.hid hs
  have HB := Lib.hid hb
  have eg : ∀ args w, (callFunc 61 args).run Try.prog w = .ok (.enter 61 args) w := fun args w => enters_at Try.func61 (by kernel_rfl) rfl args w
  have EG := Lib.hid eg
  clear hc hz hs hi hi' hb eg
  go_enter Try.func56, Try.ntmps56
  go_wp2_with fail
  refine cc.mono ?_
  rintro e w1 ⟨v, rfl, O, B1⟩
  obtain ⟨a1, c1, rfl, _, hS, _⟩ := slA_row O
  have hsz : w.heap.size + 1 ≤ w1.heap.size := by have := B1.size; simpa using this
  have hcell : w1.cell? ⟨w.heap.size, 0, none⟩ = some (.int .i64 most) := (B1.cell (p := ⟨w.heap.size, 0, none⟩) (by simp)).trans (by exact (blk_cell (blk_new w 3 #[.int .i64 most]) 0))
  have hT := great1_tells most w.heap.size w1 (by omega) hcell hm hm1
  have hcf := containsf_any 61 #[.pointer (some ⟨w.heap.size, 0, none⟩)] (beyond most) a1 (catZ Z n).length c1 (catZ Z n) w1 rfl (by have := HS.out; omega) hS HI.out EG.out hT
  have B2 := Lib.hid (HB.out.trans (B1.mono (by simp)))
  clear cc O hS hT hcell B1 HB
  go_wp2_with fail
  refine hcf.mono ?_
  rintro e w2 ⟨rfl, B3⟩
  clear hcf
  go_wp2_with fail
  go_ret
  exact ⟨rfl, bnext B2.out B3⟩
end Go.Proofs.Ytnmhbonheaoldaa
