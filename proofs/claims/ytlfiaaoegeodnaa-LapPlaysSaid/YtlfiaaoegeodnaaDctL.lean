/- The helpers of layer 10's statements: a frame held small, the example, the squares. -/
import Derived.Test.YtlfiaaoegeodnaaDctX
import Derived.Test.YtlfiaaoegeodnaaDctY
import Derived.Test.YtlfiaaoegeodnaaDctG
import Derived.Deep.RegionHeld3
import Derived.Deep.DrawnRows
namespace Go.Proofs.Ytlfiaaoegeodnaa
open Go.RowKit

/-- the first n numbers, held small -/
def modTo (zs : List Int) : Nat → List Int
  | 0 => List.replicate 32 0
  | n + 1 => (modTo zs n).set n ((zs.getD n 0).tmod 16777217)
theorem modTo_len (zs : List Int) (n : Nat) : (modTo zs n).length = 32 := by
  induction n with
  | zero => rfl
  | succ n ih => simp [modTo, ih]
theorem modTo_in (zs : List Int) : ∀ n, AllIn 16777216 (modTo zs n)
  | 0 => by intro z hz; have : z = 0 := by simpa [modTo] using hz
            omega
  | n + 1 => by
    have h := tmod_bd (zs.getD n 0) (m := 16777216) (by omega)
    simp only [Int.reduceAdd] at h
    exact allIn_set (modTo_in zs n) _ h.1 h.2
def modL (zs : List Int) : List Int := modTo zs 32
theorem modL_len (zs : List Int) : (modL zs).length = 32 := modTo_len zs 32
theorem modL_in (zs : List Int) : AllIn 16777216 (modL zs) := modTo_in zs 32
theorem allIn_i64 {c : Int} {zs : List Int} (h : AllIn c zs) (hc : c ≤ 9223372036854775807 := by omega) : ∀ z ∈ zs, -9223372036854775808 ≤ z ∧ z ≤ 9223372036854775807 := fun z hz => by have := h z hz; omega

/-- a block that is known whole is read -/
theorem load_frame {g : Nat} {zs : List Int} (hl : zs.length = 32) (W : World) (h : Blk W g 44 (ints zs)) : (Instr.loadAt 44 (.pointer (some ⟨g, 0, none⟩))).run Try.prog W = .ok (.agg (ints zs)) W := by
  have e := run_loadAt_mid (P := Try.prog) W g 0 44 (ints zs).toList _ (fun j v hv => by rw [Nat.zero_add, blk_cell h]; simpa using hv) Try.underlying44 rfl (by simp only [Array.length_toList, ints_size, hl]; kernel_rfl)
  simpa using e

/-- numbers small enough, by the squares' sum -/
theorem in_of_T {zs : List Int} (hl : zs.length = 32) {c : Int} (hc : 0 ≤ c) (h : T zs < (c + 1) * (c + 1)) : AllIn c zs := by
  intro z hz
  obtain ⟨i, hi, rfl⟩ := List.mem_iff_getElem.1 hz
  have h1 := sq_le hl (p := i) (by omega)
  have e : sq zs i = zs[i] * zs[i] := by unfold sq; rw [List.getD_eq_getElem?_getD, List.getElem?_eq_getElem hi]; rfl
  rw [e] at h1
  generalize zs[i] = z at *
  constructor
  · apply Classical.byContradiction
    intro hn
    have h5 : (c + 1) * (c + 1) ≤ (-z) * (-z) := Int.mul_le_mul (by omega) (by omega) (by omega) (by omega)
    rw [Int.neg_mul_neg] at h5
    omega
  · apply Classical.byContradiction
    intro hn
    have h5 : (c + 1) * (c + 1) ≤ z * z := Int.mul_le_mul (by omega) (by omega) (by omega) (by omega)
    omega
theorem T_le {zs : List Int} {c : Int} (h : AllIn c zs) (hc : 0 ≤ c) : T zs ≤ 32 * (c * c) := by
  refine sumN_le_const (fun i => ?_) 32
  have hz := allIn_get h i
  unfold sq
  generalize zs.getD i 0 = z at *
  rcases Int.le_total 0 z with h0 | h0
  · exact Int.mul_le_mul hz.2 hz.2 h0 hc
  · have := Int.mul_le_mul (a := -z) (b := -z) (c := c) (d := c) (by omega) (by omega) (by omega) hc
    rwa [Int.neg_mul_neg] at this
theorem waves_in {zs : List Int} (hl : zs.length = 32) (h : AllIn 16777216 zs) : AllIn 1073741824 (wavesL zs) ∧ AllIn 1073741824 (dbackL zs) := by
  have h1 := T_le h (by omega)
  have h2 := waves_small hl
  exact ⟨in_of_T ((wavesL_len zs).trans hl) (by omega) (by omega), in_of_T ((dbackL_len zs).trans hl) (by omega) (by omega)⟩

theorem waves_of {zs : List Int} (hl : zs.length = 32) (h : AllIn 1073741824 zs) (w : World) : Calls Try.prog 48 #[.agg (ints zs)] w fun e w' => e = .returned (.agg (ints (wavesL zs))) ∧ Below w.heap.size w w' :=
  waves_calls zs w hl (allIn_i64 h) (held_in.2 h) (waves_fit h)
theorem dback_of {zs : List Int} (hl : zs.length = 32) (h : AllIn 1073741824 zs) (w : World) : Calls Try.prog 47 #[.agg (ints zs)] w fun e w' => e = .returned (.agg (ints (dbackL zs))) ∧ Below w.heap.size w w' :=
  dback_calls zs w hl (allIn_i64 h) (held_in.2 h) (back_fit h)

set_option maxHeartbeats 4000000 in
theorem lawheld_calls (zs : List Int) (w : World) (hl : zs.length = 32) (hi : ∀ z ∈ zs, -9223372036854775808 ≤ z ∧ z ≤ 9223372036854775807) :
    Calls Try.prog 45 #[.agg (ints zs)] w fun e w' => e = .returned (.agg (ints (modL zs))) ∧ Below w.heap.size w w' := by
  have hz : (#[Value.int .i64 0, Value.int .i64 0, Value.int .i64 0, Value.int .i64 0, Value.int .i64 0, Value.int .i64 0, Value.int .i64 0, Value.int .i64 0, Value.int .i64 0, Value.int .i64 0, Value.int .i64 0, Value.int .i64 0, Value.int .i64 0, Value.int .i64 0, Value.int .i64 0, Value.int .i64 0, Value.int .i64 0, Value.int .i64 0, Value.int .i64 0, Value.int .i64 0, Value.int .i64 0, Value.int .i64 0, Value.int .i64 0, Value.int .i64 0, Value.int .i64 0, Value.int .i64 0, Value.int .i64 0, Value.int .i64 0, Value.int .i64 0, Value.int .i64 0, Value.int .i64 0, Value.int .i64 0]) = ints (List.replicate 32 0) := by kernel_rfl
  have b0 := blk_alloc (blk_alloc (blk_new w 43 (ints zs)) (.cells (#[Value.int .i64 0, Value.int .i64 0, Value.int .i64 0, Value.int .i64 0, Value.int .i64 0, Value.int .i64 0, Value.int .i64 0, Value.int .i64 0, Value.int .i64 0, Value.int .i64 0, Value.int .i64 0, Value.int .i64 0, Value.int .i64 0, Value.int .i64 0, Value.int .i64 0, Value.int .i64 0, Value.int .i64 0, Value.int .i64 0, Value.int .i64 0, Value.int .i64 0, Value.int .i64 0, Value.int .i64 0, Value.int .i64 0, Value.int .i64 0, Value.int .i64 0, Value.int .i64 0, Value.int .i64 0, Value.int .i64 0, Value.int .i64 0, Value.int .i64 0, Value.int .i64 0, Value.int .i64 0]) 44)) (.cells (#[Value.int .i64 0, Value.int .i64 0, Value.int .i64 0, Value.int .i64 0, Value.int .i64 0, Value.int .i64 0, Value.int .i64 0, Value.int .i64 0, Value.int .i64 0, Value.int .i64 0, Value.int .i64 0, Value.int .i64 0, Value.int .i64 0, Value.int .i64 0, Value.int .i64 0, Value.int .i64 0, Value.int .i64 0, Value.int .i64 0, Value.int .i64 0, Value.int .i64 0, Value.int .i64 0, Value.int .i64 0, Value.int .i64 0, Value.int .i64 0, Value.int .i64 0, Value.int .i64 0, Value.int .i64 0, Value.int .i64 0, Value.int .i64 0, Value.int .i64 0, Value.int .i64 0, Value.int .i64 0]) 44)
  have b1 : Blk (((w.alloc (.cells (ints zs) 43)).alloc (.cells (#[Value.int .i64 0, Value.int .i64 0, Value.int .i64 0, Value.int .i64 0, Value.int .i64 0, Value.int .i64 0, Value.int .i64 0, Value.int .i64 0, Value.int .i64 0, Value.int .i64 0, Value.int .i64 0, Value.int .i64 0, Value.int .i64 0, Value.int .i64 0, Value.int .i64 0, Value.int .i64 0, Value.int .i64 0, Value.int .i64 0, Value.int .i64 0, Value.int .i64 0, Value.int .i64 0, Value.int .i64 0, Value.int .i64 0, Value.int .i64 0, Value.int .i64 0, Value.int .i64 0, Value.int .i64 0, Value.int .i64 0, Value.int .i64 0, Value.int .i64 0, Value.int .i64 0, Value.int .i64 0]) 44)).alloc (.cells (#[Value.int .i64 0, Value.int .i64 0, Value.int .i64 0, Value.int .i64 0, Value.int .i64 0, Value.int .i64 0, Value.int .i64 0, Value.int .i64 0, Value.int .i64 0, Value.int .i64 0, Value.int .i64 0, Value.int .i64 0, Value.int .i64 0, Value.int .i64 0, Value.int .i64 0, Value.int .i64 0, Value.int .i64 0, Value.int .i64 0, Value.int .i64 0, Value.int .i64 0, Value.int .i64 0, Value.int .i64 0, Value.int .i64 0, Value.int .i64 0, Value.int .i64 0, Value.int .i64 0, Value.int .i64 0, Value.int .i64 0, Value.int .i64 0, Value.int .i64 0, Value.int .i64 0, Value.int .i64 0]) 44)) (w.heap.size + 1) 44 (ints (List.replicate 32 0)) := by
    have h := blk_alloc (blk_new (w.alloc (.cells (ints zs) 43)) 44 (#[Value.int .i64 0, Value.int .i64 0, Value.int .i64 0, Value.int .i64 0, Value.int .i64 0, Value.int .i64 0, Value.int .i64 0, Value.int .i64 0, Value.int .i64 0, Value.int .i64 0, Value.int .i64 0, Value.int .i64 0, Value.int .i64 0, Value.int .i64 0, Value.int .i64 0, Value.int .i64 0, Value.int .i64 0, Value.int .i64 0, Value.int .i64 0, Value.int .i64 0, Value.int .i64 0, Value.int .i64 0, Value.int .i64 0, Value.int .i64 0, Value.int .i64 0, Value.int .i64 0, Value.int .i64 0, Value.int .i64 0, Value.int .i64 0, Value.int .i64 0, Value.int .i64 0, Value.int .i64 0])) (.cells (#[Value.int .i64 0, Value.int .i64 0, Value.int .i64 0, Value.int .i64 0, Value.int .i64 0, Value.int .i64 0, Value.int .i64 0, Value.int .i64 0, Value.int .i64 0, Value.int .i64 0, Value.int .i64 0, Value.int .i64 0, Value.int .i64 0, Value.int .i64 0, Value.int .i64 0, Value.int .i64 0, Value.int .i64 0, Value.int .i64 0, Value.int .i64 0, Value.int .i64 0, Value.int .i64 0, Value.int .i64 0, Value.int .i64 0, Value.int .i64 0, Value.int .i64 0, Value.int .i64 0, Value.int .i64 0, Value.int .i64 0, Value.int .i64 0, Value.int .i64 0, Value.int .i64 0, Value.int .i64 0]) 44)
    rw [hz] at h ⊢
    simpa using h
  have b2 : Blk (((w.alloc (.cells (ints zs) 43)).alloc (.cells (#[Value.int .i64 0, Value.int .i64 0, Value.int .i64 0, Value.int .i64 0, Value.int .i64 0, Value.int .i64 0, Value.int .i64 0, Value.int .i64 0, Value.int .i64 0, Value.int .i64 0, Value.int .i64 0, Value.int .i64 0, Value.int .i64 0, Value.int .i64 0, Value.int .i64 0, Value.int .i64 0, Value.int .i64 0, Value.int .i64 0, Value.int .i64 0, Value.int .i64 0, Value.int .i64 0, Value.int .i64 0, Value.int .i64 0, Value.int .i64 0, Value.int .i64 0, Value.int .i64 0, Value.int .i64 0, Value.int .i64 0, Value.int .i64 0, Value.int .i64 0, Value.int .i64 0, Value.int .i64 0]) 44)).alloc (.cells (#[Value.int .i64 0, Value.int .i64 0, Value.int .i64 0, Value.int .i64 0, Value.int .i64 0, Value.int .i64 0, Value.int .i64 0, Value.int .i64 0, Value.int .i64 0, Value.int .i64 0, Value.int .i64 0, Value.int .i64 0, Value.int .i64 0, Value.int .i64 0, Value.int .i64 0, Value.int .i64 0, Value.int .i64 0, Value.int .i64 0, Value.int .i64 0, Value.int .i64 0, Value.int .i64 0, Value.int .i64 0, Value.int .i64 0, Value.int .i64 0, Value.int .i64 0, Value.int .i64 0, Value.int .i64 0, Value.int .i64 0, Value.int .i64 0, Value.int .i64 0, Value.int .i64 0, Value.int .i64 0]) 44)) (w.heap.size + 2) 44 (ints (List.replicate 32 0)) := by
    have h := blk_new ((w.alloc (.cells (ints zs) 43)).alloc (.cells (#[Value.int .i64 0, Value.int .i64 0, Value.int .i64 0, Value.int .i64 0, Value.int .i64 0, Value.int .i64 0, Value.int .i64 0, Value.int .i64 0, Value.int .i64 0, Value.int .i64 0, Value.int .i64 0, Value.int .i64 0, Value.int .i64 0, Value.int .i64 0, Value.int .i64 0, Value.int .i64 0, Value.int .i64 0, Value.int .i64 0, Value.int .i64 0, Value.int .i64 0, Value.int .i64 0, Value.int .i64 0, Value.int .i64 0, Value.int .i64 0, Value.int .i64 0, Value.int .i64 0, Value.int .i64 0, Value.int .i64 0, Value.int .i64 0, Value.int .i64 0, Value.int .i64 0, Value.int .i64 0]) 44)) 44 (#[Value.int .i64 0, Value.int .i64 0, Value.int .i64 0, Value.int .i64 0, Value.int .i64 0, Value.int .i64 0, Value.int .i64 0, Value.int .i64 0, Value.int .i64 0, Value.int .i64 0, Value.int .i64 0, Value.int .i64 0, Value.int .i64 0, Value.int .i64 0, Value.int .i64 0, Value.int .i64 0, Value.int .i64 0, Value.int .i64 0, Value.int .i64 0, Value.int .i64 0, Value.int .i64 0, Value.int .i64 0, Value.int .i64 0, Value.int .i64 0, Value.int .i64 0, Value.int .i64 0, Value.int .i64 0, Value.int .i64 0, Value.int .i64 0, Value.int .i64 0, Value.int .i64 0, Value.int .i64 0])
    rw [hz] at h ⊢
    simpa using h
  have hA : Below w.heap.size w (((w.alloc (.cells (ints zs) 43)).alloc (.cells (#[Value.int .i64 0, Value.int .i64 0, Value.int .i64 0, Value.int .i64 0, Value.int .i64 0, Value.int .i64 0, Value.int .i64 0, Value.int .i64 0, Value.int .i64 0, Value.int .i64 0, Value.int .i64 0, Value.int .i64 0, Value.int .i64 0, Value.int .i64 0, Value.int .i64 0, Value.int .i64 0, Value.int .i64 0, Value.int .i64 0, Value.int .i64 0, Value.int .i64 0, Value.int .i64 0, Value.int .i64 0, Value.int .i64 0, Value.int .i64 0, Value.int .i64 0, Value.int .i64 0, Value.int .i64 0, Value.int .i64 0, Value.int .i64 0, Value.int .i64 0, Value.int .i64 0, Value.int .i64 0]) 44)).alloc (.cells (#[Value.int .i64 0, Value.int .i64 0, Value.int .i64 0, Value.int .i64 0, Value.int .i64 0, Value.int .i64 0, Value.int .i64 0, Value.int .i64 0, Value.int .i64 0, Value.int .i64 0, Value.int .i64 0, Value.int .i64 0, Value.int .i64 0, Value.int .i64 0, Value.int .i64 0, Value.int .i64 0, Value.int .i64 0, Value.int .i64 0, Value.int .i64 0, Value.int .i64 0, Value.int .i64 0, Value.int .i64 0, Value.int .i64 0, Value.int .i64 0, Value.int .i64 0, Value.int .i64 0, Value.int .i64 0, Value.int .i64 0, Value.int .i64 0, Value.int .i64 0, Value.int .i64 0, Value.int .i64 0]) 44)) := (((Below.refl _ w).alloc (Nat.le_refl _) _).alloc (by simp) _).alloc (by simp; omega) _
  have K0 := Lib.hid b0
  have K1 := Lib.hid b1
  have K2 := Lib.hid b2
  have KA := Lib.hid hA
  have HI := Lib.hid hi
  clear hz b0 b1 b2 hA hi
  unfold modL
  go_enter Try.func45, Try.ntmps45
  go_wp2_with fail
  go_loopg [4] 32 (fun gg a wr => ∃ n : Nat, n ≤ 32 ∧ 32 - n ≤ gg ∧ a = .int .i64 n ∧ Aside (Blk wr w.heap.size 43 (ints zs)) ∧ Aside (Blk wr (w.heap.size + 1) 44 (ints (List.replicate 32 0))) ∧ Aside (Blk wr (w.heap.size + 2) 44 (ints (modTo zs n))) ∧ Aside (Below w.heap.size w wr))
  case atStart => exact ⟨0, by omega, by omega, rfl, K0.out, K1.out, K2.out, KA.out⟩
  case round =>
    obtain ⟨n, hn, hgg, rfl, R0, R1, R2, RB⟩ := hrel
    clear K0 K1 K2 KA
    by_cases hlt : n < 32
    · have a0 := blk_int R0.out (i := n) (by omega)
      have hlm := modTo_len zs n
      have p0 := blk_int R2.out (i := n) (by omega)
      have q0 := blk_free R2.out n
      have hx := HI.out (zs.getD n 0) (by rw [List.getD_eq_getElem?_getD, List.getElem?_eq_getElem (by omega)]; exact List.getElem_mem (by omega))
      have ht := tmod_bd (zs.getD n 0) (m := 16777216) (by omega)
      simp only [Int.reduceAdd] at ht
      have hset := blk_set_int R2.out n ((zs.getD n 0).tmod 16777217)
      have HS := Lib.hid hset
      clear hset
      generalize hX : zs.getD n 0 = x at *
      have X := Lib.hid hX
      clear hX
      go_wp2_with fail
      go_roundg (32 - (n + 1))
      case measure => omega
      case rel =>
        refine ⟨n + 1, by omega, by omega, by go_num, blk_far R0.out (by omega) _, blk_far R1.out (by omega) _, ?_, RB.out.setCell (p := ⟨w.heap.size + 2, _, none⟩) (by simp) _⟩
        rw [modTo, X.out]
        have h := HS.out
        exact h
    · obtain rfl : n = 32 := by omega
      have hs := RB.out.size
      have r2 := R2.out
      have r1 := R1.out
      have hlm := modTo_len zs 32
      clear hlt hn hgg R0 R1
      go_wp2_with (first | (refine wpList_load_row rfl 44 _ rfl (w.heap.size + 2) rfl 44 (ints (modTo zs 32)) (0, 0) _ r2 Try.underlying44 rfl (by rw [ints_size, hlm]; kernel_rfl) ?_) | (refine wpList_store_blk rfl 44 _ _ rfl (w.heap.size + 1) 44 _ (ints (modTo zs 32)) rfl rfl r1 (by rw [ints_size, ints_size, hlm]; simp) (by rw [ints_size, hlm]; kernel_rfl) (ints_one _) ?_; intro w2 n0 hg))
      exact bodyPost_ret (results_cell_row rfl _ _ (w.heap.size + 1) 44 (ints (modTo zs 32)) (0, 0) _ rfl n0 Try.underlying44 rfl (by rw [ints_size, hlm]; kernel_rfl)) rfl ⟨rfl, below_grown RB.out hg hs (by omega)⟩

end Go.Proofs.Ytlfiaaoegeodnaa
