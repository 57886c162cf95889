/- Contracts of dct: bits read backward, the edges' angles, steps and stages. -/
import Derived.Test.YtlfiaaoegeodnaaWheelC
import Derived.Test.YtlfiaaoegeodnaaWheelB
import Derived.Deep.LoopGhost
namespace Go.Proofs.Ytlfiaaoegeodnaa
open Go.RowKit

/-- four bits read backward -/
def flipN (k : Nat) : Nat := k % 2 * 8 + k / 2 % 2 * 4 + k / 4 % 2 * 2 + k / 8 % 2
theorem flip_lt (k : Nat) : flipN k < 16 := by unfold flipN; omega
theorem flip_flip_all : ∀ k : Fin 16, flipN (flipN k.val) = k.val := by decide +kernel
theorem flip_flip {k : Nat} (h : k < 16) : flipN (flipN k) = k := flip_flip_all ⟨k, h⟩
def edgeN (n : Nat) : Int := -(8 * n + 2)

theorem flip_calls (k : Nat) (w : World) (h : k < 16) : Calls Try.prog 51 #[.int .i64 k] w fun e w' => e = .returned (.int .i64 (flipN k)) ∧ w = w' := by
  have hk : k = 0 ∨ k = 1 ∨ k = 2 ∨ k = 3 ∨ k = 4 ∨ k = 5 ∨ k = 6 ∨ k = 7 ∨ k = 8 ∨ k = 9 ∨ k = 10 ∨ k = 11 ∨ k = 12 ∨ k = 13 ∨ k = 14 ∨ k = 15 := by omega
  rcases hk with rfl | rfl | rfl | rfl | rfl | rfl | rfl | rfl | rfl | rfl | rfl | rfl | rfl | rfl | rfl | rfl <;>
    (go_enter Try.func51, Try.ntmps51; go_wp2; go_ret; exact ⟨rfl, rfl⟩)

theorem edge_calls (n : Nat) (w : World) (h : n < 16) : Calls Try.prog 71 #[.int .i64 n] w fun e w' => e = .returned (.int .i64 (edgeN n)) ∧ w = w' := by
  unfold edgeN
  go_enter Try.func71, Try.ntmps71
  go_wp2
  go_ret
  exact ⟨rfl, rfl⟩

def wAhead (i j : Nat) (k : Int) (zs : List Int) : List Int := wTurn j k (wCross i j zs)
def wBehind (i j : Nat) (k : Int) (zs : List Int) : List Int := wUncross i j (wBack j k zs)

theorem wCross_in {i j : Nat} {c : Int} {zs : List Int} (h : AllIn c zs) (hc : 0 ≤ c) : AllIn (2 * c + c / 2 + 8) (wCross i j zs) := by
  exact allIn_mono (wCross1_in (p := i * 2 + 1) (q := j * 2 + 1) (wCross1_in (p := i * 2) (q := j * 2) h hc) (by omega)) (by omega)
theorem wUncross_in {i j : Nat} {c : Int} {zs : List Int} (h : AllIn c zs) (hc : 0 ≤ c) : AllIn (2 * c + c / 2 + 8) (wUncross i j zs) := by
  exact allIn_mono (wUncross1_in (p := i * 2 + 1) (q := j * 2 + 1) (wUncross1_in (p := i * 2) (q := j * 2) h hc) (by omega)) (by omega)
theorem wBack_in {i : Nat} {k c : Int} {zs : List Int} (h : AllIn c zs) (hc : 0 ≤ c) : AllIn (c + c / 2 + 2) (wBack i k zs) := by
  have h1 := allIn_get h (i * 2)
  have h2 := allIn_get h (i * 2 + 1)
  have h3 := backL_in (a := zs.getD (i * 2) 0) (b := zs.getD (i * 2 + 1) 0) (k := k) hc h1.1 h1.2 h2.1 h2.2
  exact allIn_set (allIn_set (allIn_mono h (by omega)) _ h3.1 h3.2.1) _ h3.2.2.1 h3.2.2.2
theorem wTurn_in {i : Nat} {k c : Int} {zs : List Int} (h : AllIn c zs) (hc : 0 ≤ c) : AllIn (c + c / 2 + 2) (wTurn i k zs) := by
  have h1 := allIn_get h (i * 2)
  have h2 := allIn_get h (i * 2 + 1)
  have h3 := turnL_in (a := zs.getD (i * 2) 0) (b := zs.getD (i * 2 + 1) 0) (k := k) hc h1.1 h1.2 h2.1 h2.2
  exact allIn_set (allIn_set (allIn_mono h (by omega)) _ h3.1 h3.2.1) _ h3.2.2.1 h3.2.2.2
theorem wTurn_len (i : Nat) (k : Int) (zs : List Int) : (wTurn i k zs).length = zs.length := by simp [wTurn]
theorem wBack_len (i : Nat) (k : Int) (zs : List Int) : (wBack i k zs).length = zs.length := by simp [wBack]
theorem wCross_len (i j : Nat) (zs : List Int) : (wCross i j zs).length = zs.length := by simp [wCross, wCross1]
theorem wUncross_len (i j : Nat) (zs : List Int) : (wUncross i j zs).length = zs.length := by simp [wUncross, wUncross1]
theorem wAhead_len (i j : Nat) (k : Int) (zs : List Int) : (wAhead i j k zs).length = zs.length := by simp [wAhead, wTurn_len, wCross_len]
theorem wBehind_len (i j : Nat) (k : Int) (zs : List Int) : (wBehind i j k zs).length = zs.length := by simp [wBehind, wBack_len, wUncross_len]

/-- so small that a step may be done -/
def Fit (zs : List Int) : Prop := AllIn 274877906944 zs

theorem ahead_calls (g i j : Nat) (k : Int) (zs : List Int) (w : World) (hb : Blk w g 75 (ints zs)) (hl : zs.length = 32) (hf : Fit zs) (hi : i < 16) (hj : j < 16) (hij : i ≠ j) (h0 : -9223372036854775808 ≤ k) (h1 : k ≤ 9223372036854775807) :
    Calls Try.prog 75 #[.pointer (some ⟨g, 0, none⟩), .int .i64 i, .int .i64 j, .int .i64 k] w (BlkTo 75 w g (wAhead i j k zs)) := by
  have c1 := wcross_calls g i j zs w hb hl hi hj hij (allIn_mono hf (by omega))
  have hf2 : AllIn 1099511627776 (wCross i j zs) := allIn_mono (wCross_in hf (by omega)) (by omega)
  have hl2 := (wCross_len i j zs).trans hl
  unfold wAhead
  generalize wCross i j zs = zs1 at *
  clear hb hl hf
  go_enter Try.func75, Try.ntmps75
  go_wp2_with (go_at_call 85; refine c1.mono ?_; rintro e w1 ⟨rfl, b1, g1⟩)
  refine (wturn_calls g j k zs1 _ b1 hl2 hj hf2 h0 h1).mono ?_
  rintro e w2 ⟨rfl, b2, g2⟩
  go_wp2_with fail
  go_end0
  exact ⟨rfl, b2, grown_trans g1 g2⟩

theorem behind_calls (g i j : Nat) (k : Int) (zs : List Int) (w : World) (hb : Blk w g 75 (ints zs)) (hl : zs.length = 32) (hf : Fit zs) (hi : i < 16) (hj : j < 16) (hij : i ≠ j) (h0 : -9223372036854775808 ≤ k) (h1 : k ≤ 9223372036854775807) :
    Calls Try.prog 73 #[.pointer (some ⟨g, 0, none⟩), .int .i64 i, .int .i64 j, .int .i64 k] w (BlkTo 75 w g (wBehind i j k zs)) := by
  have c1 := wback_calls g j k zs w hb hl hj (allIn_mono hf (by omega)) h0 h1
  have hf2 : AllIn 549755813888 (wBack j k zs) := allIn_mono (wBack_in hf (by omega)) (by omega)
  have hl2 := (wBack_len j k zs).trans hl
  unfold wBehind
  generalize wBack j k zs = zs1 at *
  clear hb hl hf
  go_enter Try.func73, Try.ntmps73
  go_wp2_with (go_at_call 70; refine c1.mono ?_; rintro e w1 ⟨rfl, b1, g1⟩)
  refine (wuncross_calls g i j zs1 _ b1 hl2 hi hj hij hf2).mono ?_
  rintro e w2 ⟨rfl, b2, g2⟩
  go_wp2_with fail
  go_end0
  exact ⟨rfl, b2, grown_trans g1 g2⟩

/-- the first m steps from point p on, of a stage of size s -/
def stageIn (F : Nat → Nat → Int → List Int → List Int) (s p : Nat) : Nat → List Int → List Int
  | 0, zs => zs
  | m + 1, zs => F (p + m) (p + m + s / 2) (-((m : Int) * 512 / s)) (stageIn F s p m zs)
/-- the first t blocks of a stage of size s -/
def stageTo (F : Nat → Nat → Int → List Int → List Int) (s : Nat) : Nat → List Int → List Int
  | 0, zs => zs
  | t + 1, zs => stageIn F s (t * s) (s / 2) (stageTo F s t zs)

end Go.Proofs.Ytlfiaaoegeodnaa
