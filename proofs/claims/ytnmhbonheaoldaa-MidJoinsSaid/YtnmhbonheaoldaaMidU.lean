/- The contract of mid.Split: slices.Chunk, its iterator, the loop over it. -/
import Derived.Test.YtnmhbonheaoldaaMidT
import Derived.Test.YtnmhbonheaoldaaRound
import Derived.Test.YtnmhbonheaoldaaMid
import Derived.Shelf.Abstract
import Derived.Shelf.RegionOpen
import Derived.WalkKit
import Derived.OwnWalkIn
import Derived.TacticsInMore
import Derived.LoopNIn
import Derived.LoopIn
import Derived.Maps.AppendAt
import Derived.Deep.QuietTactic
import Derived.BigQuiet
import Derived.Lib.MinMax
namespace Go.Proofs.Ytnmhbonheaoldaa
open Go.RowKit Go.Shelf
attribute [local go_sem] Oper.semAt_some

set_option maxHeartbeats 1000000 in
theorem chunk_in (F : Fence) (n : Nat) (hf : F.fn 57) (hro : F.round = none) (a : Option Addr) (len cap : Nat) (w : World) :
    CallsIn F n Try.prog 57 #[.slice a len cap, .int .i64 2] w fun e w' => e = .returned (.func (.func 62) #[] #[.pointer (some ⟨w.heap.size, 0, none⟩), .pointer (some ⟨w.heap.size + 1, 0, none⟩)]) ∧ w' = (w.alloc (.cells #[.slice a len cap] 55)).alloc (.cells #[.int .i64 2] 3) := by
  refine callsIn_of_wp Try.func57 rfl hf ?_ hro
  simp only [Try.ntmps57, List.size_toArray, List.length_cons, List.length_nil, Nat.reduceAdd, Nat.reduceSub, Array.replicate_succ, Array.replicate_zero, List.push_toArray, List.append_toArray, List.nil_append, List.cons_append]
  gi_wp2
  go_ret
  exact ⟨rfl, rfl⟩

/-- the first k numbers below m -/
def uptoF (m k : Nat) : List (Fin m) := (List.finRange m).take k
theorem uptoF_all (m : Nat) : uptoF m m = List.finRange m := by unfold uptoF; rw [List.take_of_length_le (by simp)]
theorem uptoF_len {m k : Nat} (h : k ≤ m) : (uptoF m k).length = k := by unfold uptoF; rw [List.length_take, List.length_finRange]; omega
theorem uptoF_succ {m k : Nat} (h : k < m) : uptoF m (k + 1) = uptoF m k ++ [⟨k, h⟩] := by
  unfold uptoF
  rw [List.take_succ_eq_append_getElem (by simpa using h)]
  simp

/-- what the iterator hands out: two numbers at a time -/
def pairAt (g o : Nat) (m : Nat) (x : Fin m) : Array Value := #[.slice (some ⟨g, o + 2 * x.val, none⟩) 2 2]

/-- two blocks lie as they lay -/
def KT (Bs Bn : Nat) (A B : World) : Prop := B.heap[Bs]? = A.heap[Bs]? ∧ B.heap[Bn]? = A.heap[Bn]?
theorem kt_refl (Bs Bn : Nat) (A : World) : KT Bs Bn A A := ⟨rfl, rfl⟩
theorem kt_trans {Bs Bn : Nat} {A B C : World} (h : KT Bs Bn A B) (k : KT Bs Bn B C) : KT Bs Bn A C := ⟨k.1.trans h.1, k.2.trans h.2⟩
theorem kt_draws {Bs Bn : Nat} {A B : World} (h : KT Bs Bn A B) (n : Nat) : KT Bs Bn A (B.drewN n) := h
theorem kt_cell1 {Bs Bn : Nat} {A B : World} (h : KT Bs Bn A B) : B.cell? ⟨Bs, 0, none⟩ = A.cell? ⟨Bs, 0, none⟩ := by simp [World.cell?, h.1]
theorem kt_cell2 {Bs Bn : Nat} {A B : World} (h : KT Bs Bn A B) : B.cell? ⟨Bn, 0, none⟩ = A.cell? ⟨Bn, 0, none⟩ := by simp [World.cell?, h.2]
theorem kt_put {Bs Bn : Nat} {w : World} (h1 : Bs < w.heap.size) (h2 : Bn < w.heap.size) (W : World) (l : Nat) (o o' : Obj) (hl : w.heap.size ≤ l) (_ : W.heap[l]? = some o) (_ : o.isCells = false) (_ : o.isWalk = false) : KT Bs Bn W (W.putObj l o') :=
  ⟨World.putObj_heap_other (by omega), World.putObj_heap_other (by omega)⟩
theorem kt_grown {Bs Bn : Nat} {A B : World} {row : Option Nat} (h : A.grownBy B row) (h1 : Bs < A.heap.size) (h2 : Bn < A.heap.size) (k1 : some Bs ≠ row) (k2 : some Bn ≠ row) : KT Bs Bn A B := ⟨h.block Bs h1 k1, h.block Bn h2 k2⟩

set_option maxRecDepth 100000 in
set_option maxHeartbeats 4000000 in
theorem chunk1_in (n : Nat) (l Bs Bn g o m cap : Nat) (hm : 2 * m ≤ 1000000) (hcap : 2 * m ≤ cap) (hcap2 : cap ≤ 9223372036854775807) (J Jx : List (Fin m) → World → Prop)
    (hJ : ∀ s A j, J s A → J s (A.drewN j))
    (hY : ∀ pre x W, J pre W → pre.length < m → YieldAt Fence.wide (n - 1) Try.prog l (pairAt g o m x) W fun e W' =>
      (e = .returned (.bool true) ∧ J (pre ++ [x]) W' ∧ KT Bs Bn W W') ∨ (e = .returned (.bool false) ∧ Jx (pre ++ [x]) W'))
    (W : World) (hs : W.cell? ⟨Bs, 0, none⟩ = some (.slice (some ⟨g, o, none⟩) (2 * m) cap)) (h2 : W.cell? ⟨Bn, 0, none⟩ = some (.int .i64 2)) (h0 : J [] W) :
    CallsIn Fence.wide n Try.prog 62 #[.func (.yield l) #[] #[], .pointer (some ⟨Bs, 0, none⟩), .pointer (some ⟨Bn, 0, none⟩)] W fun e W' => (∃ v, e = .returned v) ∧
      ((∃ ys, ys = List.finRange m ∧ J ys W') ∨ (∃ pre, True ∧ Jx pre W')) := by
  refine callsIn_of_wp Try.func62 rfl trivial ?_ rfl
  simp only [Try.ntmps62, List.size_toArray, List.length_cons, List.length_nil, Nat.reduceAdd, Nat.reduceSub, Array.replicate_succ, Array.replicate_zero, List.push_toArray, List.append_toArray, List.nil_append, List.cons_append]
  gi_wp2
  gi_loopw [4] (fun i wr => ∃ k : Nat, k ≤ m ∧ i = .int .i64 (2 * (k : Int)) ∧ J (uptoF m k) wr ∧ KT Bs Bn W wr)
    (fun i _ => 2 * m - (intOf i).toNat)
  case atStart => exact ⟨0, Nat.zero_le _, rfl, h0, kt_refl _ _ _⟩
  case round =>
    obtain ⟨k, hk, rfl, hJs, hnx⟩ := hrel
    have cs := (kt_cell1 hnx).trans hs
    have c2 := (kt_cell2 hnx).trans h2
    by_cases hlt : k < m
    · have h1 : 2 * (k : Int) < 2 * (m : Int) := by omega
      have h3 : (0 : Int) ≤ 2 * (k : Int) := by omega
      gi_wp2
      refine wpIn_wide.2 ?_
      go_quiet (fail)
      have h5 : min (2 : Int) ((2 * m - 2 * k : Nat) : Int) = 2 := by omega
      rw [h5]
      have hJ2 := hJ _ _ nq hJs
      have hn2 := kt_draws hnx nq
      have cs2 : (wr.drewN nq).cell? ⟨Bs, 0, none⟩ = some (.slice (some ⟨g, o, none⟩) (2 * m) cap) := (kt_cell1 hn2).trans hs
      have c22 : (wr.drewN nq).cell? ⟨Bn, 0, none⟩ = some (.int .i64 2) := (kt_cell2 hn2).trans h2
      obtain ⟨fn, tmps, assign, body, hy, hR⟩ := hY _ ⟨k, hlt⟩ (wr.drewN nq) hJ2 (by rw [uptoF_len hk]; exact hlt)
      unfold pairAt at hy
      dsimp only at hy
      clear cs c2 hJs hJ2 h5 hnx
      generalize wr.drewN nq = W2 at *
      have h6 : 2 * (k : Int) ≤ 2 * (k : Int) + 2 := by omega
      have h7 : 2 * (k : Int) + 2 ≤ (cap : Int) := by omega
      gi_wp2
      refine ⟨fun h => by simp [Fence.wide] at h, ?_⟩
      refine hR.mono ?_
      rintro e W3 (⟨rfl, hJ3, hk3⟩ | ⟨rfl, hJx3⟩)
      · have hn3 := kt_trans hn2 hk3
        have c23 : W3.cell? ⟨Bn, 0, none⟩ = some (.int .i64 2) := (kt_cell2 hn3).trans h2
        clear hy hR
        gi_wp2
        go_roundw
        case rel => exact ⟨k + 1, by omega, by go_num, by rw [uptoF_succ hlt]; exact hJ3, hn3⟩
        case measure => simp [intOf]; omega
      · clear hy hR
        gi_wp2
        refine bodyPost_ret (results_none rfl _ _ _) rfl ?_
        exact ⟨⟨_, rfl⟩, .inr ⟨_, trivial, hJx3⟩⟩
    · obtain rfl : k = m := by omega
      gi_wp2
      go_end0
      exact ⟨⟨_, rfl⟩, .inl ⟨_, rfl, by rw [← uptoF_all]; exact hJs⟩⟩

set_option maxRecDepth 100000 in
set_option maxHeartbeats 1000000 in
theorem chunk1_nil (n : Nat) (l Bs Bn cap : Nat) (a : Option Addr) (J : List (Fin 0) → World → Prop) (W : World) (hs : W.cell? ⟨Bs, 0, none⟩ = some (.slice a 0 cap)) (h0 : J [] W) :
    CallsIn Fence.wide n Try.prog 62 #[.func (.yield l) #[] #[], .pointer (some ⟨Bs, 0, none⟩), .pointer (some ⟨Bn, 0, none⟩)] W fun e W' => (∃ v, e = .returned v) ∧ J [] W' := by
  refine callsIn_of_wp Try.func62 rfl trivial ?_ rfl
  simp only [Try.ntmps62, List.size_toArray, List.length_cons, List.length_nil, Nat.reduceAdd, Nat.reduceSub, Array.replicate_succ, Array.replicate_zero, List.push_toArray, List.append_toArray, List.nil_append, List.cons_append]
  gi_wp2
  gi_loopw [4] (fun i wr => i = .int .i64 0 ∧ wr = W) (fun _ _ => 0)
  case atStart => exact ⟨rfl, rfl⟩
  case round =>
    obtain ⟨rfl, rfl⟩ := hrel
    gi_wp2
    go_end0
    exact ⟨⟨_, rfl⟩, h0⟩

/-- where the slice's numbers lie does not matter where there are none -/
theorem chunk_stops (n : Nat) (Bs Bn g o m cap : Nat) (a : Option Addr) (ha : 0 < m → a = some ⟨g, o, none⟩) (hm : 2 * m ≤ 1000000) (hcap : 2 * m ≤ cap) (hcap2 : cap ≤ 9223372036854775807) (w : World) (hBs : Bs < w.heap.size) (hBn : Bn < w.heap.size)
    (hs : w.cell? ⟨Bs, 0, none⟩ = some (.slice a (2 * m) cap)) (h2 : w.cell? ⟨Bn, 0, none⟩ = some (.int .i64 2)) :
    SeqStopsK Fence.wide n Try.prog 62 #[.pointer (some ⟨Bs, 0, none⟩), .pointer (some ⟨Bn, 0, none⟩)] (pairAt g o m) (KT Bs Bn) (fun ys => ys = List.finRange m) (fun _ => True) m w := fun l J Jx W hW hJ _ hY h0 => by
  have hs' := (hW.cell (p := ⟨Bs, 0, none⟩) hBs).trans hs
  have h2' := (hW.cell (p := ⟨Bn, 0, none⟩) hBn).trans h2
  rcases Nat.eq_zero_or_pos m with rfl | hp
  · exact (chunk1_nil n l Bs Bn cap a J W hs' h0).mono fun e W' ⟨he, hj⟩ => ⟨he, .inl ⟨_, rfl, hj⟩⟩
  · rw [ha hp] at hs'
    exact chunk1_in n l Bs Bn g o m cap hm hcap hcap2 J Jx (fun s A j hs => hJ s A (A.drewN j) none hs ⟨rfl, rfl, rfl, Nat.le_refl _, fun _ _ _ => rfl⟩ (fun r e => by cases e)) hY W hs' h2' h0
end Go.Proofs.Ytnmhbonheaoldaa
