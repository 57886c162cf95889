/- The document's example of layer 10, by computing; whether two frames are alike. No Go in it but for the last. -/
import Derived.Test.YtlfiaaoegeodnaaDctE
import Derived.ChangeKeysEq
namespace Go.Proofs.Ytlfiaaoegeodnaa

def zeros : List Int := List.replicate 32 0
def frame0 : List Int := zeros.set 5 1000
theorem waves_zero : wavesL zeros = zeros := by decide +kernel
theorem waves_frame : (wavesL frame0 == frame0) = false := by decide +kernel

theorem eqItems_ints {P : Program} {e : TypeId} (he : P.underlying e = some (.int .i64)) (d : Nat) (xs ys : List Int) (w : World) : ∀ is : List Nat, (∀ i ∈ is, i < xs.length ∧ i < ys.length) →
    (Op.eqItems (d + 1) e 1 (ints xs) (ints ys) is).run P w = .ok (is.all fun i => xs.getD i 0 == ys.getD i 0) w
  | [], _ => by simp [Op.eqItems]
  | i :: is, h => by
    have hi := h i (by simp)
    have hx : (ints xs)[i * 1]? = some (.int .i64 (xs.getD i 0)) := by rw [Nat.mul_one, ints_get, List.getElem?_eq_getElem hi.1]; simp [List.getD, List.getElem?_eq_getElem hi.1]
    have hy : (ints ys)[i * 1]? = some (.int .i64 (ys.getD i 0)) := by rw [Nat.mul_one, ints_get, List.getElem?_eq_getElem hi.2]; simp [List.getD, List.getElem?_eq_getElem hi.2]
    have hp : P.plainKey e = true := by simp [Program.plainKey, he]
    have ih := eqItems_ints he d xs ys w is (fun j hj => h j (by simp [hj]))
    simp only [Op.eqItems, Sem.run_bind, run_part_plain w hp hx, run_part_plain w hp hy, Result.andThen_ok, run_equalIn_int w d e .i64 .i64 _ _ he]
    cases hq : (xs.getD i 0 == ys.getD i 0)
    · simp [-List.getD_eq_getElem?_getD, hq]
    · simp [-List.getD_eq_getElem?_getD, hq, ih]
theorem all_range {xs ys : List Int} (h : xs.length = ys.length) : ((List.range xs.length).all fun i => xs.getD i 0 == ys.getD i 0) = decide (xs = ys) := by
  by_cases e : xs = ys
  · subst e; simp
  · rw [decide_eq_false e, Bool.eq_false_iff]
    intro hc
    apply e
    apply getD_ext h
    intro i hi
    have := List.all_eq_true.1 hc i (by simpa using hi)
    simpa [-List.getD_eq_getElem?_getD] using this
theorem equal_ints {P : Program} {t e : TypeId} {n : Nat} {i : TypeInfo} (ht : P.underlying t = some (.array n e)) (he : P.underlying e = some (.int .i64)) (hi : P.info? e = some i) (h1 : P.cellsOf e = 1)
    (d : Nat) {xs ys : List Int} (hx : xs.length = n) (hy : ys.length = n) (w : World) : (Op.equalIn (d + 2) t (.agg (ints xs)) (.agg (ints ys))).run P w = .ok (decide (xs = ys)) w := by
  rw [run_equalIn_array w (d + 1) _ _ ht hi, h1, eqItems_ints he d xs ys w _ (fun i hi => by have := List.mem_range.1 hi; omega)]
  subst hx
  rw [all_range hy.symm]
theorem equal_frames {xs ys : List Int} (hx : xs.length = 32) (hy : ys.length = 32) (w : World) : (Op.equalIn 10000 44 (.agg (ints xs)) (.agg (ints ys))).run Try.prog w = .ok (decide (xs = ys)) w := by
  obtain ⟨i, hi⟩ := info_of_underlying (P := Try.prog) (t := 3) Try.underlying3
  exact equal_ints Try.underlying44 Try.underlying3 hi (by kernel_rfl) 9998 hx hy w
end Go.Proofs.Ytlfiaaoegeodnaa
