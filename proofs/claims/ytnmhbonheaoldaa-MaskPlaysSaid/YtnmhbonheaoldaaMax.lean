/- Go's max of four whole numbers, in Lean's words. -/
import Derived.Tactics
import Derived.Lib.MinMax
namespace Go.Proofs.Ytnmhbonheaoldaa

theorem max_word (x y : Int) : (if y > x then y else x) = max x y := by
  rw [Int.max_def]
  split <;> split <;> omega

@[go_sem] theorem run_max_four {P : Program} (w : World) (ts : Array TypeId) (t : TypeId) (k k1 k2 k3 : IntKind) (x y z u : Int) :
    (Builtin.max_ ts t #[.int k x, .int k1 y, .int k2 z, .int k3 u]).run P w = .ok (.int k (max (max (max x y) z) u)) w := by
  simp [Builtin.max_, Builtin.max2, max_word]
end Go.Proofs.Ytnmhbonheaoldaa
