/- Go's max of three whole numbers, in Lean's words. -/
import Derived.Tactics
import Derived.Test.YtnmhbonheaoldaaMax
namespace Go.Proofs.Ytnmhbonheaoldaa

@[go_sem high] theorem run_max_three {P : Program} (w : World) (ts : Array TypeId) (t : TypeId) (k k1 k2 : IntKind) (x y z : Int) :
    (Builtin.max_ ts t #[.int k x, .int k1 y, .int k2 z]).run P w = .ok (.int k (max (max x y) z)) w := by
  simp [Builtin.max_, Builtin.max2, max_word]
end Go.Proofs.Ytnmhbonheaoldaa
