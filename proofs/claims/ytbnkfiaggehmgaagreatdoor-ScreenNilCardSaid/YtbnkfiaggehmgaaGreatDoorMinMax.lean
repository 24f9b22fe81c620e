/- min and max by name: a walk does not part at them. -/
import Derived.WalkKit
import Derived.Laws.Small
namespace Go
set_option linter.unusedSimpArgs false
set_option linter.unusedVariables false
def minZ (x y : Int) : Int := min x y
def maxZ (x y : Int) : Int := max x y
section
variable {P : Program} {w : World}
theorem run_min_z (ts : Array TypeId) (t : TypeId) (k k' : IntKind) (x y : Int) : (Builtin.min_ ts t #[.int k x, .int k' y]).run P w = .ok (.int k (minZ x y)) w := by
  rw [run_min_int2]
  unfold minZ
  congr 2
  split <;> omega
theorem run_max_z (ts : Array TypeId) (t : TypeId) (k k' : IntKind) (x y : Int) : (Builtin.max_ ts t #[.int k x, .int k' y]).run P w = .ok (.int k (maxZ x y)) w := by
  rw [run_max_int2]
  unfold maxZ
  congr 2
  split <;> omega
end
end Go
