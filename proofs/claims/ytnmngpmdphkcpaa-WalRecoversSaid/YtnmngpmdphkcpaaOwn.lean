/-
  Two facts on the program, for the last proofs.
-/
import Derived.Test.YtnmngpmdphkcpaaGLift
import Derived.Test.YtnmngpmdphkcpaaRows
namespace Go.Proofs.Ytnmngpmdphkcpaa
open Go.G
theorem own : ownKnob Try.prog.godebug = none := by kernel_rfl
theorem laidOut : laidOutB Try.prog = true := by kernel_rfl
end Go.Proofs.Ytnmngpmdphkcpaa
