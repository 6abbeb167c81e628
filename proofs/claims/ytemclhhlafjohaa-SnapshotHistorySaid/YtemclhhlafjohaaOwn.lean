/-
  Two facts on the program, for the last proofs.
-/
import Derived.Test.YtemclhhlafjohaaGLift
import Derived.Test.YtemclhhlafjohaaRows
namespace Go.Proofs.Ytemclhhlafjohaa
open Go.G
theorem own : ownKnob Try.prog.godebug = none := by kernel_rfl
theorem laidOut : laidOutB Try.prog = true := by kernel_rfl
end Go.Proofs.Ytemclhhlafjohaa
