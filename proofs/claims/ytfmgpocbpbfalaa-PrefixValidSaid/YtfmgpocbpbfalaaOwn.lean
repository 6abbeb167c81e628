/-
  Two facts on the program, for the last proofs.
-/
import Derived.Test.YtfmgpocbpbfalaaGLift
import Derived.Test.YtfmgpocbpbfalaaRows
namespace Go.Proofs.Ytfmgpocbpbfalaa
open Go.G
theorem own : ownKnob Try.prog.godebug = none := by kernel_rfl
theorem laidOut : laidOutB Try.prog = true := by kernel_rfl
end Go.Proofs.Ytfmgpocbpbfalaa
