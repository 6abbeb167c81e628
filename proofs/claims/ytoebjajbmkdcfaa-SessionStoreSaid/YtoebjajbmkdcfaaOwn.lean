/-
  Two facts on the program, for the last proofs.
-/
import Derived.Test.YtoebjajbmkdcfaaGLift
import Derived.Test.YtoebjajbmkdcfaaRows
namespace Go.Proofs.Ytoebjajbmkdcfaa
open Go.G
theorem own : ownKnob Try.prog.godebug = none := by kernel_rfl
theorem laidOut : laidOutB Try.prog = true := by kernel_rfl
end Go.Proofs.Ytoebjajbmkdcfaa
