/-
  Two facts on the program, for the last proofs.
-/
import Derived.Test.YtlodmhiemndegaaGLift
import Derived.Test.YtlodmhiemndegaaRows
namespace Go.Proofs.Ytlodmhiemndegaa
open Go.G
theorem own : ownKnob Try.prog.godebug = none := by kernel_rfl
theorem laidOut : laidOutB Try.prog = true := by kernel_rfl
end Go.Proofs.Ytlodmhiemndegaa
