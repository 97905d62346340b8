/-
  Part 12 of what the claim rests on.
-/
import Derived.Test.YtldccnbokbieiaaGreatL2
import Derived.Test.YtldccnbokbieiaaGreatL3
set_option linter.unusedVariables false
set_option linter.unusedSimpArgs false
set_option maxRecDepth 100000
set_option maxHeartbeats 16000000
namespace Go.Sha
end Go.Sha
namespace Go.Proofs.YtldccnbokbieiaaGreat
open Go.Am Go.Sha
end Go.Proofs.YtldccnbokbieiaaGreat
namespace Go.Sha
end Go.Sha
namespace Go.Proofs.YtldccnbokbieiaaGreat
open Go.Am Go.Sha
end Go.Proofs.YtldccnbokbieiaaGreat
namespace Go.Sha
end Go.Sha
namespace Go.Sha
end Go.Sha
namespace Go.Proofs.YtldccnbokbieiaaGreat
open Go.Am Go.Sha
end Go.Proofs.YtldccnbokbieiaaGreat
