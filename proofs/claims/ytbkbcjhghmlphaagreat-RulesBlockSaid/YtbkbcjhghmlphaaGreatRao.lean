/-
  Whether a transaction is final, and medians, by the other text.
-/
import Derived.Test.YtbkbcjhghmlphaaGreatRan
namespace Go.Proofs.YtbkbcjhghmlphaaGreat
open Go.Am Go.Sha
set_option linter.unusedSimpArgs false
set_option linter.unusedVariables false

end Go.Proofs.YtbkbcjhghmlphaaGreat
