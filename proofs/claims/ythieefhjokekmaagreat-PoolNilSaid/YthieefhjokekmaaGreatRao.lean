/-
  Whether a transaction is final, and medians, by the other text.
-/
import Derived.Test.YthieefhjokekmaaGreatRan
namespace Go.Proofs.YthieefhjokekmaaGreat
open Go.Am Go.Sha
set_option linter.unusedSimpArgs false
set_option linter.unusedVariables false

end Go.Proofs.YthieefhjokekmaaGreat
