/-
  The law RulesAlone, but for rules.checkRefs.
-/
import Derived.Test.YtbkbcjhghmlphaaGreatRao
namespace Go.Proofs.YtbkbcjhghmlphaaGreat
open Go.Am Go.Sha
set_option linter.unusedSimpArgs false
set_option linter.unusedVariables false

end Go.Proofs.YtbkbcjhghmlphaaGreat
