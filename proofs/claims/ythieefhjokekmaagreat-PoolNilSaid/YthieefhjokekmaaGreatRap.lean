/-
  The law RulesAlone, but for rules.checkRefs.
-/
import Derived.Test.YthieefhjokekmaaGreatRao
namespace Go.Proofs.YthieefhjokekmaaGreat
open Go.Am Go.Sha
set_option linter.unusedSimpArgs false
set_option linter.unusedVariables false

end Go.Proofs.YthieefhjokekmaaGreat
