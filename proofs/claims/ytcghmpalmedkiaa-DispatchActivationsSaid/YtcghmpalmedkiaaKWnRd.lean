/-
  Elements of rows, as they come in.
-/
import Derived.Test.YtcghmpalmedkiaaKAiOpen
import Derived.Test.YtcghmpalmedkiaaKWnTy
set_option linter.unusedVariables false
namespace Go.AI
end Go.AI
