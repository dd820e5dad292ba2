/-
  Elements of rows, as they come in.
-/
import Derived.Test.YtcghmpalmedkiaaLAiOpen
import Derived.Test.YtcghmpalmedkiaaLWnTy
set_option linter.unusedVariables false
namespace Go.AI
end Go.AI
