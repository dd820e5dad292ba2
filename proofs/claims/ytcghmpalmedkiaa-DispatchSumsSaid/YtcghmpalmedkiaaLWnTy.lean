/-
  The elements of rows.
-/
import Derived.Test.YtcghmpalmedkiaaLAiY
set_option linter.unusedVariables false
set_option linter.unusedSimpArgs false
set_option maxRecDepth 100000
set_option maxHeartbeats 4000000
namespace Go.AI
end Go.AI
