/-
  awake: the five examples of chapter 08.
-/
import Derived.Test.YtcghmpalmedkiaaLAiTab
import Derived.Test.YtcghmpalmedkiaaLAiY
set_option maxRecDepth 100000
namespace Go.AI
def isTrue0 (r : Res) : Bool := match r with | some (.bool true, []) => true | _ => false
theorem awake_runs : isTrue0 (acall tab 1000 5 [] []) = true := by decide +kernel
theorem awake_ev : Ev fun n => (ex tab n).call 5 [] [] = some (.bool true, []) := by
  have h : acall tab 1000 5 [] [] = some (.bool true, []) := by
    have h := awake_runs
    generalize acall tab 1000 5 [] [] = r at h
    unfold isTrue0 at h
    split at h
    · rfl
    · cases h
  exact ⟨1000, fun n hn => (ex_le hn).call 5 [] [] _ h⟩
end Go.AI
