/-
  awake: the five examples of chapter 02.
-/
import Derived.Test.YtfglifekecijjaaEAiTab
import Derived.Test.YtfglifekecijjaaEAiY
set_option maxRecDepth 100000
namespace Go.AI
def isTrue0 (r : Res) : Bool := match r with | some (.bool true, []) => true | _ => false
theorem awake_runs : isTrue0 (acall tab 1000 14 [] []) = true := by decide +kernel
theorem awake_ev : Ev fun n => (ex tab n).call 14 [] [] = some (.bool true, []) := by
  have h : acall tab 1000 14 [] [] = some (.bool true, []) := by
    have h := awake_runs
    generalize acall tab 1000 14 [] [] = r at h
    unfold isTrue0 at h
    split at h
    · rfl
    · cases h
  exact ⟨1000, fun n hn => (ex_le hn).call 14 [] [] _ h⟩
end Go.AI
