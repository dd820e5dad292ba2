/-
  The table's functions are the program's.
-/
import Derived.Test.YtcghmpalmedkiaaLAiTab
import Derived.Test.YtcghmpalmedkiaaLAiFun
import Derived.Test.YtcghmpalmedkiaaProg
set_option maxRecDepth 100000
namespace Go.AI
noncomputable def allOk : List Nat → Bool := fun l => l.all fun k => match tab k with | some fn => fnOk Go.Proofs.Try.prog k fn | none => true
theorem chk : allOk (List.range 120) = true := by decide +kernel
theorem tab_lt {f : Nat} {fn : AFunc} (h : tab f = some fn) : f < 120 := by
  unfold tab at h
  split at h <;> first | (cases h; done) | decide
theorem tabOk : ∀ f fn, tab f = some fn → fnOk Go.Proofs.Try.prog f fn = true := by
  intro f fn h
  have h1 := chk
  unfold allOk at h1
  rw [List.all_eq_true] at h1
  have h2 := h1 f (List.mem_range.2 (tab_lt h))
  rw [h] at h2
  exact h2
theorem follows : Go.Proofs.Try.prog.follows .mixedOrders = true := by decide +kernel
end Go.AI
