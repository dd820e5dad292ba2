/-
  No cell of these rows narrows 'for every input' (looked for: loops, veiled, ifaces, maps, wideKeys, modest, calm, conditions, laid).
  DERIVED. THE GIVEN ROWS OF THIS SEAT. 9 by the template 'for every input the law returns true; each argument reads behind the call as it read before'; 0 by the template 'total and deterministic' (their statements: YtcghmpalmedkiaaGreatTotals.lean).
  GIVEN WITH THE SEED: the statements are not yours to turn. If you find one false, say at which input.
  Laid BY PROGRAM, IN A SANDBOX (cutbox-rows.mjs): the forced cells as the released guide's own fill.sh prints them over the translation 5da79921a97df5f2… (all of the seat's roots in one cut). By AI agents, Wed Nov 11 2026. No macro, syntax, notation, axiom, sorry.
-/
import Derived.Test.YtcghmpalmedkiaaGreatChecked
import GoSem.Claim
import GoSem.ClaimJoined
import GoSem.ClaimMapViews
import Derived.JoinedTies
import Derived.KernelRfl
namespace Go.Proofs.YtcghmpalmedkiaaGreat
/- THE CELL 'sum', in the pinned program and in every row, IS THE sha256 OF THE DUMP (.gsa) THAT YtcghmpalmedkiaaGreatProg.lean LOADS. Nothing in Lean hashes anything: it is a label: what it is worth is what the hold of that sum in a sandbox is worth. -/
noncomputable def Tryz.pinned : Pinned := { name := "ytcghmpalmedkiaagreat", sum := "5da79921a97df5f26e5b010a410c9ae8b8592f205066a862e8061fb11a09fa8e", checked := Tryz.checked }
namespace Rows
def none {H : Type} : Left H := { results := [], args := [] }

/-- 'guidevanelaw08.DispatchReserves': WHATEVER THE INPUT: true; the input reads as it did. -/
def dispatchReservesSpec : ChangeSpec := { name := "dispatchReserves", fn := fun _ => fun
  | [d1, d2, d3] => { results := [.lit (.bool true)], args := [d1, d2, d3] }
  | _ => none }
def dispatchReservesRow : OpenClaim := { program := "ytcghmpalmedkiaagreat", sum := "5da79921a97df5f26e5b010a410c9ae8b8592f205066a862e8061fb11a09fa8e", func := "guidevane/guidevanelaw08.DispatchReserves", spec := "dispatchReserves", unfollowed := true, recurses := true, apart := false }
def DispatchReservesSaid : Prop := dispatchReservesRow.holds Tryz.pinned (OpenSpec.ofChange dispatchReservesSpec)

/-- ITS FALSE NEIGHBOUR: 'it returns false'. Refute it at one input. -/
def dispatchReservesWrong : ChangeSpec := { name := "dispatchReserves", fn := fun _ => fun
  | [d1, d2, d3] => { results := [.lit (.bool false)], args := [d1, d2, d3] }
  | _ => none }
def DispatchReservesWrongFalsely : Prop := dispatchReservesRow.holds Tryz.pinned (OpenSpec.ofChange dispatchReservesWrong)

/-- 'guidevanelaw08.DispatchGiven': WHATEVER THE INPUT: true; the input reads as it did. -/
def dispatchGivenSpec : ChangeSpec := { name := "dispatchGiven", fn := fun _ => fun
  | [d1, d2, d3] => { results := [.lit (.bool true)], args := [d1, d2, d3] }
  | _ => none }
def dispatchGivenRow : OpenClaim := { program := "ytcghmpalmedkiaagreat", sum := "5da79921a97df5f26e5b010a410c9ae8b8592f205066a862e8061fb11a09fa8e", func := "guidevane/guidevanelaw08.DispatchGiven", spec := "dispatchGiven", unfollowed := true, recurses := true, apart := false }
def DispatchGivenSaid : Prop := dispatchGivenRow.holds Tryz.pinned (OpenSpec.ofChange dispatchGivenSpec)

/-- ITS FALSE NEIGHBOUR: 'it returns false'. Refute it at one input. -/
def dispatchGivenWrong : ChangeSpec := { name := "dispatchGiven", fn := fun _ => fun
  | [d1, d2, d3] => { results := [.lit (.bool false)], args := [d1, d2, d3] }
  | _ => none }
def DispatchGivenWrongFalsely : Prop := dispatchGivenRow.holds Tryz.pinned (OpenSpec.ofChange dispatchGivenWrong)

/-- 'guidevanelaw08.DispatchTasks': WHATEVER THE INPUT: true; the input reads as it did. -/
def dispatchTasksSpec : ChangeSpec := { name := "dispatchTasks", fn := fun _ => fun
  | [d1, d2, d3] => { results := [.lit (.bool true)], args := [d1, d2, d3] }
  | _ => none }
def dispatchTasksRow : OpenClaim := { program := "ytcghmpalmedkiaagreat", sum := "5da79921a97df5f26e5b010a410c9ae8b8592f205066a862e8061fb11a09fa8e", func := "guidevane/guidevanelaw08.DispatchTasks", spec := "dispatchTasks", unfollowed := true, recurses := true, apart := false }
def DispatchTasksSaid : Prop := dispatchTasksRow.holds Tryz.pinned (OpenSpec.ofChange dispatchTasksSpec)

/-- ITS FALSE NEIGHBOUR: 'it returns false'. Refute it at one input. -/
def dispatchTasksWrong : ChangeSpec := { name := "dispatchTasks", fn := fun _ => fun
  | [d1, d2, d3] => { results := [.lit (.bool false)], args := [d1, d2, d3] }
  | _ => none }
def DispatchTasksWrongFalsely : Prop := dispatchTasksRow.holds Tryz.pinned (OpenSpec.ofChange dispatchTasksWrong)

/-- 'guidevanelaw08.DispatchBest': WHATEVER THE INPUT: true; the input reads as it did. -/
def dispatchBestSpec : ChangeSpec := { name := "dispatchBest", fn := fun _ => fun
  | [d1, d2, d3] => { results := [.lit (.bool true)], args := [d1, d2, d3] }
  | _ => none }
def dispatchBestRow : OpenClaim := { program := "ytcghmpalmedkiaagreat", sum := "5da79921a97df5f26e5b010a410c9ae8b8592f205066a862e8061fb11a09fa8e", func := "guidevane/guidevanelaw08.DispatchBest", spec := "dispatchBest", unfollowed := true, recurses := true, apart := false }
def DispatchBestSaid : Prop := dispatchBestRow.holds Tryz.pinned (OpenSpec.ofChange dispatchBestSpec)

/-- ITS FALSE NEIGHBOUR: 'it returns false'. Refute it at one input. -/
def dispatchBestWrong : ChangeSpec := { name := "dispatchBest", fn := fun _ => fun
  | [d1, d2, d3] => { results := [.lit (.bool false)], args := [d1, d2, d3] }
  | _ => none }
def DispatchBestWrongFalsely : Prop := dispatchBestRow.holds Tryz.pinned (OpenSpec.ofChange dispatchBestWrong)

/-- 'guidevanelaw08.DispatchHolds': WHATEVER THE INPUT: true; the input reads as it did. -/
def dispatchHoldsSpec : ChangeSpec := { name := "dispatchHolds", fn := fun _ => fun
  | [d1, d2, d3] => { results := [.lit (.bool true)], args := [d1, d2, d3] }
  | _ => none }
def dispatchHoldsRow : OpenClaim := { program := "ytcghmpalmedkiaagreat", sum := "5da79921a97df5f26e5b010a410c9ae8b8592f205066a862e8061fb11a09fa8e", func := "guidevane/guidevanelaw08.DispatchHolds", spec := "dispatchHolds", unfollowed := true, recurses := true, apart := false }
def DispatchHoldsSaid : Prop := dispatchHoldsRow.holds Tryz.pinned (OpenSpec.ofChange dispatchHoldsSpec)

/-- ITS FALSE NEIGHBOUR: 'it returns false'. Refute it at one input. -/
def dispatchHoldsWrong : ChangeSpec := { name := "dispatchHolds", fn := fun _ => fun
  | [d1, d2, d3] => { results := [.lit (.bool false)], args := [d1, d2, d3] }
  | _ => none }
def DispatchHoldsWrongFalsely : Prop := dispatchHoldsRow.holds Tryz.pinned (OpenSpec.ofChange dispatchHoldsWrong)

/-- 'guidevanelaw08.DispatchBounds': WHATEVER THE INPUT: true; the input reads as it did. -/
def dispatchBoundsSpec : ChangeSpec := { name := "dispatchBounds", fn := fun _ => fun
  | [d1, d2, d3] => { results := [.lit (.bool true)], args := [d1, d2, d3] }
  | _ => none }
def dispatchBoundsRow : OpenClaim := { program := "ytcghmpalmedkiaagreat", sum := "5da79921a97df5f26e5b010a410c9ae8b8592f205066a862e8061fb11a09fa8e", func := "guidevane/guidevanelaw08.DispatchBounds", spec := "dispatchBounds", unfollowed := true, recurses := true, apart := false }
def DispatchBoundsSaid : Prop := dispatchBoundsRow.holds Tryz.pinned (OpenSpec.ofChange dispatchBoundsSpec)

/-- ITS FALSE NEIGHBOUR: 'it returns false'. Refute it at one input. -/
def dispatchBoundsWrong : ChangeSpec := { name := "dispatchBounds", fn := fun _ => fun
  | [d1, d2, d3] => { results := [.lit (.bool false)], args := [d1, d2, d3] }
  | _ => none }
def DispatchBoundsWrongFalsely : Prop := dispatchBoundsRow.holds Tryz.pinned (OpenSpec.ofChange dispatchBoundsWrong)

/-- 'guidevanelaw08.DispatchNoMore': WHATEVER THE INPUT: true; the input reads as it did. -/
def dispatchNoMoreSpec : ChangeSpec := { name := "dispatchNoMore", fn := fun _ => fun
  | [d1, d2, d3] => { results := [.lit (.bool true)], args := [d1, d2, d3] }
  | _ => none }
def dispatchNoMoreRow : OpenClaim := { program := "ytcghmpalmedkiaagreat", sum := "5da79921a97df5f26e5b010a410c9ae8b8592f205066a862e8061fb11a09fa8e", func := "guidevane/guidevanelaw08.DispatchNoMore", spec := "dispatchNoMore", unfollowed := true, recurses := true, apart := false }
def DispatchNoMoreSaid : Prop := dispatchNoMoreRow.holds Tryz.pinned (OpenSpec.ofChange dispatchNoMoreSpec)

/-- ITS FALSE NEIGHBOUR: 'it returns false'. Refute it at one input. -/
def dispatchNoMoreWrong : ChangeSpec := { name := "dispatchNoMore", fn := fun _ => fun
  | [d1, d2, d3] => { results := [.lit (.bool false)], args := [d1, d2, d3] }
  | _ => none }
def DispatchNoMoreWrongFalsely : Prop := dispatchNoMoreRow.holds Tryz.pinned (OpenSpec.ofChange dispatchNoMoreWrong)

/-- 'guidevanelaw08.DispatchRevisions': WHATEVER THE INPUT: true; the input reads as it did. -/
def dispatchRevisionsSpec : ChangeSpec := { name := "dispatchRevisions", fn := fun _ => fun
  | [d1, d2] => { results := [.lit (.bool true)], args := [d1, d2] }
  | _ => none }
def dispatchRevisionsRow : OpenClaim := { program := "ytcghmpalmedkiaagreat", sum := "5da79921a97df5f26e5b010a410c9ae8b8592f205066a862e8061fb11a09fa8e", func := "guidevane/guidevanelaw08.DispatchRevisions", spec := "dispatchRevisions", unfollowed := true, recurses := true, apart := false }
def DispatchRevisionsSaid : Prop := dispatchRevisionsRow.holds Tryz.pinned (OpenSpec.ofChange dispatchRevisionsSpec)

/-- ITS FALSE NEIGHBOUR: 'it returns false'. Refute it at one input. -/
def dispatchRevisionsWrong : ChangeSpec := { name := "dispatchRevisions", fn := fun _ => fun
  | [d1, d2] => { results := [.lit (.bool false)], args := [d1, d2] }
  | _ => none }
def DispatchRevisionsWrongFalsely : Prop := dispatchRevisionsRow.holds Tryz.pinned (OpenSpec.ofChange dispatchRevisionsWrong)

/-- 'guidevanelaw08.DispatchInTurn': WHATEVER THE INPUT: true; the input reads as it did. -/
def dispatchInTurnSpec : ChangeSpec := { name := "dispatchInTurn", fn := fun _ => fun
  | [d1, d2, d3] => { results := [.lit (.bool true)], args := [d1, d2, d3] }
  | _ => none }
def dispatchInTurnRow : OpenClaim := { program := "ytcghmpalmedkiaagreat", sum := "5da79921a97df5f26e5b010a410c9ae8b8592f205066a862e8061fb11a09fa8e", func := "guidevane/guidevanelaw08.DispatchInTurn", spec := "dispatchInTurn", unfollowed := true, recurses := true, apart := false }
def DispatchInTurnSaid : Prop := dispatchInTurnRow.holds Tryz.pinned (OpenSpec.ofChange dispatchInTurnSpec)

/-- ITS FALSE NEIGHBOUR: 'it returns false'. Refute it at one input. -/
def dispatchInTurnWrong : ChangeSpec := { name := "dispatchInTurn", fn := fun _ => fun
  | [d1, d2, d3] => { results := [.lit (.bool false)], args := [d1, d2, d3] }
  | _ => none }
def DispatchInTurnWrongFalsely : Prop := dispatchInTurnRow.holds Tryz.pinned (OpenSpec.ofChange dispatchInTurnWrong)

/- THE SECOND FORM. 'bulk': how many values and letters a reading holds, each counted each time it is reached (what is shared counts as often as it is met; a slice's spare places count too). A statement '..UptoSaid' is the law's where the arguments, and the package variables that the reading takes, are together of bulk at most 1048576: NARROWER than '..Said'. Prove '..Said' where nothing that the law and all that it calls make is longer than what came in: it says more and counts as full. Else prove '..UptoSaid'. A law counts once. -/
mutual
def uptoBulk {H : Type} : DataW H → Nat
  | .lit (.string bytes) => bytes.length + 1
  | .lit _ => 1
  | .nil => 1
  | .ptr d => uptoBulk d + 1
  | .slice elems spare => uptoBulkAll elems + uptoBulkAll spare + 1
  | .agg parts => uptoBulkAll parts + 1
  | .iface _ d => uptoBulk d + 1
  | .map entries => uptoBulkEntries entries + 1
  | .held _ => 1
def uptoBulkAll {H : Type} : List (DataW H) → Nat
  | [] => 0
  | d :: r => uptoBulk d + uptoBulkAll r
def uptoBulkEntries {H : Type} : List (Lit × DataW H) → Nat
  | [] => 0
  | x :: r => uptoBulkEntry x + uptoBulkEntries r
def uptoBulkEntry {H : Type} : Lit × DataW H → Nat
  | (.string bytes, d) => bytes.length + uptoBulk d + 1
  | (_, d) => uptoBulk d + 1
 end
def uptoSmall : (H : Type) → List (DataW H) → Bool := fun _ ds => decide (uptoBulkAll ds ≤ 1048576)
def OpenSpec.upto (s : _root_.Go.ChangeSpec) : _root_.Go.OpenSpec := { _root_.Go.OpenSpec.ofChange s with cond := some uptoSmall }

/-- 'guidevanelaw08.DispatchReserves', WHERE WHAT IT READS IS OF BULK AT MOST 1048576: true; the input reads as it did. -/
def dispatchReservesUptoRow : OpenClaim := { program := "ytcghmpalmedkiaagreat", sum := "5da79921a97df5f26e5b010a410c9ae8b8592f205066a862e8061fb11a09fa8e", func := "guidevane/guidevanelaw08.DispatchReserves", spec := "dispatchReserves", unfollowed := true, recurses := true, apart := false, narrowed := true }
def DispatchReservesUptoSaid : Prop := dispatchReservesUptoRow.holds Tryz.pinned (OpenSpec.upto dispatchReservesSpec)

/-- 'guidevanelaw08.DispatchGiven', WHERE WHAT IT READS IS OF BULK AT MOST 1048576: true; the input reads as it did. -/
def dispatchGivenUptoRow : OpenClaim := { program := "ytcghmpalmedkiaagreat", sum := "5da79921a97df5f26e5b010a410c9ae8b8592f205066a862e8061fb11a09fa8e", func := "guidevane/guidevanelaw08.DispatchGiven", spec := "dispatchGiven", unfollowed := true, recurses := true, apart := false, narrowed := true }
def DispatchGivenUptoSaid : Prop := dispatchGivenUptoRow.holds Tryz.pinned (OpenSpec.upto dispatchGivenSpec)

/-- 'guidevanelaw08.DispatchTasks', WHERE WHAT IT READS IS OF BULK AT MOST 1048576: true; the input reads as it did. -/
def dispatchTasksUptoRow : OpenClaim := { program := "ytcghmpalmedkiaagreat", sum := "5da79921a97df5f26e5b010a410c9ae8b8592f205066a862e8061fb11a09fa8e", func := "guidevane/guidevanelaw08.DispatchTasks", spec := "dispatchTasks", unfollowed := true, recurses := true, apart := false, narrowed := true }
def DispatchTasksUptoSaid : Prop := dispatchTasksUptoRow.holds Tryz.pinned (OpenSpec.upto dispatchTasksSpec)

/-- 'guidevanelaw08.DispatchBest', WHERE WHAT IT READS IS OF BULK AT MOST 1048576: true; the input reads as it did. -/
def dispatchBestUptoRow : OpenClaim := { program := "ytcghmpalmedkiaagreat", sum := "5da79921a97df5f26e5b010a410c9ae8b8592f205066a862e8061fb11a09fa8e", func := "guidevane/guidevanelaw08.DispatchBest", spec := "dispatchBest", unfollowed := true, recurses := true, apart := false, narrowed := true }
def DispatchBestUptoSaid : Prop := dispatchBestUptoRow.holds Tryz.pinned (OpenSpec.upto dispatchBestSpec)

/-- 'guidevanelaw08.DispatchHolds', WHERE WHAT IT READS IS OF BULK AT MOST 1048576: true; the input reads as it did. -/
def dispatchHoldsUptoRow : OpenClaim := { program := "ytcghmpalmedkiaagreat", sum := "5da79921a97df5f26e5b010a410c9ae8b8592f205066a862e8061fb11a09fa8e", func := "guidevane/guidevanelaw08.DispatchHolds", spec := "dispatchHolds", unfollowed := true, recurses := true, apart := false, narrowed := true }
def DispatchHoldsUptoSaid : Prop := dispatchHoldsUptoRow.holds Tryz.pinned (OpenSpec.upto dispatchHoldsSpec)

/-- 'guidevanelaw08.DispatchBounds', WHERE WHAT IT READS IS OF BULK AT MOST 1048576: true; the input reads as it did. -/
def dispatchBoundsUptoRow : OpenClaim := { program := "ytcghmpalmedkiaagreat", sum := "5da79921a97df5f26e5b010a410c9ae8b8592f205066a862e8061fb11a09fa8e", func := "guidevane/guidevanelaw08.DispatchBounds", spec := "dispatchBounds", unfollowed := true, recurses := true, apart := false, narrowed := true }
def DispatchBoundsUptoSaid : Prop := dispatchBoundsUptoRow.holds Tryz.pinned (OpenSpec.upto dispatchBoundsSpec)

/-- 'guidevanelaw08.DispatchNoMore', WHERE WHAT IT READS IS OF BULK AT MOST 1048576: true; the input reads as it did. -/
def dispatchNoMoreUptoRow : OpenClaim := { program := "ytcghmpalmedkiaagreat", sum := "5da79921a97df5f26e5b010a410c9ae8b8592f205066a862e8061fb11a09fa8e", func := "guidevane/guidevanelaw08.DispatchNoMore", spec := "dispatchNoMore", unfollowed := true, recurses := true, apart := false, narrowed := true }
def DispatchNoMoreUptoSaid : Prop := dispatchNoMoreUptoRow.holds Tryz.pinned (OpenSpec.upto dispatchNoMoreSpec)

/-- 'guidevanelaw08.DispatchRevisions', WHERE WHAT IT READS IS OF BULK AT MOST 1048576: true; the input reads as it did. -/
def dispatchRevisionsUptoRow : OpenClaim := { program := "ytcghmpalmedkiaagreat", sum := "5da79921a97df5f26e5b010a410c9ae8b8592f205066a862e8061fb11a09fa8e", func := "guidevane/guidevanelaw08.DispatchRevisions", spec := "dispatchRevisions", unfollowed := true, recurses := true, apart := false, narrowed := true }
def DispatchRevisionsUptoSaid : Prop := dispatchRevisionsUptoRow.holds Tryz.pinned (OpenSpec.upto dispatchRevisionsSpec)

/-- 'guidevanelaw08.DispatchInTurn', WHERE WHAT IT READS IS OF BULK AT MOST 1048576: true; the input reads as it did. -/
def dispatchInTurnUptoRow : OpenClaim := { program := "ytcghmpalmedkiaagreat", sum := "5da79921a97df5f26e5b010a410c9ae8b8592f205066a862e8061fb11a09fa8e", func := "guidevane/guidevanelaw08.DispatchInTurn", spec := "dispatchInTurn", unfollowed := true, recurses := true, apart := false, narrowed := true }
def DispatchInTurnUptoSaid : Prop := dispatchInTurnUptoRow.holds Tryz.pinned (OpenSpec.upto dispatchInTurnSpec)

end Rows
end Go.Proofs.YtcghmpalmedkiaaGreat
