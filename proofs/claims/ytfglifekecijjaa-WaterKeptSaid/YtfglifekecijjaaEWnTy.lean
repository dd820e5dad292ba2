/-
  The elements of rows.
-/
import Derived.Test.YtfglifekecijjaaEAiY
set_option linter.unusedVariables false
set_option linter.unusedSimpArgs false
set_option maxRecDepth 100000
set_option maxHeartbeats 4000000
namespace Go.AI
structure WaterNode where
  fName : ByteArray
  fLake : Bool
  fHead : Int
  fDraw : Int
instance : Cell WaterNode := ⟨4, fun x => [.str x.fName, .bool x.fLake, .int .i64 x.fHead, .int .i64 x.fDraw], fun _ => rfl, fun _ => rfl, fun _ => rfl, by decide⟩
theorem ac_WaterNode {l : List WaterNode} {j : Nat} {x : WaterNode} (h : l[j]? = some x) : (readAt 4 (rowC l) (j * 4) = some [.str x.fName, .bool x.fLake, .int .i64 x.fHead, .int .i64 x.fDraw]) ∧ ((rowC l)[j * 4]? = some (.str x.fName)) ∧ (∀ y : ByteArray, writeAt [.str y] (rowC l) (j * 4) = some (rowC (l.set j { x with fName := y }))) ∧ ((rowC l)[j * 4 + 1]? = some (.bool x.fLake)) ∧ (∀ y : Bool, writeAt [.bool y] (rowC l) (j * 4 + 1) = some (rowC (l.set j { x with fLake := y }))) ∧ ((rowC l)[j * 4 + 2]? = some (.int .i64 x.fHead)) ∧ (∀ y : Int, writeAt [.int .i64 y] (rowC l) (j * 4 + 2) = some (rowC (l.set j { x with fHead := y }))) ∧ ((rowC l)[j * 4 + 3]? = some (.int .i64 x.fDraw)) ∧ (∀ y : Int, writeAt [.int .i64 y] (rowC l) (j * 4 + 3) = some (rowC (l.set j { x with fDraw := y }))) ∧ (∀ (y0 : ByteArray) (y1 : Bool) (y2 : Int) (y3 : Int), writeAt [.str y0, .bool y1, .int .i64 y2, .int .i64 y3] (rowC l) (j * 4) = some (rowC (l.set j ⟨y0, y1, y2, y3⟩))) := ⟨rd h, rdc h 0 (by decide), fun y => wrc h _ 0 _ (by decide) rfl, rdc h 1 (by decide), fun y => wrc h _ 1 _ (by decide) rfl, rdc h 2 (by decide), fun y => wrc h _ 2 _ (by decide) rfl, rdc h 3 (by decide), fun y => wrc h _ 3 _ (by decide) rfl, fun y0 y1 y2 y3 => wr (List.getElem?_eq_some_iff.1 h).1 (⟨y0, y1, y2, y3⟩ : WaterNode)⟩
theorem rc_WaterNode : (∀ (x : WaterNode) l, rowC (x :: l) = .str x.fName :: .bool x.fLake :: .int .i64 x.fHead :: .int .i64 x.fDraw :: rowC l) ∧ (∀ (y0 : ByteArray) (y1 : Bool) (y2 : Int) (y3 : Int) n, repeatL [.str y0, .bool y1, .int .i64 y2, .int .i64 y3] n = rowC (List.replicate n (⟨y0, y1, y2, y3⟩ : WaterNode))) ∧ (∀ l : List WaterNode, (rowC l).length = l.length * 4) ∧ (∀ l : List WaterNode, readAt (l.length * 4) (rowC l) 0 = some (rowC l)) ∧ Cell.k WaterNode = 4 :=
  ⟨fun x l => rowC_cons x l, fun y0 y1 y2 y3 n => repeatL_eq (⟨y0, y1, y2, y3⟩ : WaterNode) n, fun l => rowC_length l, fun l => rall l, rfl⟩
structure WaterConduit where
  fName : ByteArray
  fFrom : Int
  fTo : Int
  fResist : Int
  fValve : Bool
  fOpen : Bool
instance : Cell WaterConduit := ⟨6, fun x => [.str x.fName, .int .i64 x.fFrom, .int .i64 x.fTo, .int .i64 x.fResist, .bool x.fValve, .bool x.fOpen], fun _ => rfl, fun _ => rfl, fun _ => rfl, by decide⟩
theorem ac_WaterConduit {l : List WaterConduit} {j : Nat} {x : WaterConduit} (h : l[j]? = some x) : (readAt 6 (rowC l) (j * 6) = some [.str x.fName, .int .i64 x.fFrom, .int .i64 x.fTo, .int .i64 x.fResist, .bool x.fValve, .bool x.fOpen]) ∧ ((rowC l)[j * 6]? = some (.str x.fName)) ∧ (∀ y : ByteArray, writeAt [.str y] (rowC l) (j * 6) = some (rowC (l.set j { x with fName := y }))) ∧ ((rowC l)[j * 6 + 1]? = some (.int .i64 x.fFrom)) ∧ (∀ y : Int, writeAt [.int .i64 y] (rowC l) (j * 6 + 1) = some (rowC (l.set j { x with fFrom := y }))) ∧ ((rowC l)[j * 6 + 2]? = some (.int .i64 x.fTo)) ∧ (∀ y : Int, writeAt [.int .i64 y] (rowC l) (j * 6 + 2) = some (rowC (l.set j { x with fTo := y }))) ∧ ((rowC l)[j * 6 + 3]? = some (.int .i64 x.fResist)) ∧ (∀ y : Int, writeAt [.int .i64 y] (rowC l) (j * 6 + 3) = some (rowC (l.set j { x with fResist := y }))) ∧ ((rowC l)[j * 6 + 4]? = some (.bool x.fValve)) ∧ (∀ y : Bool, writeAt [.bool y] (rowC l) (j * 6 + 4) = some (rowC (l.set j { x with fValve := y }))) ∧ ((rowC l)[j * 6 + 5]? = some (.bool x.fOpen)) ∧ (∀ y : Bool, writeAt [.bool y] (rowC l) (j * 6 + 5) = some (rowC (l.set j { x with fOpen := y }))) ∧ (∀ (y0 : ByteArray) (y1 : Int) (y2 : Int) (y3 : Int) (y4 : Bool) (y5 : Bool), writeAt [.str y0, .int .i64 y1, .int .i64 y2, .int .i64 y3, .bool y4, .bool y5] (rowC l) (j * 6) = some (rowC (l.set j ⟨y0, y1, y2, y3, y4, y5⟩))) := ⟨rd h, rdc h 0 (by decide), fun y => wrc h _ 0 _ (by decide) rfl, rdc h 1 (by decide), fun y => wrc h _ 1 _ (by decide) rfl, rdc h 2 (by decide), fun y => wrc h _ 2 _ (by decide) rfl, rdc h 3 (by decide), fun y => wrc h _ 3 _ (by decide) rfl, rdc h 4 (by decide), fun y => wrc h _ 4 _ (by decide) rfl, rdc h 5 (by decide), fun y => wrc h _ 5 _ (by decide) rfl, fun y0 y1 y2 y3 y4 y5 => wr (List.getElem?_eq_some_iff.1 h).1 (⟨y0, y1, y2, y3, y4, y5⟩ : WaterConduit)⟩
theorem rc_WaterConduit : (∀ (x : WaterConduit) l, rowC (x :: l) = .str x.fName :: .int .i64 x.fFrom :: .int .i64 x.fTo :: .int .i64 x.fResist :: .bool x.fValve :: .bool x.fOpen :: rowC l) ∧ (∀ (y0 : ByteArray) (y1 : Int) (y2 : Int) (y3 : Int) (y4 : Bool) (y5 : Bool) n, repeatL [.str y0, .int .i64 y1, .int .i64 y2, .int .i64 y3, .bool y4, .bool y5] n = rowC (List.replicate n (⟨y0, y1, y2, y3, y4, y5⟩ : WaterConduit))) ∧ (∀ l : List WaterConduit, (rowC l).length = l.length * 6) ∧ (∀ l : List WaterConduit, readAt (l.length * 6) (rowC l) 0 = some (rowC l)) ∧ Cell.k WaterConduit = 6 :=
  ⟨fun x l => rowC_cons x l, fun y0 y1 y2 y3 y4 y5 n => repeatL_eq (⟨y0, y1, y2, y3, y4, y5⟩ : WaterConduit) n, fun l => rowC_length l, fun l => rall l, rfl⟩
structure Branch where
  fconduit : Int
  fnode : Int
instance : Cell Branch := ⟨2, fun x => [.int .i64 x.fconduit, .int .i64 x.fnode], fun _ => rfl, fun _ => rfl, fun _ => rfl, by decide⟩
theorem ac_Branch {l : List Branch} {j : Nat} {x : Branch} (h : l[j]? = some x) : (readAt 2 (rowC l) (j * 2) = some [.int .i64 x.fconduit, .int .i64 x.fnode]) ∧ ((rowC l)[j * 2]? = some (.int .i64 x.fconduit)) ∧ (∀ y : Int, writeAt [.int .i64 y] (rowC l) (j * 2) = some (rowC (l.set j { x with fconduit := y }))) ∧ ((rowC l)[j * 2 + 1]? = some (.int .i64 x.fnode)) ∧ (∀ y : Int, writeAt [.int .i64 y] (rowC l) (j * 2 + 1) = some (rowC (l.set j { x with fnode := y }))) ∧ (∀ (y0 : Int) (y1 : Int), writeAt [.int .i64 y0, .int .i64 y1] (rowC l) (j * 2) = some (rowC (l.set j ⟨y0, y1⟩))) := ⟨rd h, rdc h 0 (by decide), fun y => wrc h _ 0 _ (by decide) rfl, rdc h 1 (by decide), fun y => wrc h _ 1 _ (by decide) rfl, fun y0 y1 => wr (List.getElem?_eq_some_iff.1 h).1 (⟨y0, y1⟩ : Branch)⟩
theorem rc_Branch : (∀ (x : Branch) l, rowC (x :: l) = .int .i64 x.fconduit :: .int .i64 x.fnode :: rowC l) ∧ (∀ (y0 : Int) (y1 : Int) n, repeatL [.int .i64 y0, .int .i64 y1] n = rowC (List.replicate n (⟨y0, y1⟩ : Branch))) ∧ (∀ l : List Branch, (rowC l).length = l.length * 2) ∧ (∀ l : List Branch, readAt (l.length * 2) (rowC l) 0 = some (rowC l)) ∧ Cell.k Branch = 2 :=
  ⟨fun x l => rowC_cons x l, fun y0 y1 n => repeatL_eq (⟨y0, y1⟩ : Branch) n, fun l => rowC_length l, fun l => rall l, rfl⟩
structure Range where
  fLo : Int
  fHi : Int
instance : Cell Range := ⟨2, fun x => [.int .i64 x.fLo, .int .i64 x.fHi], fun _ => rfl, fun _ => rfl, fun _ => rfl, by decide⟩
end Go.AI
