/-
  The elements of rows.
-/
import Derived.Test.YtcghmpalmedkiaaGreatKAiY
set_option linter.unusedVariables false
set_option linter.unusedSimpArgs false
set_option maxRecDepth 100000
set_option maxHeartbeats 4000000
namespace Go.AI
structure DispatchMode where
  fName : ByteArray
  fChange : Int
  fEnergy : Int
  fStart : Int
instance : Cell DispatchMode := ⟨4, fun x => [.str x.fName, .int .i64 x.fChange, .int .i64 x.fEnergy, .int .i64 x.fStart], fun _ => rfl, fun _ => rfl, fun _ => rfl, by decide⟩
theorem ac_DispatchMode {l : List DispatchMode} {j : Nat} {x : DispatchMode} (h : l[j]? = some x) : (readAt 4 (rowC l) (j * 4) = some [.str x.fName, .int .i64 x.fChange, .int .i64 x.fEnergy, .int .i64 x.fStart]) ∧ ((rowC l)[j * 4]? = some (.str x.fName)) ∧ (∀ y : ByteArray, writeAt [.str y] (rowC l) (j * 4) = some (rowC (l.set j { x with fName := y }))) ∧ ((rowC l)[j * 4 + 1]? = some (.int .i64 x.fChange)) ∧ (∀ y : Int, writeAt [.int .i64 y] (rowC l) (j * 4 + 1) = some (rowC (l.set j { x with fChange := y }))) ∧ ((rowC l)[j * 4 + 2]? = some (.int .i64 x.fEnergy)) ∧ (∀ y : Int, writeAt [.int .i64 y] (rowC l) (j * 4 + 2) = some (rowC (l.set j { x with fEnergy := y }))) ∧ ((rowC l)[j * 4 + 3]? = some (.int .i64 x.fStart)) ∧ (∀ y : Int, writeAt [.int .i64 y] (rowC l) (j * 4 + 3) = some (rowC (l.set j { x with fStart := y }))) ∧ (∀ (y0 : ByteArray) (y1 : Int) (y2 : Int) (y3 : Int), writeAt [.str y0, .int .i64 y1, .int .i64 y2, .int .i64 y3] (rowC l) (j * 4) = some (rowC (l.set j ⟨y0, y1, y2, y3⟩))) := ⟨rd h, rdc h 0 (by decide), fun y => wrc h _ 0 _ (by decide) rfl, rdc h 1 (by decide), fun y => wrc h _ 1 _ (by decide) rfl, rdc h 2 (by decide), fun y => wrc h _ 2 _ (by decide) rfl, rdc h 3 (by decide), fun y => wrc h _ 3 _ (by decide) rfl, fun y0 y1 y2 y3 => wr (List.getElem?_eq_some_iff.1 h).1 (⟨y0, y1, y2, y3⟩ : DispatchMode)⟩
theorem rc_DispatchMode : (∀ (x : DispatchMode) l, rowC (x :: l) = .str x.fName :: .int .i64 x.fChange :: .int .i64 x.fEnergy :: .int .i64 x.fStart :: rowC l) ∧ (∀ (y0 : ByteArray) (y1 : Int) (y2 : Int) (y3 : Int) n, repeatL [.str y0, .int .i64 y1, .int .i64 y2, .int .i64 y3] n = rowC (List.replicate n (⟨y0, y1, y2, y3⟩ : DispatchMode))) ∧ (∀ l : List DispatchMode, (rowC l).length = l.length * 4) ∧ (∀ l : List DispatchMode, readAt (l.length * 4) (rowC l) 0 = some (rowC l)) ∧ Cell.k DispatchMode = 4 :=
  ⟨fun x l => rowC_cons x l, fun y0 y1 y2 y3 n => repeatL_eq (⟨y0, y1, y2, y3⟩ : DispatchMode) n, fun l => rowC_length l, fun l => rall l, rfl⟩
structure DispatchHour where
  fBuy : Int
  fSell : Int
  fInflow : Int
instance : Cell DispatchHour := ⟨3, fun x => [.int .i64 x.fBuy, .int .i64 x.fSell, .int .i64 x.fInflow], fun _ => rfl, fun _ => rfl, fun _ => rfl, by decide⟩
theorem ac_DispatchHour {l : List DispatchHour} {j : Nat} {x : DispatchHour} (h : l[j]? = some x) : (readAt 3 (rowC l) (j * 3) = some [.int .i64 x.fBuy, .int .i64 x.fSell, .int .i64 x.fInflow]) ∧ ((rowC l)[j * 3]? = some (.int .i64 x.fBuy)) ∧ (∀ y : Int, writeAt [.int .i64 y] (rowC l) (j * 3) = some (rowC (l.set j { x with fBuy := y }))) ∧ ((rowC l)[j * 3 + 1]? = some (.int .i64 x.fSell)) ∧ (∀ y : Int, writeAt [.int .i64 y] (rowC l) (j * 3 + 1) = some (rowC (l.set j { x with fSell := y }))) ∧ ((rowC l)[j * 3 + 2]? = some (.int .i64 x.fInflow)) ∧ (∀ y : Int, writeAt [.int .i64 y] (rowC l) (j * 3 + 2) = some (rowC (l.set j { x with fInflow := y }))) ∧ (∀ (y0 : Int) (y1 : Int) (y2 : Int), writeAt [.int .i64 y0, .int .i64 y1, .int .i64 y2] (rowC l) (j * 3) = some (rowC (l.set j ⟨y0, y1, y2⟩))) := ⟨rd h, rdc h 0 (by decide), fun y => wrc h _ 0 _ (by decide) rfl, rdc h 1 (by decide), fun y => wrc h _ 1 _ (by decide) rfl, rdc h 2 (by decide), fun y => wrc h _ 2 _ (by decide) rfl, fun y0 y1 y2 => wr (List.getElem?_eq_some_iff.1 h).1 (⟨y0, y1, y2⟩ : DispatchHour)⟩
theorem rc_DispatchHour : (∀ (x : DispatchHour) l, rowC (x :: l) = .int .i64 x.fBuy :: .int .i64 x.fSell :: .int .i64 x.fInflow :: rowC l) ∧ (∀ (y0 : Int) (y1 : Int) (y2 : Int) n, repeatL [.int .i64 y0, .int .i64 y1, .int .i64 y2] n = rowC (List.replicate n (⟨y0, y1, y2⟩ : DispatchHour))) ∧ (∀ l : List DispatchHour, (rowC l).length = l.length * 3) ∧ (∀ l : List DispatchHour, readAt (l.length * 3) (rowC l) 0 = some (rowC l)) ∧ Cell.k DispatchHour = 3 :=
  ⟨fun x l => rowC_cons x l, fun y0 y1 y2 n => repeatL_eq (⟨y0, y1, y2⟩ : DispatchHour) n, fun l => rowC_length l, fun l => rall l, rfl⟩
end Go.AI
