/-
  Elements of rows, as they come in.
-/
import Derived.Test.YtfglifekecijjaaEAiOpen
import Derived.Test.YtfglifekecijjaaEWnTy
set_option linter.unusedVariables false
namespace Go.AI
instance : Rd WaterNode where
  ks := [.str, .bool, .int .i64, .int .i64]
  good x := x.fName.size ≤ maxLen ∧ i64 x.fHead ∧ i64 x.fDraw
  hk := rfl
  build cs h := by
    cases h with | cons a0 h =>
    obtain ⟨y0, rfl, b0⟩ := a0
    cases h with | cons a1 h =>
    obtain ⟨y1, rfl⟩ := a1
    cases h with | cons a2 h =>
    obtain ⟨y2, rfl, b2, c2⟩ := a2
    cases h with | cons a3 h =>
    obtain ⟨y3, rfl, b3, c3⟩ := a3
    cases h
    exact ⟨⟨y0, y1, y2, y3⟩, ⟨b0, ⟨b2, c2⟩, ⟨b3, c3⟩⟩, fun ρ => .cons _ _ _ _ (.str _) (.cons _ _ _ _ (.bool _) (.cons _ _ _ _ (.int _ _) (.cons _ _ _ _ (.int _ _) .nil))), by simp [Value.oneCell']⟩
instance : Rd WaterConduit where
  ks := [.str, .int .i64, .int .i64, .int .i64, .bool, .bool]
  good x := x.fName.size ≤ maxLen ∧ i64 x.fFrom ∧ i64 x.fTo ∧ i64 x.fResist
  hk := rfl
  build cs h := by
    cases h with | cons a0 h =>
    obtain ⟨y0, rfl, b0⟩ := a0
    cases h with | cons a1 h =>
    obtain ⟨y1, rfl, b1, c1⟩ := a1
    cases h with | cons a2 h =>
    obtain ⟨y2, rfl, b2, c2⟩ := a2
    cases h with | cons a3 h =>
    obtain ⟨y3, rfl, b3, c3⟩ := a3
    cases h with | cons a4 h =>
    obtain ⟨y4, rfl⟩ := a4
    cases h with | cons a5 h =>
    obtain ⟨y5, rfl⟩ := a5
    cases h
    exact ⟨⟨y0, y1, y2, y3, y4, y5⟩, ⟨b0, ⟨b1, c1⟩, ⟨b2, c2⟩, ⟨b3, c3⟩⟩, fun ρ => .cons _ _ _ _ (.str _) (.cons _ _ _ _ (.int _ _) (.cons _ _ _ _ (.int _ _) (.cons _ _ _ _ (.int _ _) (.cons _ _ _ _ (.bool _) (.cons _ _ _ _ (.bool _) .nil))))), by simp [Value.oneCell']⟩
instance : Rd Branch where
  ks := [.int .i64, .int .i64]
  good x := i64 x.fconduit ∧ i64 x.fnode
  hk := rfl
  build cs h := by
    cases h with | cons a0 h =>
    obtain ⟨y0, rfl, b0, c0⟩ := a0
    cases h with | cons a1 h =>
    obtain ⟨y1, rfl, b1, c1⟩ := a1
    cases h
    exact ⟨⟨y0, y1⟩, ⟨⟨b0, c0⟩, ⟨b1, c1⟩⟩, fun ρ => .cons _ _ _ _ (.int _ _) (.cons _ _ _ _ (.int _ _) .nil), by simp [Value.oneCell']⟩
instance : Rd Range where
  ks := [.int .i64, .int .i64]
  good x := i64 x.fLo ∧ i64 x.fHi
  hk := rfl
  build cs h := by
    cases h with | cons a0 h =>
    obtain ⟨y0, rfl, b0, c0⟩ := a0
    cases h with | cons a1 h =>
    obtain ⟨y1, rfl, b1, c1⟩ := a1
    cases h
    exact ⟨⟨y0, y1⟩, ⟨⟨b0, c0⟩, ⟨b1, c1⟩⟩, fun ρ => .cons _ _ _ _ (.int _ _) (.cons _ _ _ _ (.int _ _) .nil), by simp [Value.oneCell']⟩
end Go.AI
