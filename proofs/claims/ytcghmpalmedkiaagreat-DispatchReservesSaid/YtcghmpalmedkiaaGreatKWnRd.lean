/-
  Elements of rows, as they come in.
-/
import Derived.Test.YtcghmpalmedkiaaGreatKAiOpen
import Derived.Test.YtcghmpalmedkiaaGreatKWnTy
set_option linter.unusedVariables false
namespace Go.AI
instance : Rd DispatchMode where
  ks := [.str, .int .i64, .int .i64, .int .i64]
  good x := x.fName.size ≤ maxLen ∧ i64 x.fChange ∧ i64 x.fEnergy ∧ i64 x.fStart
  hk := rfl
  build cs h := by
    cases h with | cons a0 h =>
    obtain ⟨y0, rfl, b0⟩ := a0
    cases h with | cons a1 h =>
    obtain ⟨y1, rfl, b1, c1⟩ := a1
    cases h with | cons a2 h =>
    obtain ⟨y2, rfl, b2, c2⟩ := a2
    cases h with | cons a3 h =>
    obtain ⟨y3, rfl, b3, c3⟩ := a3
    cases h
    exact ⟨⟨y0, y1, y2, y3⟩, ⟨b0, ⟨b1, c1⟩, ⟨b2, c2⟩, ⟨b3, c3⟩⟩, fun ρ => .cons _ _ _ _ (.str _) (.cons _ _ _ _ (.int _ _) (.cons _ _ _ _ (.int _ _) (.cons _ _ _ _ (.int _ _) .nil))), by simp [Value.oneCell']⟩
instance : Rd DispatchHour where
  ks := [.int .i64, .int .i64, .int .i64]
  good x := i64 x.fBuy ∧ i64 x.fSell ∧ i64 x.fInflow
  hk := rfl
  build cs h := by
    cases h with | cons a0 h =>
    obtain ⟨y0, rfl, b0, c0⟩ := a0
    cases h with | cons a1 h =>
    obtain ⟨y1, rfl, b1, c1⟩ := a1
    cases h with | cons a2 h =>
    obtain ⟨y2, rfl, b2, c2⟩ := a2
    cases h
    exact ⟨⟨y0, y1, y2⟩, ⟨⟨b0, c0⟩, ⟨b1, c1⟩, ⟨b2, c2⟩⟩, fun ρ => .cons _ _ _ _ (.int _ _) (.cons _ _ _ _ (.int _ _) (.cons _ _ _ _ (.int _ _) .nil)), by simp [Value.oneCell']⟩
end Go.AI
