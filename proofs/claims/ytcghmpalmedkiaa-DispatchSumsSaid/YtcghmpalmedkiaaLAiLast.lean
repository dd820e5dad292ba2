/-
  WHO WROTE LAST: in a text's order, among the operations that have been carried out.
-/
import Derived.Test.YtcghmpalmedkiaaLAiDep
set_option linter.unusedVariables false
set_option linter.unusedSimpArgs false
namespace Go.AI
section
open Classical
noncomputable def lastw {α : Type} (S : Nat → Bool) (W : Nat → Prop) (val : Nat → α) (init : α) : Nat → α
  | 0 => init
  | i + 1 => if S i = true ∧ W i then val i else lastw S W val init i
variable {α : Type} {S S' : Nat → Bool} {W : Nat → Prop} {val : Nat → α} {init : α}
theorem lastw_text {X : Nat → α} {n i : Nat} (h0 : X 0 = init) (hX : ∀ m, m < n → (W m → X (m + 1) = val m) ∧ (¬ W m → X (m + 1) = X m)) (hi : i ≤ n) (hS : ∀ j, j < n → W j → (j < i ↔ S j = true)) :
    lastw S W val init n = X i := by
  have low : ∀ m, m ≤ i → lastw S W val init m = X m := by
    intro m
    induction m with
    | zero => intro _; exact h0.symm
    | succ m ih =>
      intro hm
      show (if S m = true ∧ W m then val m else lastw S W val init m) = _
      by_cases hw : W m
      · rw [if_pos ⟨(hS m (by omega) hw).1 (by omega), hw⟩, (hX m (by omega)).1 hw]
      · rw [if_neg (fun h => hw h.2), (hX m (by omega)).2 hw, ih (by omega)]
  have high : ∀ m, i ≤ m → m ≤ n → lastw S W val init m = X i := by
    intro m
    induction m with
    | zero => intro h _; have : i = 0 := by omega
              subst this; exact low 0 (Nat.le_refl _)
    | succ m ih =>
      intro h1 h2
      by_cases he : i = m + 1
      · subst he; exact low _ (Nat.le_refl _)
      · show (if S m = true ∧ W m then val m else lastw S W val init m) = _
        rw [if_neg ?_, ih (by omega) (by omega)]
        rintro ⟨hs, hw⟩
        have := (hS m (by omega) hw).2 hs
        omega
  exact high n hi (Nat.le_refl _)
theorem lastw_hit {n i : Nat} (hi : i < n) (hS' : ∀ j, S' j = (S j || decide (j = i))) (hw : W i) (hno : ∀ j, i < j → j < n → W j → S j = false) : lastw S' W val init n = val i := by
  have key : ∀ m, i < m → m ≤ n → lastw S' W val init m = val i := by
    intro m
    induction m with
    | zero => intro h; omega
    | succ m ih =>
      intro h1 h2
      show (if S' m = true ∧ W m then val m else lastw S' W val init m) = _
      by_cases he : m = i
      · subst he; rw [if_pos ⟨by rw [hS']; simp, hw⟩]
      · rw [if_neg ?_, ih (by omega) (by omega)]
        rintro ⟨hs, hwm⟩
        rw [hS', hno m (by omega) (by omega) hwm] at hs
        simp [he] at hs
  exact key n hi (Nat.le_refl _)
theorem lastw_miss {n i : Nat} (hS' : ∀ j, S' j = (S j || decide (j = i))) (hw : ¬ W i) : lastw S' W val init n = lastw S W val init n := by
  induction n with
  | zero => rfl
  | succ n ih =>
    show (if S' n = true ∧ W n then val n else lastw S' W val init n) = (if S n = true ∧ W n then val n else lastw S W val init n)
    rw [ih]
    by_cases hn : n = i
    · subst hn; rw [if_neg (fun h => hw h.2), if_neg (fun h => hw h.2)]
    · have : S' n = S n := by rw [hS']; simp [hn]
      rw [this]
theorem lastw_none {n : Nat} (h : ∀ j, j < n → S j = false) : lastw S W val init n = init := by
  induction n with
  | zero => rfl
  | succ n ih =>
    show (if S n = true ∧ W n then val n else lastw S W val init n) = _
    rw [if_neg (fun h' => by rw [h n (by omega)] at h'; cases h'.1), ih (fun j hj => h j (by omega))]
end
/-! ### what must come before what -/
def edges (o : Oper) : List Nat := (o.after.toList.filter (Region.binds .any)).map (·.on)
def orAll (acc : List Nat) : List Nat → Nat
  | [] => 0
  | j :: l => (1 <<< j) ||| ((acc.getD j 0) ||| orAll acc l)
def befsGo : List Oper → List Nat → List Nat
  | [], acc => acc
  | o :: os, acc => befsGo os (acc ++ [orAll acc (edges o)])
def befs (os : List Oper) : List Nat := befsGo os []
def isBef (bs : List Nat) (j i : Nat) : Bool := (bs.getD i 0).testBit j
def Down (os : List Oper) (S : Nat → Bool) : Prop := ∀ i o, os[i]? = some o → S i = true → ∀ j ∈ edges o, S j = true
theorem testBit_one (j k : Nat) : (1 <<< j).testBit k = true → k = j := by
  intro h
  rw [Nat.one_shiftLeft, Nat.testBit_two_pow] at h
  have h : j = k := by simpa using h
  exact h.symm
theorem orAll_bit {acc : List Nat} {l : List Nat} {k : Nat} (h : (orAll acc l).testBit k = true) : ∃ j ∈ l, k = j ∨ (acc.getD j 0).testBit k = true := by
  induction l with
  | nil => simp [orAll] at h
  | cons j l ih =>
    simp only [orAll, Nat.testBit_or, Bool.or_eq_true] at h
    rcases h with h | h | h
    · exact ⟨j, .head _, .inl (testBit_one _ _ h)⟩
    · exact ⟨j, .head _, .inr h⟩
    · obtain ⟨i, hi, h⟩ := ih h; exact ⟨i, .tail _ hi, h⟩
theorem befsGo_down {S : Nat → Bool} : ∀ (os all : List Oper) (acc : List Nat), (∀ i o, os[i]? = some o → all[acc.length + i]? = some o) → Down all S →
    (∀ i, S i = true → ∀ k, (acc.getD i 0).testBit k = true → S k = true) → ∀ i, S i = true → ∀ k, ((befsGo os acc).getD i 0).testBit k = true → S k = true := by
  intro os
  induction os with
  | nil => intro all acc _ _ h; exact h
  | cons o os ih =>
    intro all acc hall hd h
    refine ih all (acc ++ [orAll acc (edges o)]) (fun i o' hi => by
      have := hall (i + 1) o' (by simpa using hi)
      rw [List.length_append]; simp only [List.length_cons, List.length_nil]
      rwa [show acc.length + (i + 1) = acc.length + (0 + 1) + i from by omega] at this) hd fun i hi k hk => ?_
    by_cases hlt : i < acc.length
    · refine h i hi k ?_
      rw [List.getD_eq_getElem?_getD, List.getElem?_append_left hlt, ← List.getD_eq_getElem?_getD] at hk; exact hk
    · by_cases he : i = acc.length
      · subst he
        rw [List.getD_eq_getElem?_getD, List.getElem?_append_right (Nat.le_refl _)] at hk
        simp at hk
        obtain ⟨j, hj, hk⟩ := orAll_bit hk
        have hSj := hd acc.length o (by have := hall 0 o rfl; simpa using this) hi j hj
        rcases hk with rfl | hk
        · exact hSj
        · exact h j hSj k hk
      · rw [List.getD_eq_getElem?_getD, List.getElem?_eq_none (by simp; omega)] at hk
        simp at hk
theorem befs_down {os : List Oper} {S : Nat → Bool} (hd : Down os S) {i k : Nat} (hi : S i = true) (hk : isBef (befs os) k i = true) : S k = true :=
  befsGo_down os os [] (fun i o h => by simpa using h) hd (fun i _ k hk => by simp at hk) i hi k hk
end Go.AI
