/-
  PLAIN LAWS ABOUT ITERATED STEPS: no program in sight.
-/
import Derived.Test.YtcghmpalmedkiaaLAiY
set_option linter.unusedVariables false
set_option linter.unusedSimpArgs false
namespace Go.AI
theorem iter_mono {S O : Type} {step : S → Option (S ⊕ O)} : ∀ {n m : Nat} {s : S} {o : O}, iter step n s = some o → n ≤ m → iter step m s = some o := by
  intro n
  induction n with
  | zero => intro m s o h; cases h
  | succ n ih =>
    intro m s o h hm
    obtain ⟨m, rfl⟩ := Nat.exists_eq_add_of_le' (show 1 ≤ m by omega)
    unfold iter at h ⊢
    cases hs : step s with
    | none => rw [hs] at h; cases h
    | some z => cases z with
      | inr o' => simp only [hs] at h ⊢; exact h
      | inl s' => simp only [hs] at h ⊢; exact ih h (by omega)
theorem iter_out {S O : Type} {step : S → Option (S ⊕ O)} {s : S} {o : O} (h : step s = some (.inr o)) (n : Nat) : iter step (n + 1) s = some o := by simp [iter, h]
theorem iter_in {S O : Type} {step : S → Option (S ⊕ O)} {s s' : S} {o : O} (h : step s = some (.inl s')) {n : Nat} (hi : iter step n s' = some o) : iter step (n + 1) s = some o := by simp [iter, h, hi]
def loopL {τ A O : Type} (body : Nat → τ → A → A ⊕ O) (fin : A → O) : List τ → Nat → A → O
  | [], _, a => fin a
  | x :: xs, i, a => match body i x a with
    | .inl a' => loopL body fin xs (i + 1) a'
    | .inr o => o
theorem iter_list {τ A O S : Type} {step : S → Option (S ⊕ O)} (enc : Nat → A → S) (l : List τ) (body : Nat → τ → A → A ⊕ O) (fin : A → O) (Inv : Nat → A → Prop)
    (hend : ∀ a, Inv l.length a → step (enc l.length a) = some (.inr (fin a)))
    (hstep : ∀ i x a, l[i]? = some x → i < l.length → Inv i a → step (enc i a) = some (match body i x a with | .inl a' => .inl (enc (i + 1) a') | .inr o => .inr o) ∧ ∀ a', body i x a = .inl a' → Inv (i + 1) a') :
    ∀ (k i : Nat) (a : A), i + k = l.length → Inv i a → iter step (k + 1) (enc i a) = some (loopL body fin (l.drop i) i a) := by
  intro k
  induction k with
  | zero =>
    intro i a hi ha
    have : i = l.length := by omega
    subst this
    rw [List.drop_length]
    exact iter_out (hend a ha) 0
  | succ k ih =>
    intro i a hi ha
    have hlt : i < l.length := by omega
    obtain ⟨h1, h2⟩ := hstep i l[i] a (List.getElem?_eq_getElem hlt) hlt ha
    rw [List.drop_eq_getElem_cons hlt]
    unfold loopL
    cases hb : body i l[i] a with
    | inr o => rw [hb] at h1; exact iter_out h1 _
    | inl a' => rw [hb] at h1; exact iter_in h1 (ih (i + 1) a' (by omega) (h2 a' hb))
theorem iter_list0 {τ A O S : Type} {step : S → Option (S ⊕ O)} (enc : Nat → A → S) (l : List τ) (body : Nat → τ → A → A ⊕ O) (fin : A → O) (Inv : Nat → A → Prop)
    (hend : ∀ a, Inv l.length a → step (enc l.length a) = some (.inr (fin a)))
    (hstep : ∀ i x a, l[i]? = some x → i < l.length → Inv i a → step (enc i a) = some (match body i x a with | .inl a' => .inl (enc (i + 1) a') | .inr o => .inr o) ∧ ∀ a', body i x a = .inl a' → Inv (i + 1) a')
    (hl : l.length < 1000000) (a : A) (ha : Inv 0 a) : iter step 1000000 (enc 0 a) = some (loopL body fin l 0 a) := by
  have := iter_list enc l body fin Inv hend hstep l.length 0 a (by omega) ha
  rw [List.drop_zero] at this
  exact iter_mono this (by omega)
theorem aw_ok {n : Int} (h1 : -9223372036854775808 ≤ n) (h2 : n ≤ 9223372036854775807) : aw .i64 n = n := aw64 h1 h2
theorem geti_at {α : Type} {l : List α} {i : Nat} {x : α} (h : l[i]? = some x) {γ : Type} (f : Nat → α → Option γ) : bind2 (geti l (i : Int)) f = f i x := by rw [geti_nat h]; rfl
/-! ### halving -/
end Go.AI
