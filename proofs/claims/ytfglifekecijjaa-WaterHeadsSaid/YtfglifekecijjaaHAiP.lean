/-
  PLAIN LAWS ABOUT ITERATED STEPS: no program in sight.
-/
import Derived.Test.YtfglifekecijjaaHAiY
set_option linter.unusedVariables false
set_option linter.unusedSimpArgs false
namespace Go.AI
theorem iter_mono {S O : Type} {step : S → Option (S ⊕ O)} : ∀ {n m : Nat} {s : S} {o : O}, iter step n s = some o → n ≤ m → iter step m s = some o := by
  intro n
  induction n with
  | zero => intro m s o h; cases h
  | succ n ih =>
    intro m s o h hm
    obtain ⟨m, rfl⟩ := Nat.exists_eq_add_of_le' (show 1 ≤ m by omega)
    unfold iter at h ⊢
    cases hs : step s with
    | none => rw [hs] at h; cases h
    | some z => cases z with
      | inr o' => simp only [hs] at h ⊢; exact h
      | inl s' => simp only [hs] at h ⊢; exact ih h (by omega)
theorem iter_out {S O : Type} {step : S → Option (S ⊕ O)} {s : S} {o : O} (h : step s = some (.inr o)) (n : Nat) : iter step (n + 1) s = some o := by simp [iter, h]
theorem iter_in {S O : Type} {step : S → Option (S ⊕ O)} {s s' : S} {o : O} (h : step s = some (.inl s')) {n : Nat} (hi : iter step n s' = some o) : iter step (n + 1) s = some o := by simp [iter, h, hi]
def loopL {τ A O : Type} (body : Nat → τ → A → A ⊕ O) (fin : A → O) : List τ → Nat → A → O
  | [], _, a => fin a
  | x :: xs, i, a => match body i x a with
    | .inl a' => loopL body fin xs (i + 1) a'
    | .inr o => o
theorem iter_list {τ A O S : Type} {step : S → Option (S ⊕ O)} (enc : Nat → A → S) (l : List τ) (body : Nat → τ → A → A ⊕ O) (fin : A → O) (Inv : Nat → A → Prop)
    (hend : ∀ a, Inv l.length a → step (enc l.length a) = some (.inr (fin a)))
    (hstep : ∀ i x a, l[i]? = some x → i < l.length → Inv i a → step (enc i a) = some (match body i x a with | .inl a' => .inl (enc (i + 1) a') | .inr o => .inr o) ∧ ∀ a', body i x a = .inl a' → Inv (i + 1) a') :
    ∀ (k i : Nat) (a : A), i + k = l.length → Inv i a → iter step (k + 1) (enc i a) = some (loopL body fin (l.drop i) i a) := by
  intro k
  induction k with
  | zero =>
    intro i a hi ha
    have : i = l.length := by omega
    subst this
    rw [List.drop_length]
    exact iter_out (hend a ha) 0
  | succ k ih =>
    intro i a hi ha
    have hlt : i < l.length := by omega
    obtain ⟨h1, h2⟩ := hstep i l[i] a (List.getElem?_eq_getElem hlt) hlt ha
    rw [List.drop_eq_getElem_cons hlt]
    unfold loopL
    cases hb : body i l[i] a with
    | inr o => rw [hb] at h1; exact iter_out h1 _
    | inl a' => rw [hb] at h1; exact iter_in h1 (ih (i + 1) a' (by omega) (h2 a' hb))
theorem iter_list0 {τ A O S : Type} {step : S → Option (S ⊕ O)} (enc : Nat → A → S) (l : List τ) (body : Nat → τ → A → A ⊕ O) (fin : A → O) (Inv : Nat → A → Prop)
    (hend : ∀ a, Inv l.length a → step (enc l.length a) = some (.inr (fin a)))
    (hstep : ∀ i x a, l[i]? = some x → i < l.length → Inv i a → step (enc i a) = some (match body i x a with | .inl a' => .inl (enc (i + 1) a') | .inr o => .inr o) ∧ ∀ a', body i x a = .inl a' → Inv (i + 1) a')
    (hl : l.length < 1000000) (a : A) (ha : Inv 0 a) : iter step 1000000 (enc 0 a) = some (loopL body fin l 0 a) := by
  have := iter_list enc l body fin Inv hend hstep l.length 0 a (by omega) ha
  rw [List.drop_zero] at this
  exact iter_mono this (by omega)
theorem aw_ok {n : Int} (h1 : -9223372036854775808 ≤ n) (h2 : n ≤ 9223372036854775807) : aw .i64 n = n := aw64 h1 h2
theorem geti_at {α : Type} {l : List α} {i : Nat} {x : α} (h : l[i]? = some x) {γ : Type} (f : Nat → α → Option γ) : bind2 (geti l (i : Int)) f = f i x := by rw [geti_nat h]; rfl
/-! ### halving -/
theorem half_mid {a b : Int} (ha : -2305843009213693952 ≤ a) (hb : b ≤ 2305843009213693952) (h : a < b) : aw .i64 (a + aw .i64 (Int.tdiv (aw .i64 (b - a)) 2)) = a + (b - a) / 2 := by
  have h1 : (b - a) / 2 ≤ b - a := by omega
  have h2 : 0 ≤ (b - a) / 2 := by omega
  rw [aw_ok (n := b - a) (by omega) (by omega), Int.tdiv_eq_ediv_of_nonneg (by omega), aw_ok (n := (b - a) / 2) (by omega) (by omega), aw_ok (by omega) (by omega)]
theorem least_iter {step : Int × Int → Option ((Int × Int) ⊕ Int)} {p : Int → Bool} {lo hi : Int} (hlo : -2305843009213693952 ≤ lo) (hhi : hi ≤ 2305843009213693952) (hle : lo ≤ hi)
    (hend : ∀ a b, b ≤ a → step (a, b) = some (.inr a))
    (hstep : ∀ a b, lo ≤ a → a < b → b ≤ hi → step (a, b) = some (.inl (if p (a + (b - a) / 2) = true then (a, a + (b - a) / 2) else (a + (b - a) / 2 + 1, b)))) :
    ∃ r, iter step 1000000 (lo, hi) = some r ∧ lo ≤ r ∧ r ≤ hi ∧ (r < hi → p r = true) ∧ (lo < r → p (r - 1) = false) := by
  have key : ∀ (k : Nat) (a b : Int), lo ≤ a → a ≤ b → b ≤ hi → b - a < 2 ^ k → (b < hi → p b = true) → (lo < a → p (a - 1) = false) →
      ∃ r, iter step (k + 1) (a, b) = some r ∧ lo ≤ r ∧ r ≤ hi ∧ (r < hi → p r = true) ∧ (lo < r → p (r - 1) = false) := by
    intro k
    induction k with
    | zero =>
      intro a b h1 h2 h3 h4 h5 h6
      have : b = a := by simp at h4; omega
      subst this
      exact ⟨b, iter_out (hend b b (Int.le_refl _)) 0, h1, h3, h5, h6⟩
    | succ k ih =>
      intro a b h1 h2 h3 h4 h5 h6
      by_cases hab : a < b
      · have hs := hstep a b h1 hab h3
        have hp : (2 : Int) ^ (k + 1) = 2 * 2 ^ k := by rw [Int.pow_succ]; omega
        have hm : (b - a) / 2 * 2 ≤ b - a := by omega
        have hm2 : b - a < (b - a) / 2 * 2 + 2 := by omega
        cases hpm : p (a + (b - a) / 2) with
        | true =>
          rw [hpm] at hs
          obtain ⟨r, hr, h7⟩ := ih a (a + (b - a) / 2) h1 (by omega) (by omega) (by omega) (fun _ => hpm) h6
          exact ⟨r, iter_in hs hr, h7⟩
        | false =>
          rw [hpm] at hs
          obtain ⟨r, hr, h7⟩ := ih (a + (b - a) / 2 + 1) b (by omega) (by omega) h3 (by omega) h5 (fun _ => by rw [show a + (b - a) / 2 + 1 - 1 = a + (b - a) / 2 from by omega]; exact hpm)
          exact ⟨r, iter_in hs hr, h7⟩
      · have : b = a := by omega
        subst this
        exact ⟨b, iter_mono (iter_out (hend b b (Int.le_refl _)) 0) (by omega), h1, h3, h5, h6⟩
  obtain ⟨r, hr, h⟩ := key 64 lo hi (Int.le_refl _) hle (Int.le_refl _) (by omega) (fun h => absurd h (by omega)) (fun h => absurd h (by omega))
  exact ⟨r, iter_mono hr (by omega), h⟩
end Go.AI
