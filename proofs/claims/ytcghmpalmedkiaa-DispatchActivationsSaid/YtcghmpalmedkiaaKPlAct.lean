/-
  THE PLAIN LAW OF DispatchActivations.
-/
import Derived.Test.YtcghmpalmedkiaaKAiP
import Derived.Test.YtcghmpalmedkiaaKWnF
set_option linter.unusedVariables false
set_option linter.unusedSimpArgs false
set_option maxRecDepth 100000
namespace Go.AI
def folds {τ A O : Type} (f : A → τ → A) (i : Nat) (x : τ) (a : A) : A ⊕ O := .inl (f a x)
theorem loopL_fold {τ A O : Type} (f : A → τ → A) (fin : A → O) : ∀ (l : List τ) (i : Nat) (a : A), loopL (folds f) fin l i a = fin (l.foldl f a) := by
  intro l
  induction l with
  | nil => intro i a; rfl
  | cons x l ih => intro i a; simp only [loopL, folds, List.foldl]; exact ih _ _
/-! ### small functions -/
def pok (x : Int) : Bool := decide (-1000000 ≤ x) && decide (x ≤ 1000000)
theorem pok_iff {x : Int} : pok x = true ↔ -1000000 ≤ x ∧ x ≤ 1000000 := by simp [pok]
theorem F27_eq (a b c : Int) : F27_0 a b c = some (decide (b ≤ a) && decide (a ≤ c)) := by
  unfold F27_0; by_cases h : b ≤ a <;> simp [h]
theorem F16_eq (a b c : Int) : F16_0 a b c = some (decide (b ≤ a) && decide (a ≤ c)) := by
  unfold F16_0; by_cases h : b ≤ a <;> simp [h]
theorem F26_eq (x : Int) : F26_0 x = some (pok x) := by
  unfold F26_0 F47_0; rw [aw_ok (by omega) (by omega), F27_eq]; simp [pok]
theorem F25_eq (b : Bool) (e : Int) : F25_0 b e = some (if b = true then 0 else e) := by
  unfold F25_0; cases b <;> rfl
def firstI : List Int → Int
  | [] => 0
  | x :: l => if x = 0 then firstI l else x
theorem F24_eq (l : List Int) (h : l.length < 100000) : F24_0 l = some (firstI l) := by
  have h1 := iter_list0 (step := S24l0_0 (l.length : Int) l) (fun i (_ : Unit) => (i : Int)) l (fun _ x _ => if x = 0 then .inl () else .inr (.inr x)) (fun _ => .inl ()) (fun _ _ => True)
    (fun a _ => by simp [S24l0_0]) (fun i x a hx hi _ => by
      refine ⟨?_, fun _ _ => trivial⟩
      simp only [S24l0_0, if_neg (show ¬ (l.length : Int) ≤ (i : Int) by omega), geti_at hx]
      rw [aw_ok (by omega) (by omega)]
      by_cases h : x = 0 <;> simp [h]) (by omega) () trivial
  unfold F24_0 L24l0_0
  have h0 : iter (S24l0_0 (l.length : Int) l) 1000000 0 = _ := h1
  rw [h0]
  clear h1 h0
  have key : ∀ (l : List Int) (i : Nat), (loopL (fun _ x _ => if x = 0 then .inl () else .inr (.inr x)) (fun _ => .inl ()) l i () : Unit ⊕ Int) = .inl () ∧ firstI l = 0 ∨ (loopL (fun _ x _ => if x = 0 then .inl () else .inr (.inr x)) (fun _ => .inl ()) l i () : Unit ⊕ Int) = .inr (firstI l) := by
    intro l
    induction l with
    | nil => intro i; exact .inl ⟨rfl, rfl⟩
    | cons x l ih =>
      intro i
      by_cases h : x = 0
      · simp only [loopL, firstI, if_pos h]; exact ih (i + 1)
      · right; simp only [loopL, firstI, if_neg h]
  rcases key l 0 with ⟨k1, k2⟩ | k1
  · rw [k1, k2]; rfl
  · rw [k1]; rfl
/-! ### valid powers -/
def perr (l : List Int) : Int := if l.length ≤ 300 then (if l.all pok = true then 0 else 2) else 8
def bodyP (_ : Nat) (x : Int) (_ : Unit) : Unit ⊕ (Unit ⊕ Unit) := if pok x = true then .inl () else .inr (.inr ())
theorem loopP_eq : ∀ (l : List Int) (i : Nat), loopL bodyP (fun _ => .inl ()) l i () = if l.all pok = true then .inl () else .inr () := by
  intro l
  induction l with
  | nil => intro i; rfl
  | cons x l ih =>
    intro i
    by_cases h : pok x = true
    · have hb : bodyP i x () = .inl () := if_pos h
      simp only [loopL, hb, ih, List.all_cons, h, Bool.true_and]
    · have hb : bodyP i x () = .inr (.inr ()) := if_neg h
      simp only [loopL, hb, List.all_cons]; simp [h]
theorem F11_eq (l : List Int) : F11_0 l = some (perr l) := by
  unfold F11_0 perr
  by_cases hl : l.length ≤ 300
  · rw [if_pos (by omega), if_pos hl]
    have h1 := iter_list0 (step := S11l0_0 l) (fun i (_ : Unit) => (i : Int)) l bodyP (fun _ => .inl ()) (fun _ _ => True)
      (fun a _ => by simp [S11l0_0]) (fun i x a hx hi _ => by
        refine ⟨?_, fun _ _ => trivial⟩
        simp only [S11l0_0, if_neg (show ¬ (l.length : Int) ≤ (i : Int) by omega), geti_at hx, F16_eq, Option.bind_some]
        rw [aw_ok (by omega) (by omega)]
        unfold bodyP pok
        split <;> simp_all) (by omega) () trivial
    rw [loopP_eq] at h1
    unfold L11l0_0
    have h0 : iter (S11l0_0 l) 1000000 0 = _ := h1
    rw [h0]
    by_cases h2 : l.all pok = true
    · rw [if_pos h2, if_pos h2]; rfl
    · rw [if_neg h2, if_neg h2]; rfl
  · rw [if_neg (by omega), if_neg hl]
def bodyQ (i : Nat) (x : Int) (_ : Unit) : Unit ⊕ (Unit ⊕ Int) := if pok x = true then .inl () else .inr (.inr (i : Int))
theorem loopQ_eq : ∀ (l : List Int) (i : Nat), (l.all pok = true ∧ loopL bodyQ (fun _ => .inl ()) l i () = .inl ()) ∨ (l.all pok = false ∧ ∃ k : Nat, loopL bodyQ (fun _ => .inl ()) l i () = .inr (k : Int)) := by
  intro l
  induction l with
  | nil => intro i; exact .inl ⟨rfl, rfl⟩
  | cons x l ih =>
    intro i
    by_cases h : pok x = true
    · have hb : bodyQ i x () = .inl () := if_pos h
      simp only [loopL, hb, List.all_cons, h, Bool.true_and]; exact ih (i + 1)
    · have hb : bodyQ i x () = .inr (.inr (i : Int)) := if_neg h
      right; simp only [loopL, hb, List.all_cons]; exact ⟨by simp [h], i, rfl⟩
theorem F48_eq (l : List Int) (hl : l.length < 100000) : F48_0 l = some (!l.all pok) := by
  unfold F48_0 F62_0 L62l0_0
  have h1 := iter_list0 (step := S62l0_0 (l.length : Int) l) (fun i (_ : Unit) => (i : Int)) l bodyQ (fun _ => .inl ()) (fun _ _ => True)
    (fun a _ => by simp [S62l0_0]) (fun i x a hx hi _ => by
      refine ⟨?_, fun _ _ => trivial⟩
      simp only [S62l0_0, if_neg (show ¬ (l.length : Int) ≤ (i : Int) by omega), geti_at hx, F49_0, F26_eq, Option.bind_some]
      rw [aw_ok (by omega) (by omega)]
      unfold bodyQ
      by_cases h : pok x = true <;> simp [h]) (by omega) () trivial
  have h0 : iter (S62l0_0 (l.length : Int) l) 1000000 0 = _ := h1
  rw [h0]
  rcases loopQ_eq l 0 with ⟨a, b⟩ | ⟨a, k, b⟩
  · rw [b, a]; rfl
  · rw [b, a]; simp
theorem F28_eq (l : List Int) (hl : l.length < 100000) : F28_0 l = some (perr l) := by
  unfold F28_0
  rw [F48_eq l hl]
  simp only [Option.bind_some, F25_eq, F24_eq _ (show ([_, _] : List Int).length < 100000 by simp)]
  unfold perr firstI firstI
  by_cases h : l.length ≤ 300
  · by_cases h2 : l.all pok = true <;> simp [h, h2, show (l.length : Int) ≤ 300 by omega, firstI]
  · simp [h, show ¬ (l.length : Int) ≤ 300 by omega]
/-! ### what follows -/
def stp (r s w : Int) : Int := min (max w (s - r)) (s + r)
def folL (r : Int) : Int → List Int → List Int
  | _, [] => []
  | s, w :: l => stp r s w :: folL r (stp r s w) l
theorem folL_length (r : Int) : ∀ (l : List Int) (s : Int), (folL r s l).length = l.length := by
  intro l
  induction l with
  | nil => intro s; rfl
  | cons w l ih => intro s; simp [folL, ih]
def folF (r : Int) (a : Int × List Int) (x : Int) : Int × List Int := (stp r a.1 x, a.2 ++ [stp r a.1 x])
theorem fold_fol (r : Int) : ∀ (l : List Int) (s : Int) (o : List Int), (l.foldl (folF r) (s, o)).2 = o ++ folL r s l := by
  intro l
  induction l with
  | nil => intro s o; simp [folL]
  | cons x l ih => intro s o; simp only [List.foldl, folF, folL]; rw [ih]; simp
def FInv (i : Nat) (a : Int × List Int) : Prop := a.2.length = i ∧ -1000000 ≤ a.1 ∧ a.1 ≤ 1000000
theorem L7l0_eq (r s : Int) (l : List Int) (hl : l.length ≤ 300) (hp : l.all pok = true) (hr0 : 0 ≤ r) (hr : r ≤ 1000000) (hs : -1000000 ≤ s) (hs2 : s ≤ 1000000) :
    L7l0_0 r (l.length : Int) l (s, 0, []) = some (folL r s l) := by
  have h1 := iter_list0 (step := S7l0_0 r (l.length : Int) l) (fun i (a : Int × List Int) => (a.1, (i : Int), a.2)) l (folds (folF r)) (fun a => a.2) FInv
    (fun a _ => by simp [S7l0_0]) (fun i x a hx hi hI => by
      obtain ⟨h2, h3, h4⟩ := hI
      have hpx := pok_iff.1 (List.all_eq_true.1 hp x (List.mem_of_getElem? hx))
      refine ⟨?_, fun a' ha' => ?_⟩
      · simp only [S7l0_0, if_neg (show ¬ (l.length : Int) ≤ (i : Int) by omega), geti_at hx]
        simp (disch := omega) only [aw_ok]
        rw [room_le (by omega)]
        simp [folds, folF, stp]
      · simp only [folds, Sum.inl.injEq] at ha'
        subst ha'
        refine ⟨by simp [folF, h2], ?_, ?_⟩ <;> (simp only [folF, stp]; omega)) (by omega) (s, []) ⟨rfl, hs, hs2⟩
  rw [loopL_fold, fold_fol] at h1
  exact h1
theorem L13l0_eq (r s : Int) (l : List Int) (hl : l.length ≤ 300) (hp : l.all pok = true) (hr0 : 0 ≤ r) (hr : r ≤ 1000000) (hs : -1000000 ≤ s) (hs2 : s ≤ 1000000) :
    L13l0_0 r l (s, 0, []) = some (folL r s l) := by
  have h1 := iter_list0 (step := S13l0_0 r l) (fun i (a : Int × List Int) => (a.1, (i : Int), a.2)) l (folds (folF r)) (fun a => a.2) FInv
    (fun a _ => by simp [S13l0_0]) (fun i x a hx hi hI => by
      obtain ⟨h2, h3, h4⟩ := hI
      have hpx := pok_iff.1 (List.all_eq_true.1 hp x (List.mem_of_getElem? hx))
      refine ⟨?_, fun a' ha' => ?_⟩
      · simp only [S13l0_0, if_neg (show ¬ (l.length : Int) ≤ (i : Int) by omega), geti_at hx]
        simp (disch := omega) only [aw_ok]
        rw [room_le (by omega), show max (a.1 - r) (min (a.1 + r) x) = stp r a.1 x from by unfold stp; omega]
        simp [folds, folF]
      · simp only [folds, Sum.inl.injEq] at ha'
        subst ha'
        refine ⟨by simp [folF, h2], ?_, ?_⟩ <;> (simp only [folF, stp]; omega)) (by omega) (s, []) ⟨rfl, hs, hs2⟩
  rw [loopL_fold, fold_fol] at h1
  exact h1
def rerr (s r : Int) : Int := if pok s = true ∧ 0 ≤ r ∧ r ≤ 1000000 then 0 else 2
theorem F10_eq (s r : Int) : F10_0 s r = some (rerr s r) := by
  unfold F10_0 rerr
  simp only [F16_eq, Option.bind_some]
  by_cases h : pok s = true
  · rw [if_pos (by simpa [pok] using h)]
    by_cases h2 : 0 ≤ r ∧ r ≤ 1000000
    · rw [if_pos (by simp [h2]), if_pos ⟨h, h2⟩]
    · rw [if_neg (by simpa using h2), if_neg (fun k => h2 k.2)]
  · rw [if_neg (by simpa [pok] using h), if_neg (fun k => h k.1)]
theorem F7_eq (s r : Int) (l : List Int) (hl : l.length ≤ 302) : F7_0 s r l = some (if rerr s r ≠ 0 then (2, []) else if perr l ≠ 0 then (perr l, []) else (0, folL r s l)) := by
  have hp : perr l = 0 → l.length ≤ 300 ∧ l.all pok = true := by
    unfold perr; split
    · split
      · intro _; exact ⟨by assumption, by assumption⟩
      · intro h; cases h
    · intro h; cases h
  unfold F7_0 rerr
  rw [F26_eq]
  simp only [Option.bind_some, F27_eq, F25_eq, F28_eq l (by omega), F24_eq _ (show ([_, _] : List Int).length < 100000 by simp)]
  by_cases h : pok s = true
  · have hs := pok_iff.1 h
    by_cases h2 : 0 ≤ r ∧ r ≤ 1000000
    · by_cases h3 : perr l = 0
      · simp [h, h2, h3, firstI, L7l0_eq r s l (hp h3).1 (hp h3).2 h2.1 h2.2 hs.1 hs.2]
      · simp [h, h2, h3, firstI]
    · have h4 : ¬ ((decide (0 ≤ r) && decide (r ≤ 1000000)) = true) := by simpa using h2
      simp only [if_pos h, if_neg h4, if_neg (show ¬ (pok s = true ∧ 0 ≤ r ∧ r ≤ 1000000) from fun k => h2 k.2)]
      simp [firstI]
  · simp only [if_neg h, if_neg (show ¬ (pok s = true ∧ 0 ≤ r ∧ r ≤ 1000000) from fun k => h k.1)]
    simp [firstI]
theorem F13_eq (s r : Int) (l : List Int) (h : rerr s r = 0) (h2 : perr l = 0) : F13_0 s r l = some (folL r s l) := by
  unfold rerr at h; unfold perr at h2
  split at h
  · rename_i k
    split at h2
    · split at h2
      · have hs := pok_iff.1 k.1
        unfold F13_0; rw [L13l0_eq r s l (by assumption) (by assumption) k.2.1 k.2.2 hs.1 hs.2]; rfl
      · cases h2
    · cases h2
  · cases h
/-! ### what is settled -/
def given (x m : Int) : Int := if 0 < x ∧ 0 < m ∨ x < 0 ∧ m < 0 then min (max x (-x)) (max m (-m)) else 0
def setF (a : Int × Int × Int) (p : Int × Int) : Int × Int × Int := (a.1 + given p.1 p.2, a.2.1 + (max p.1 (-p.1) - given p.1 p.2), a.2.2 + (max p.2 (-p.2) - given p.1 p.2))
def setL (w m : List Int) : Int × Int × Int := (w.zip m).foldl setF (0, 0, 0)
theorem F29_eq {x : Int} (h : -1000000 ≤ x) (h2 : x ≤ 1000000) : F29_0 x = some (max x (-x)) := by
  unfold F29_0; rw [aw_ok (by omega) (by omega), Int.zero_sub]
theorem F15_eq {x : Int} (h : -1000000000 ≤ x) (h2 : x ≤ 1000000000) : F15_0 x = some (max x (-x)) := by
  unfold F15_0; rw [aw_ok (by omega) (by omega), Int.zero_sub]
def SInv (i : Nat) (a : Int × Int × Int) : Prop := 0 ≤ a.1 ∧ a.1 ≤ 1000000 * i ∧ 0 ≤ a.2.1 ∧ a.2.1 ≤ 1000000 * i ∧ 0 ≤ a.2.2 ∧ a.2.2 ≤ 1000000 * i
theorem given_le {x m : Int} : 0 ≤ given x m ∧ given x m ≤ max x (-x) ∧ given x m ≤ max m (-m) := by
  unfold given; split <;> omega
theorem zip_at {w m : List Int} {i : Nat} {p : Int × Int} (h : (w.zip m)[i]? = some p) : w[i]? = some p.1 ∧ m[i]? = some p.2 := by
  simpa using List.getElem?_zip_eq_some.1 h
theorem SInv.step {i : Nat} {a : Int × Int × Int} {p : Int × Int} (h : SInv i a) (h1 : pok p.1 = true) (h2 : pok p.2 = true) : SInv (i + 1) (setF a p) := by
  have := @given_le p.1 p.2
  have h1 := pok_iff.1 h1
  have h2 := pok_iff.1 h2
  obtain ⟨a1, a2, a3, a4, a5, a6⟩ := h
  refine ⟨?_, ?_, ?_, ?_, ?_, ?_⟩ <;> (simp only [setF]; omega)
theorem L9l0_eq (w m : List Int) (hl : w.length ≤ 300) (he : m.length = w.length) (hw : w.all pok = true) (hm : m.all pok = true) :
    L9l0_0 (w.length : Int) w m (0, 0, 0, 0) = some (setL w m) := by
  have hz : (w.zip m).length = w.length := by simp [he]
  have h1 := iter_list0 (step := S9l0_0 (w.length : Int) w m) (fun i (a : Int × Int × Int) => ((i : Int), a.1, a.2.1, a.2.2)) (w.zip m) (folds setF) (fun a => a) SInv
    (fun a _ => by simp [S9l0_0, hz]) (fun i p a hx hi hI => by
      obtain ⟨hx1, hx2⟩ := zip_at hx
      have p1 := List.all_eq_true.1 hw _ (List.mem_of_getElem? hx1)
      have p2 := List.all_eq_true.1 hm _ (List.mem_of_getElem? hx2)
      refine ⟨?_, fun a' ha' => by simp only [folds, Sum.inl.injEq] at ha'; subst ha'; exact hI.step p1 p2⟩
      have p1 := pok_iff.1 p1
      have p2 := pok_iff.1 p2
      obtain ⟨a1, a2, a3, a4, a5, a6⟩ := hI
      obtain ⟨x, y⟩ := p
      dsimp only at *
      simp only [S9l0_0, if_neg (show ¬ (w.length : Int) ≤ (i : Int) by omega), geti_at hx1, geti_at hx2, F29_eq p1.1 p1.2, F29_eq p2.1 p2.2, Option.bind_some]
      simp (disch := omega) only [aw_ok]
      by_cases c1 : x ≤ 0 <;> by_cases c2 : 0 ≤ x <;> by_cases c3 : y ≤ 0 <;> by_cases c4 : 0 ≤ y <;>
        simp only [c1, c2, c3, c4, if_true, if_false, ↓reduceIte, folds, setF, given, Option.some.injEq, Sum.inl.injEq, Prod.mk.injEq] <;> (refine ⟨?_, ?_, ?_, ?_⟩ <;> first | rfl | (split <;> omega) | omega)) (by omega) (0, 0, 0) ⟨by simp, by simp, by simp, by simp, by simp, by simp⟩
  rw [loopL_fold] at h1
  exact h1
theorem L14l0_eq (w m : List Int) (hl : w.length ≤ 300) (he : m.length = w.length) (hw : w.all pok = true) (hm : m.all pok = true) :
    L14l0_0 w m (0, 0, 0, 0) = some (setL w m) := by
  have hz : (w.zip m).length = w.length := by simp [he]
  have h1 := iter_list0 (step := S14l0_0 w m) (fun i (a : Int × Int × Int) => ((i : Int), a.1, a.2.1, a.2.2)) (w.zip m) (folds setF) (fun a => a) SInv
    (fun a _ => by simp [S14l0_0, hz]) (fun i p a hx hi hI => by
      obtain ⟨hx1, hx2⟩ := zip_at hx
      have p1 := List.all_eq_true.1 hw _ (List.mem_of_getElem? hx1)
      have p2 := List.all_eq_true.1 hm _ (List.mem_of_getElem? hx2)
      refine ⟨?_, fun a' ha' => by simp only [folds, Sum.inl.injEq] at ha'; subst ha'; exact hI.step p1 p2⟩
      have p1 := pok_iff.1 p1
      have p2 := pok_iff.1 p2
      obtain ⟨a1, a2, a3, a4, a5, a6⟩ := hI
      obtain ⟨x, y⟩ := p
      dsimp only at *
      simp only [S14l0_0, if_neg (show ¬ (w.length : Int) ≤ (i : Int) by omega), geti_at hx1, geti_at hx2, F15_eq (x := x) (by omega) (by omega), F15_eq (x := y) (by omega) (by omega), Option.bind_some]
      simp (disch := omega) only [aw_ok]
      by_cases c1 : x ≤ 0 <;> by_cases c2 : 0 ≤ x <;> by_cases c3 : y ≤ 0 <;> by_cases c4 : 0 ≤ y <;>
        simp only [c1, c2, c3, c4, if_true, if_false, ↓reduceIte, folds, setF, given, Option.some.injEq, Sum.inl.injEq, Prod.mk.injEq] <;> (refine ⟨?_, ?_, ?_, ?_⟩ <;> first | rfl | (split <;> omega) | omega)) (by omega) (0, 0, 0) ⟨by simp, by simp, by simp, by simp, by simp, by simp⟩
  rw [loopL_fold] at h1
  exact h1
theorem perr0 {l : List Int} (h : perr l = 0) : l.length ≤ 300 ∧ l.all pok = true := by
  unfold perr at h
  split at h
  · split at h
    · exact ⟨by assumption, by assumption⟩
    · cases h
  · cases h
theorem F14_eq (w m : List Int) (hw : perr w = 0) (hm : perr m = 0) (he : m.length = w.length) : F14_0 w m = some (setL w m) := by
  unfold F14_0; rw [L14l0_eq w m (perr0 hw).1 he (perr0 hw).2 (perr0 hm).2]; rfl
def serr (w m : List Int) : Int := firstI [perr w, perr m, if w.length = m.length then 0 else 10]
theorem F9_eq (w m : List Int) (hl : w.length ≤ 302) (hl2 : m.length ≤ 302) :
    F9_0 w m = some (if serr w m = 0 then ((setL w m).1, (setL w m).2.1, (setL w m).2.2, 0) else (0, 0, 0, serr w m)) := by
  unfold F9_0
  rw [F28_eq w (by omega), F28_eq m (by omega)]
  simp only [Option.bind_some, F25_eq, F24_eq _ (show ([_, _, _] : List Int).length < 100000 by simp)]
  have hd : (if decide ((w.length : Int) = (m.length : Int)) = true then (0 : Int) else 10) = if w.length = m.length then 0 else 10 := by
    by_cases h : w.length = m.length
    · simp [h]
    · rw [if_neg h, if_neg (by simp; omega)]
  rw [hd]
  show (if serr w m = 0 then _ else _) = _
  by_cases h : serr w m = 0
  · rw [if_pos h, if_pos h]
    have h' := h
    unfold serr at h'
    simp only [firstI] at h'
    by_cases hw : perr w = 0
    · by_cases hm : perr m = 0
      · have he : m.length = w.length := by
          by_cases he : w.length = m.length
          · exact he.symm
          · simp [hw, hm, he] at h'
        rw [L9l0_eq w m (perr0 hw).1 he (perr0 hw).2 (perr0 hm).2]; rfl
      · simp [hw, hm] at h'
    · simp [hw] at h'
  · rw [if_neg h, if_neg h]; rfl
/-! ### equal lists -/
theorem F12_refl (l : List Int) (hl : l.length < 100000) : F12_0 l l = some true := by
  unfold F12_0 L12l0_0
  rw [if_pos rfl]
  have h1 := iter_list0 (step := S12l0_0 l l) (fun i (_ : Unit) => (i : Int)) l (fun _ _ _ => .inl ()) (fun _ => .inl ()) (fun _ _ => True)
    (fun a _ => by simp [S12l0_0]) (fun i x a hx hi _ => by
      refine ⟨?_, fun _ _ => trivial⟩
      simp only [S12l0_0, if_neg (show ¬ (l.length : Int) ≤ (i : Int) by omega), geti_at hx]
      rw [aw_ok (by omega) (by omega)]
      simp) (by omega) () trivial
  have h0 : iter (S12l0_0 l l) 1000000 0 = _ := h1
  rw [h0]
  have key : ∀ (l : List Int) (i : Nat), (loopL (fun _ _ _ => .inl ()) (fun _ => .inl ()) l i () : Unit ⊕ Unit) = .inl () := by
    intro l
    induction l with
    | nil => intro i; rfl
    | cons x l ih => intro i; exact ih (i + 1)
  rw [key]; rfl
theorem F6_le {l : List Int} : F6_0 l = some false ∨ F6_0 l = some true ∧ l.length ≤ 302 := by
  unfold F6_0
  by_cases h : l.length ≤ 80
  · right; rw [if_pos (by omega)]; exact ⟨rfl, by omega⟩
  · rw [if_neg (by omega)]
    by_cases h2 : l.length ≤ 300
    · left; rw [if_pos (by omega)]
    · rw [if_neg (by omega)]
      by_cases h3 : l.length ≤ 302
      · right; exact ⟨by simp; omega, h3⟩
      · left; simp; omega
theorem F8_le {l : List Int} (h : l.length ≤ 302) : F8_0 l = some () := by unfold F8_0; rw [room_le (by omega)]
theorem rerr_cases (s r : Int) : rerr s r = 0 ∨ rerr s r = 2 := by unfold rerr; split <;> simp
theorem plainDispatchActivations (x y : Int) (l k : List Int) : F3_0 x y l k = some true := by
  unfold F3_0
  rcases @F6_le l with h | ⟨h, hl⟩
  · rw [h]; rfl
  rcases @F6_le k with h2 | ⟨h2, hk⟩
  · rw [h, h2]; rfl
  rw [h, h2]
  simp only [Option.bind_some, if_true, ↓reduceIte, F8_le hl, F8_le hk, F7_eq x y l hl, F9_eq l k hl hk, F10_eq, F11_eq]
  have hset : ∀ (b : serr l k = 0), perr l = 0 ∧ perr k = 0 ∧ k.length = l.length := by
    intro b
    unfold serr at b
    simp only [firstI] at b
    by_cases hw : perr l = 0
    · by_cases hm : perr k = 0
      · refine ⟨hw, hm, ?_⟩
        by_cases he : l.length = k.length
        · exact he.symm
        · simp [hw, hm, he] at b
      · simp [hw, hm] at b
    · simp [hw] at b
  by_cases c2 : perr l = 0
  · by_cases c3 : perr k = 0
    · by_cases c4 : l.length = k.length
      · have hs : serr l k = 0 := by simp [serr, c2, c3, c4, firstI]
        rcases rerr_cases x y with c1 | c1
        · simp [c1, c2, c3, c4, hs, F13_eq x y l c1 c2, F12_refl (folL y x l) (by rw [folL_length]; omega), F14_eq l k c2 c3 c4.symm, bind2, bind3, bind4]
        · simp [c1, c2, c3, c4, hs, F14_eq l k c2 c3 c4.symm, bind2, bind3, bind4]
      · have hs : serr l k = 10 := by simp [serr, c2, c3, c4, firstI]
        have c4' : ¬ (l.length : Int) = (k.length : Int) := by omega
        rcases rerr_cases x y with c1 | c1
        · simp [c1, c2, c3, c4, c4', hs, F13_eq x y l c1 c2, F12_refl (folL y x l) (by rw [folL_length]; omega), bind2, bind3, bind4]
        · simp [c1, c2, c3, c4, c4', hs, bind2, bind3, bind4]
    · have hs : serr l k = perr k := by simp [serr, c2, c3, firstI]
      rcases rerr_cases x y with c1 | c1
      · simp [c1, c2, c3, hs, F13_eq x y l c1 c2, F12_refl (folL y x l) (by rw [folL_length]; omega), bind2, bind3, bind4]
      · simp [c1, c2, c3, hs, bind2, bind3, bind4]
  · have hs : serr l k = perr l := by simp [serr, c2, firstI]
    rcases rerr_cases x y with c1 | c1
    · simp [c1, c2, hs, bind2, bind3, bind4]
    · simp [c1, c2, hs, bind2, bind3, bind4]
end Go.AI
