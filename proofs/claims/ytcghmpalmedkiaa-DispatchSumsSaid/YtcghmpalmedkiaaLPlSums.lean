import Derived.Test.YtcghmpalmedkiaaLAiP
import Derived.Test.YtcghmpalmedkiaaLWnF
section
/-
  THE PLAIN LAW OF DispatchActivations.
-/
set_option linter.unusedVariables false
set_option linter.unusedSimpArgs false
set_option maxRecDepth 100000
namespace Go.AI
def folds {τ A O : Type} (f : A → τ → A) (i : Nat) (x : τ) (a : A) : A ⊕ O := .inl (f a x)
theorem loopL_fold {τ A O : Type} (f : A → τ → A) (fin : A → O) : ∀ (l : List τ) (i : Nat) (a : A), loopL (folds f) fin l i a = fin (l.foldl f a) := by
  intro l
  induction l with
  | nil => intro i a; rfl
  | cons x l ih => intro i a; simp only [loopL, folds, List.foldl]; exact ih _ _
/-! ### small functions -/
def pok (x : Int) : Bool := decide (-1000000 ≤ x) && decide (x ≤ 1000000)
theorem pok_iff {x : Int} : pok x = true ↔ -1000000 ≤ x ∧ x ≤ 1000000 := by simp [pok]
theorem F27_eq (a b c : Int) : F27_0 a b c = some (decide (b ≤ a) && decide (a ≤ c)) := by
  unfold F27_0; by_cases h : b ≤ a <;> simp [h]
theorem F16_eq (a b c : Int) : F16_0 a b c = some (decide (b ≤ a) && decide (a ≤ c)) := by
  unfold F16_0; by_cases h : b ≤ a <;> simp [h]
theorem F26_eq (x : Int) : F26_0 x = some (pok x) := by
  unfold F26_0 F47_0; rw [aw_ok (by omega) (by omega), F27_eq]; simp [pok]
theorem F25_eq (b : Bool) (e : Int) : F25_0 b e = some (if b = true then 0 else e) := by
  unfold F25_0; cases b <;> rfl
def firstI : List Int → Int
  | [] => 0
  | x :: l => if x = 0 then firstI l else x
theorem F24_eq (l : List Int) (h : l.length < 100000) : F24_0 l = some (firstI l) := by
  have h1 := iter_list0 (step := S24l0_0 (l.length : Int) l) (fun i (_ : Unit) => (i : Int)) l (fun _ x _ => if x = 0 then .inl () else .inr (.inr x)) (fun _ => .inl ()) (fun _ _ => True)
    (fun a _ => by simp [S24l0_0]) (fun i x a hx hi _ => by
      refine ⟨?_, fun _ _ => trivial⟩
      simp only [S24l0_0, if_neg (show ¬ (l.length : Int) ≤ (i : Int) by omega), geti_at hx]
      rw [aw_ok (by omega) (by omega)]
      by_cases h : x = 0 <;> simp [h]) (by omega) () trivial
  unfold F24_0 L24l0_0
  have h0 : iter (S24l0_0 (l.length : Int) l) 1000000 0 = _ := h1
  rw [h0]
  clear h1 h0
  have key : ∀ (l : List Int) (i : Nat), (loopL (fun _ x _ => if x = 0 then .inl () else .inr (.inr x)) (fun _ => .inl ()) l i () : Unit ⊕ Int) = .inl () ∧ firstI l = 0 ∨ (loopL (fun _ x _ => if x = 0 then .inl () else .inr (.inr x)) (fun _ => .inl ()) l i () : Unit ⊕ Int) = .inr (firstI l) := by
    intro l
    induction l with
    | nil => intro i; exact .inl ⟨rfl, rfl⟩
    | cons x l ih =>
      intro i
      by_cases h : x = 0
      · simp only [loopL, firstI, if_pos h]; exact ih (i + 1)
      · right; simp only [loopL, firstI, if_neg h]
  rcases key l 0 with ⟨k1, k2⟩ | k1
  · rw [k1, k2]; rfl
  · rw [k1]; rfl
/-! ### valid powers -/
def perr (l : List Int) : Int := if l.length ≤ 300 then (if l.all pok = true then 0 else 2) else 8
def bodyP (_ : Nat) (x : Int) (_ : Unit) : Unit ⊕ (Unit ⊕ Unit) := if pok x = true then .inl () else .inr (.inr ())
theorem loopP_eq : ∀ (l : List Int) (i : Nat), loopL bodyP (fun _ => .inl ()) l i () = if l.all pok = true then .inl () else .inr () := by
  intro l
  induction l with
  | nil => intro i; rfl
  | cons x l ih =>
    intro i
    by_cases h : pok x = true
    · have hb : bodyP i x () = .inl () := if_pos h
      simp only [loopL, hb, ih, List.all_cons, h, Bool.true_and]
    · have hb : bodyP i x () = .inr (.inr ()) := if_neg h
      simp only [loopL, hb, List.all_cons]; simp [h]
theorem F11_eq (l : List Int) : F11_0 l = some (perr l) := by
  unfold F11_0 perr
  by_cases hl : l.length ≤ 300
  · rw [if_pos (by omega), if_pos hl]
    have h1 := iter_list0 (step := S11l0_0 l) (fun i (_ : Unit) => (i : Int)) l bodyP (fun _ => .inl ()) (fun _ _ => True)
      (fun a _ => by simp [S11l0_0]) (fun i x a hx hi _ => by
        refine ⟨?_, fun _ _ => trivial⟩
        simp only [S11l0_0, if_neg (show ¬ (l.length : Int) ≤ (i : Int) by omega), geti_at hx, F16_eq, Option.bind_some]
        rw [aw_ok (by omega) (by omega)]
        unfold bodyP pok
        split <;> simp_all) (by omega) () trivial
    rw [loopP_eq] at h1
    unfold L11l0_0
    have h0 : iter (S11l0_0 l) 1000000 0 = _ := h1
    rw [h0]
    by_cases h2 : l.all pok = true
    · rw [if_pos h2, if_pos h2]; rfl
    · rw [if_neg h2, if_neg h2]; rfl
  · rw [if_neg (by omega), if_neg hl]
def bodyQ (i : Nat) (x : Int) (_ : Unit) : Unit ⊕ (Unit ⊕ Int) := if pok x = true then .inl () else .inr (.inr (i : Int))
theorem loopQ_eq : ∀ (l : List Int) (i : Nat), (l.all pok = true ∧ loopL bodyQ (fun _ => .inl ()) l i () = .inl ()) ∨ (l.all pok = false ∧ ∃ k : Nat, loopL bodyQ (fun _ => .inl ()) l i () = .inr (k : Int)) := by
  intro l
  induction l with
  | nil => intro i; exact .inl ⟨rfl, rfl⟩
  | cons x l ih =>
    intro i
    by_cases h : pok x = true
    · have hb : bodyQ i x () = .inl () := if_pos h
      simp only [loopL, hb, List.all_cons, h, Bool.true_and]; exact ih (i + 1)
    · have hb : bodyQ i x () = .inr (.inr (i : Int)) := if_neg h
      right; simp only [loopL, hb, List.all_cons]; exact ⟨by simp [h], i, rfl⟩
theorem F48_eq (l : List Int) (hl : l.length < 100000) : F48_0 l = some (!l.all pok) := by
  unfold F48_0 F62_0 L62l0_0
  have h1 := iter_list0 (step := S62l0_0 (l.length : Int) l) (fun i (_ : Unit) => (i : Int)) l bodyQ (fun _ => .inl ()) (fun _ _ => True)
    (fun a _ => by simp [S62l0_0]) (fun i x a hx hi _ => by
      refine ⟨?_, fun _ _ => trivial⟩
      simp only [S62l0_0, if_neg (show ¬ (l.length : Int) ≤ (i : Int) by omega), geti_at hx, F49_0, F26_eq, Option.bind_some]
      rw [aw_ok (by omega) (by omega)]
      unfold bodyQ
      by_cases h : pok x = true <;> simp [h]) (by omega) () trivial
  have h0 : iter (S62l0_0 (l.length : Int) l) 1000000 0 = _ := h1
  rw [h0]
  rcases loopQ_eq l 0 with ⟨a, b⟩ | ⟨a, k, b⟩
  · rw [b, a]; rfl
  · rw [b, a]; simp
theorem F28_eq (l : List Int) (hl : l.length < 100000) : F28_0 l = some (perr l) := by
  unfold F28_0
  rw [F48_eq l hl]
  simp only [Option.bind_some, F25_eq, F24_eq _ (show ([_, _] : List Int).length < 100000 by simp)]
  unfold perr firstI firstI
  by_cases h : l.length ≤ 300
  · by_cases h2 : l.all pok = true <;> simp [h, h2, show (l.length : Int) ≤ 300 by omega, firstI]
  · simp [h, show ¬ (l.length : Int) ≤ 300 by omega]
/-! ### what follows -/
def stp (r s w : Int) : Int := min (max w (s - r)) (s + r)
def folL (r : Int) : Int → List Int → List Int
  | _, [] => []
  | s, w :: l => stp r s w :: folL r (stp r s w) l
theorem folL_length (r : Int) : ∀ (l : List Int) (s : Int), (folL r s l).length = l.length := by
  intro l
  induction l with
  | nil => intro s; rfl
  | cons w l ih => intro s; simp [folL, ih]
def folF (r : Int) (a : Int × List Int) (x : Int) : Int × List Int := (stp r a.1 x, a.2 ++ [stp r a.1 x])
theorem fold_fol (r : Int) : ∀ (l : List Int) (s : Int) (o : List Int), (l.foldl (folF r) (s, o)).2 = o ++ folL r s l := by
  intro l
  induction l with
  | nil => intro s o; simp [folL]
  | cons x l ih => intro s o; simp only [List.foldl, folF, folL]; rw [ih]; simp
def FInv (i : Nat) (a : Int × List Int) : Prop := a.2.length = i ∧ -1000000 ≤ a.1 ∧ a.1 ≤ 1000000
theorem L7l0_eq (r s : Int) (l : List Int) (hl : l.length ≤ 300) (hp : l.all pok = true) (hr0 : 0 ≤ r) (hr : r ≤ 1000000) (hs : -1000000 ≤ s) (hs2 : s ≤ 1000000) :
    L7l0_0 r (l.length : Int) l (s, 0, []) = some (folL r s l) := by
  have h1 := iter_list0 (step := S7l0_0 r (l.length : Int) l) (fun i (a : Int × List Int) => (a.1, (i : Int), a.2)) l (folds (folF r)) (fun a => a.2) FInv
    (fun a _ => by simp [S7l0_0]) (fun i x a hx hi hI => by
      obtain ⟨h2, h3, h4⟩ := hI
      have hpx := pok_iff.1 (List.all_eq_true.1 hp x (List.mem_of_getElem? hx))
      refine ⟨?_, fun a' ha' => ?_⟩
      · simp only [S7l0_0, if_neg (show ¬ (l.length : Int) ≤ (i : Int) by omega), geti_at hx]
        simp (disch := omega) only [aw_ok]
        rw [room_le (by omega)]
        simp [folds, folF, stp]
      · simp only [folds, Sum.inl.injEq] at ha'
        subst ha'
        refine ⟨by simp [folF, h2], ?_, ?_⟩ <;> (simp only [folF, stp]; omega)) (by omega) (s, []) ⟨rfl, hs, hs2⟩
  rw [loopL_fold, fold_fol] at h1
  exact h1
def rerr (s r : Int) : Int := if pok s = true ∧ 0 ≤ r ∧ r ≤ 1000000 then 0 else 2
theorem F10_eq (s r : Int) : F10_0 s r = some (rerr s r) := by
  unfold F10_0 rerr
  simp only [F16_eq, Option.bind_some]
  by_cases h : pok s = true
  · rw [if_pos (by simpa [pok] using h)]
    by_cases h2 : 0 ≤ r ∧ r ≤ 1000000
    · rw [if_pos (by simp [h2]), if_pos ⟨h, h2⟩]
    · rw [if_neg (by simpa using h2), if_neg (fun k => h2 k.2)]
  · rw [if_neg (by simpa [pok] using h), if_neg (fun k => h k.1)]
theorem F7_eq (s r : Int) (l : List Int) (hl : l.length ≤ 302) : F7_0 s r l = some (if rerr s r ≠ 0 then (2, []) else if perr l ≠ 0 then (perr l, []) else (0, folL r s l)) := by
  have hp : perr l = 0 → l.length ≤ 300 ∧ l.all pok = true := by
    unfold perr; split
    · split
      · intro _; exact ⟨by assumption, by assumption⟩
      · intro h; cases h
    · intro h; cases h
  unfold F7_0 rerr
  rw [F26_eq]
  simp only [Option.bind_some, F27_eq, F25_eq, F28_eq l (by omega), F24_eq _ (show ([_, _] : List Int).length < 100000 by simp)]
  by_cases h : pok s = true
  · have hs := pok_iff.1 h
    by_cases h2 : 0 ≤ r ∧ r ≤ 1000000
    · by_cases h3 : perr l = 0
      · simp [h, h2, h3, firstI, L7l0_eq r s l (hp h3).1 (hp h3).2 h2.1 h2.2 hs.1 hs.2]
      · simp [h, h2, h3, firstI]
    · have h4 : ¬ ((decide (0 ≤ r) && decide (r ≤ 1000000)) = true) := by simpa using h2
      simp only [if_pos h, if_neg h4, if_neg (show ¬ (pok s = true ∧ 0 ≤ r ∧ r ≤ 1000000) from fun k => h2 k.2)]
      simp [firstI]
  · simp only [if_neg h, if_neg (show ¬ (pok s = true ∧ 0 ≤ r ∧ r ≤ 1000000) from fun k => h k.1)]
    simp [firstI]
/-! ### what is settled -/
def given (x m : Int) : Int := if 0 < x ∧ 0 < m ∨ x < 0 ∧ m < 0 then min (max x (-x)) (max m (-m)) else 0
def setF (a : Int × Int × Int) (p : Int × Int) : Int × Int × Int := (a.1 + given p.1 p.2, a.2.1 + (max p.1 (-p.1) - given p.1 p.2), a.2.2 + (max p.2 (-p.2) - given p.1 p.2))
def setL (w m : List Int) : Int × Int × Int := (w.zip m).foldl setF (0, 0, 0)
theorem F29_eq {x : Int} (h : -1000000 ≤ x) (h2 : x ≤ 1000000) : F29_0 x = some (max x (-x)) := by
  unfold F29_0; rw [aw_ok (by omega) (by omega), Int.zero_sub]
theorem F15_eq {x : Int} (h : -1000000000 ≤ x) (h2 : x ≤ 1000000000) : F15_0 x = some (max x (-x)) := by
  unfold F15_0; rw [aw_ok (by omega) (by omega), Int.zero_sub]
def SInv (i : Nat) (a : Int × Int × Int) : Prop := 0 ≤ a.1 ∧ a.1 ≤ 1000000 * i ∧ 0 ≤ a.2.1 ∧ a.2.1 ≤ 1000000 * i ∧ 0 ≤ a.2.2 ∧ a.2.2 ≤ 1000000 * i
theorem given_le {x m : Int} : 0 ≤ given x m ∧ given x m ≤ max x (-x) ∧ given x m ≤ max m (-m) := by
  unfold given; split <;> omega
theorem zip_at {w m : List Int} {i : Nat} {p : Int × Int} (h : (w.zip m)[i]? = some p) : w[i]? = some p.1 ∧ m[i]? = some p.2 := by
  simpa using List.getElem?_zip_eq_some.1 h
theorem SInv.step {i : Nat} {a : Int × Int × Int} {p : Int × Int} (h : SInv i a) (h1 : pok p.1 = true) (h2 : pok p.2 = true) : SInv (i + 1) (setF a p) := by
  have := @given_le p.1 p.2
  have h1 := pok_iff.1 h1
  have h2 := pok_iff.1 h2
  obtain ⟨a1, a2, a3, a4, a5, a6⟩ := h
  refine ⟨?_, ?_, ?_, ?_, ?_, ?_⟩ <;> (simp only [setF]; omega)
theorem L9l0_eq (w m : List Int) (hl : w.length ≤ 300) (he : m.length = w.length) (hw : w.all pok = true) (hm : m.all pok = true) :
    L9l0_0 (w.length : Int) w m (0, 0, 0, 0) = some (setL w m) := by
  have hz : (w.zip m).length = w.length := by simp [he]
  have h1 := iter_list0 (step := S9l0_0 (w.length : Int) w m) (fun i (a : Int × Int × Int) => ((i : Int), a.1, a.2.1, a.2.2)) (w.zip m) (folds setF) (fun a => a) SInv
    (fun a _ => by simp [S9l0_0, hz]) (fun i p a hx hi hI => by
      obtain ⟨hx1, hx2⟩ := zip_at hx
      have p1 := List.all_eq_true.1 hw _ (List.mem_of_getElem? hx1)
      have p2 := List.all_eq_true.1 hm _ (List.mem_of_getElem? hx2)
      refine ⟨?_, fun a' ha' => by simp only [folds, Sum.inl.injEq] at ha'; subst ha'; exact hI.step p1 p2⟩
      have p1 := pok_iff.1 p1
      have p2 := pok_iff.1 p2
      obtain ⟨a1, a2, a3, a4, a5, a6⟩ := hI
      obtain ⟨x, y⟩ := p
      dsimp only at *
      simp only [S9l0_0, if_neg (show ¬ (w.length : Int) ≤ (i : Int) by omega), geti_at hx1, geti_at hx2, F29_eq p1.1 p1.2, F29_eq p2.1 p2.2, Option.bind_some]
      simp (disch := omega) only [aw_ok]
      by_cases c1 : x ≤ 0 <;> by_cases c2 : 0 ≤ x <;> by_cases c3 : y ≤ 0 <;> by_cases c4 : 0 ≤ y <;>
        simp only [c1, c2, c3, c4, if_true, if_false, ↓reduceIte, folds, setF, given, Option.some.injEq, Sum.inl.injEq, Prod.mk.injEq] <;> (refine ⟨?_, ?_, ?_, ?_⟩ <;> first | rfl | (split <;> omega) | omega)) (by omega) (0, 0, 0) ⟨by simp, by simp, by simp, by simp, by simp, by simp⟩
  rw [loopL_fold] at h1
  exact h1
theorem perr0 {l : List Int} (h : perr l = 0) : l.length ≤ 300 ∧ l.all pok = true := by
  unfold perr at h
  split at h
  · split at h
    · exact ⟨by assumption, by assumption⟩
    · cases h
  · cases h
def serr (w m : List Int) : Int := firstI [perr w, perr m, if w.length = m.length then 0 else 10]
theorem F9_eq (w m : List Int) (hl : w.length ≤ 302) (hl2 : m.length ≤ 302) :
    F9_0 w m = some (if serr w m = 0 then ((setL w m).1, (setL w m).2.1, (setL w m).2.2, 0) else (0, 0, 0, serr w m)) := by
  unfold F9_0
  rw [F28_eq w (by omega), F28_eq m (by omega)]
  simp only [Option.bind_some, F25_eq, F24_eq _ (show ([_, _, _] : List Int).length < 100000 by simp)]
  have hd : (if decide ((w.length : Int) = (m.length : Int)) = true then (0 : Int) else 10) = if w.length = m.length then 0 else 10 := by
    by_cases h : w.length = m.length
    · simp [h]
    · rw [if_neg h, if_neg (by simp; omega)]
  rw [hd]
  show (if serr w m = 0 then _ else _) = _
  by_cases h : serr w m = 0
  · rw [if_pos h, if_pos h]
    have h' := h
    unfold serr at h'
    simp only [firstI] at h'
    by_cases hw : perr w = 0
    · by_cases hm : perr m = 0
      · have he : m.length = w.length := by
          by_cases he : w.length = m.length
          · exact he.symm
          · simp [hw, hm, he] at h'
        rw [L9l0_eq w m (perr0 hw).1 he (perr0 hw).2 (perr0 hm).2]; rfl
      · simp [hw, hm] at h'
    · simp [hw] at h'
  · rw [if_neg h, if_neg h]; rfl
/-! ### equal lists -/
theorem F8_le {l : List Int} (h : l.length ≤ 302) : F8_0 l = some () := by unfold F8_0; rw [room_le (by omega)]
end Go.AI
end
section
/-
  THE PLAIN LAW OF DispatchSums.
-/
set_option linter.unusedVariables false
set_option linter.unusedSimpArgs false
set_option maxRecDepth 100000
namespace Go.AI
def absI (x : Int) : Int := max x (-x)
def sE : List (Int × Int) → Int
  | [] => 0
  | p :: l => given p.1 p.2 + sE l
def sW : List (Int × Int) → Int
  | [] => 0
  | p :: l => absI p.1 + sW l
def sM : List (Int × Int) → Int
  | [] => 0
  | p :: l => absI p.2 + sM l
theorem fold_set : ∀ (l : List (Int × Int)) (a : Int × Int × Int), l.foldl setF a = (a.1 + sE l, a.2.1 + (sW l - sE l), a.2.2 + (sM l - sE l)) := by
  intro l
  induction l with
  | nil => intro a; simp [sE, sW, sM]
  | cons p l ih =>
    intro a
    rw [List.foldl, ih]
    simp only [setF, sE, sW, sM, absI, Prod.mk.injEq]
    refine ⟨by omega, by omega, by omega⟩
theorem setL_eq (w m : List Int) : setL w m = (sE (w.zip m), sW (w.zip m) - sE (w.zip m), sM (w.zip m) - sE (w.zip m)) := by
  unfold setL; rw [fold_set]; simp
theorem s_append : ∀ (l k : List (Int × Int)), sE (l ++ k) = sE l + sE k ∧ sW (l ++ k) = sW l + sW k ∧ sM (l ++ k) = sM l + sM k := by
  intro l k
  induction l with
  | nil => simp [sE, sW, sM]
  | cons p l ih => obtain ⟨h1, h2, h3⟩ := ih; simp only [List.cons_append, sE, sW, sM, h1, h2, h3]; omega
theorem s_le : ∀ (l : List (Int × Int)), 0 ≤ sE l ∧ sE l ≤ sW l ∧ sE l ≤ sM l := by
  intro l
  induction l with
  | nil => simp [sE, sW, sM]
  | cons p l ih => have := @given_le p.1 p.2; simp only [sE, sW, sM, absI]; omega
theorem s_bound (n : Nat) : ∀ (l : List (Int × Int)), (∀ p ∈ l, pok p.1 = true ∧ pok p.2 = true) → sW l ≤ 1000000 * l.length ∧ sM l ≤ 1000000 * l.length := by
  intro l
  induction l with
  | nil => intro _; simp [sW, sM]
  | cons p l ih =>
    intro h
    have h1 := ih fun q hq => h q (List.mem_cons_of_mem _ hq)
    have h2 := h p (List.mem_cons_self)
    have h3 := pok_iff.1 h2.1
    have h4 := pok_iff.1 h2.2
    simp only [sW, sM, absI, List.length_cons]
    omega
theorem given_self (x : Int) : given x x = absI x := by unfold given absI; split <;> omega
theorem s_self : ∀ (w : List Int), sE (w.zip w) = sW (w.zip w) ∧ sM (w.zip w) = sW (w.zip w) := by
  intro w
  induction w with
  | nil => exact ⟨rfl, rfl⟩
  | cons x w ih => simp only [List.zip_cons_cons, sE, sW, sM, given_self]; omega
theorem sW_zip : ∀ (w m : List Int), m.length = w.length → sW (w.zip m) = sW (w.zip w) := by
  intro w
  induction w with
  | nil => intro m _; rfl
  | cons x w ih =>
    intro m h
    cases m with
    | nil => cases h
    | cons y m => simp only [List.zip_cons_cons, sW]; rw [ih m (by simpa using h)]
/-! ### what follows never runs -/
def SFin (a : Int × Int × Int) : (Int × Int) ⊕ (Int × Int) := .inl (a.1, a.2.1)
def sF (r : Int) (a : Int × Int × Int) (p : Int × Int) : Int × Int × Int := (a.1 + absI p.1, a.2.1 + absI p.2, stp r a.2.2 p.1)
theorem fold_sF (r : Int) : ∀ (l : List (Int × Int)) (a : Int × Int × Int), (l.foldl (sF r) a).1 = a.1 + sW l ∧ (l.foldl (sF r) a).2.1 = a.2.1 + sM l := by
  intro l
  induction l with
  | nil => intro a; simp [sW, sM]
  | cons p l ih => intro a; obtain ⟨h1, h2⟩ := ih (sF r a p); rw [List.foldl, h1, h2]; simp only [sF, sW, sM]; omega
structure SI (r : Int) (w l : List Int) (i : Nat) (a : Int × Int × Int) : Prop where
  want : 0 ≤ a.1 ∧ a.1 ≤ 1000000 * i
  given : 0 ≤ a.2.1 ∧ a.2.1 ≤ 1000000 * i
  now : -1000000 ≤ a.2.2 ∧ a.2.2 ≤ 1000000
  rest : l.drop i = folL r a.2.2 (w.drop i)
theorem L4l0_eq (s r : Int) (w m : List Int) (q1 q2 q3 q4 q5 q6 : Int) (hl : w.length ≤ 300) (he : m.length = w.length) (hw : w.all pok = true) (hm : m.all pok = true) (hr0 : 0 ≤ r) (hr : r ≤ 1000000) (hs : -1000000 ≤ s) (hs2 : s ≤ 1000000) :
    L4l0_0 w m s r q1 q2 q3 (folL r s w) q4 q5 q6 (0, 0, s, 0) = some (.inl (sW (w.zip m), sM (w.zip m))) := by
  have hz : (w.zip m).length = w.length := by simp [he]
  have h1 := iter_list0 (step := S4l0_0 w m s r q1 q2 q3 (folL r s w) q4 q5 q6) (fun i (a : Int × Int × Int) => (a.1, a.2.1, a.2.2, (i : Int))) (w.zip m) (folds (sF r)) SFin (SI r w (folL r s w))
    (fun a _ => by simp [S4l0_0, hz, SFin]) (fun i p a hx hi hI => by
      obtain ⟨hx1, hx2⟩ := zip_at hx
      have p1 := pok_iff.1 (List.all_eq_true.1 hw _ (List.mem_of_getElem? hx1))
      have p2 := pok_iff.1 (List.all_eq_true.1 hm _ (List.mem_of_getElem? hx2))
      obtain ⟨⟨a1, a2⟩, ⟨a3, a4⟩, ⟨a5, a6⟩, a7⟩ := hI
      obtain ⟨x, y⟩ := p
      dsimp only at *
      have hiw : i < w.length := by omega
      have hdr : w.drop i = x :: w.drop (i + 1) := by
        rw [List.drop_eq_getElem_cons hiw]
        congr 1
        rw [List.getElem?_eq_getElem hiw] at hx1; exact Option.some.inj hx1
      rw [hdr, folL] at a7
      have hl0 : (folL r s w)[i]? = some (stp r a.2.2 x) := by
        have := congrArg (fun l => l[0]?) a7
        simpa using this
      have hl1 : (folL r s w).drop (i + 1) = folL r (stp r a.2.2 x) (w.drop (i + 1)) := by
        have := congrArg List.tail a7
        simpa using this
      have hst : stp r a.2.2 x = min (max x (a.2.2 - r)) (a.2.2 + r) := rfl
      refine ⟨?_, fun a' ha' => ?_⟩
      · simp only [S4l0_0, if_neg (show ¬ (w.length : Int) ≤ (i : Int) by omega), geti_at hx1, geti_at hx2, geti_at hl0, F15_eq (x := x) (by omega) (by omega), F15_eq (x := y) (by omega) (by omega), Option.bind_some, F16_eq]
        simp (disch := omega) only [aw_ok]
        rw [if_pos (by simp only [Bool.and_eq_true, decide_eq_true_eq]; omega)]
        by_cases hxe : stp r a.2.2 x = x
        · rw [if_pos hxe]; simp only [folds, sF, absI]; rfl
        · rw [if_neg hxe, F15_eq (by omega) (by omega), Option.bind_some, if_pos (by omega)]; simp only [folds, sF, absI]; rfl
      · simp only [folds, Sum.inl.injEq] at ha'
        subst ha'
        refine ⟨?_, ?_, ?_, hl1⟩ <;> (simp only [sF, absI]; omega)) (by omega) (0, 0, s) ⟨by simp, by simp, ⟨hs, hs2⟩, by simp⟩
  rw [loopL_fold] at h1
  obtain ⟨h2, h3⟩ := fold_sF r (w.zip m) (0, 0, s)
  unfold SFin at h1
  rw [h2, h3] at h1
  simp only [Int.zero_add] at h1
  exact h1
/-! ### eighty times the same -/
theorem L4l1_eq (w m : List Int) (s r x : Int) (hx : w[0]? = some x) : L4l1_0 w m s r (0, []) = some (List.replicate 80 x) := by
  have h1 := iter_list0 (step := S4l1_0 w m s r) (fun i (a : List Int) => ((i : Int), a)) (List.replicate 80 ()) (folds fun a _ => a ++ [x]) (fun a => a) (fun i a => a.length = i)
    (fun a _ => by simp [S4l1_0]) (fun i p a _ hi hI => by
      rw [List.length_replicate] at hi
      refine ⟨?_, fun a' ha' => ?_⟩
      · have hg := geti_at (i := 0) hx (γ := (Int × List Int) ⊕ List Int) 
        simp only [S4l1_0, if_neg (show ¬ 80 ≤ (i : Int) by omega)]
        rw [show (0 : Int) = ((0 : Nat) : Int) from rfl, hg]
        simp (disch := omega) only [aw_ok]
        rw [room_le (by omega)]
        rfl
      · simp only [folds, Sum.inl.injEq] at ha'
        subst ha'; simp [hI]) (by simp) [] rfl
  rw [loopL_fold] at h1
  have key : ∀ (n : Nat) (a : List Int), (List.replicate n ()).foldl (fun a _ => a ++ [x]) a = a ++ List.replicate n x := by
    intro n
    induction n with
    | zero => intro a; simp
    | succ n ih => intro a; rw [List.replicate_succ, List.foldl, ih, List.replicate_succ]; simp
  rw [key, List.nil_append] at h1
  exact h1
theorem fol_rest (r x : Int) (hr : 0 ≤ r) : ∀ (n : Nat) (s : Int), absI (x - s) ≤ (n + 1 : Nat) * r → (folL r s (List.replicate (n + 1) x))[n]? = some x := by
  intro n
  induction n with
  | zero =>
    intro s h
    have h : absI (x - s) ≤ r := by simpa using h
    have : stp r s x = x := by unfold stp; unfold absI at h; omega
    simp [List.replicate_succ, folL, this]
  | succ n ih =>
    intro s h
    rw [List.replicate_succ, folL, List.getElem?_cons_succ]
    refine ih _ ?_
    have e : ((n + 1 + 1 : Nat) : Int) * r = (n + 1 : Nat) * r + r := by
      rw [show ((n + 1 + 1 : Nat) : Int) = (n + 1 : Nat) + 1 from by omega, Int.add_mul, Int.one_mul]
    rw [e] at h
    have hn : 0 ≤ ((n + 1 : Nat) : Int) * r := Int.mul_nonneg (by omega) hr
    generalize ((n + 1 : Nat) : Int) * r = q at h hn
    unfold absI at h ⊢
    unfold stp
    omega
theorem all_take {l : List Int} (h : l.all pok = true) (n : Nat) : (l.take n).all pok = true := List.all_eq_true.2 fun x hx => List.all_eq_true.1 h x (List.mem_of_mem_take hx)
theorem all_drop {l : List Int} (h : l.all pok = true) (n : Nat) : (l.drop n).all pok = true := List.all_eq_true.2 fun x hx => List.all_eq_true.1 h x (List.mem_of_mem_drop hx)
theorem perr_ok {l : List Int} (h : l.length ≤ 300) (h2 : l.all pok = true) : perr l = 0 := by unfold perr; rw [if_pos h, if_pos h2]
theorem serr_ok {w m : List Int} (hw : perr w = 0) (hm : perr m = 0) (he : m.length = w.length) : serr w m = 0 := by simp [serr, hw, hm, he, firstI]
theorem F9_ok {w m : List Int} (hw : perr w = 0) (hm : perr m = 0) (he : m.length = w.length) : F9_0 w m = some (sE (w.zip m), sW (w.zip m) - sE (w.zip m), sM (w.zip m) - sE (w.zip m), 0) := by
  rw [F9_eq w m (by have := (perr0 hw).1; omega) (by have := (perr0 hm).1; omega), if_pos (serr_ok hw hm he), setL_eq]
theorem rerr0 {s r : Int} (h : rerr s r = 0) : (-1000000 ≤ s ∧ s ≤ 1000000) ∧ 0 ≤ r ∧ r ≤ 1000000 := by
  unfold rerr at h
  split at h
  · rename_i k; exact ⟨pok_iff.1 k.1, k.2⟩
  · cases h
theorem F7_ok {s r : Int} {l : List Int} (h : rerr s r = 0) (hp : perr l = 0) : F7_0 s r l = some (0, folL r s l) := by
  rw [F7_eq s r l (by have := (perr0 hp).1; omega), if_neg (by simp [h]), if_neg (by simp [hp])]
theorem part0 {l : List Int} {n : Nat} (h : n ≤ l.length) (hl : l.length ≤ 300) : F8_1 n l.length l = some (l.take n) := by
  unfold F8_1 partL
  rw [if_pos (by omega), Option.bind_some, room_le (by omega)]; simp
theorem part1 {l : List Int} {n : Nat} (h : n ≤ l.length) (hl : l.length ≤ 300) : F8_2 n (l.length - n) (l.length - n) l = some (l.drop n) := by
  unfold F8_2 partL
  rw [if_pos (by omega), Option.bind_some, room_le (by omega)]
  congr 1
  rw [List.take_of_length_le (by simp)]
theorem zip_mem {w m : List Int} {p : Int × Int} (h : p ∈ w.zip m) : p.1 ∈ w ∧ p.2 ∈ m := List.of_mem_zip (by exact h)
theorem plainDispatchSums (x y : Int) (l k : List Int) : F4_0 x y l k = some true := by
  unfold F4_0
  by_cases hl : l.length ≤ 80
  case neg => rw [if_neg (by omega)]
  rw [if_pos (by omega)]
  by_cases he : k.length = l.length
  case neg => rw [if_neg (by omega)]
  rw [if_pos (by omega), F11_eq, Option.bind_some]
  by_cases hp : perr l = 0
  case neg => rw [if_neg hp]
  rw [if_pos hp, F11_eq, Option.bind_some]
  by_cases hq : perr k = 0
  case neg => rw [if_neg hq]
  rw [if_pos hq, F10_eq, Option.bind_some]
  by_cases hr : rerr x y = 0
  case neg => rw [if_neg hr]
  rw [if_pos hr, F8_le (by omega), F8_le (by omega)]
  obtain ⟨hx, hy⟩ := rerr0 hr
  have hpl := (perr0 hp).2
  have hql := (perr0 hq).2
  have hh : aw .i64 (Int.tdiv (l.length : Int) 2) = ((l.length / 2 : Nat) : Int) := by
    rw [Int.tdiv_eq_ediv_of_nonneg (by omega), aw_ok (by omega) (by omega)]; omega
  have hn : l.length / 2 ≤ l.length := by omega
  generalize l.length / 2 = n at hh hn
  simp only [Option.bind_some, hh, inx_nat (show n < l.length + 1 by omega), inx_nat (show n < k.length + 1 by omega), part0 hn (by omega), part0 (l := k) (n := n) (by omega) (by omega), part1 hn (by omega), part1 (l := k) (n := n) (by omega) (by omega)]
  have ht := perr_ok (l := l.take n) (by simp; omega) (all_take hpl n)
  have ht' := perr_ok (l := k.take n) (by simp; omega) (all_take hql n)
  have hd := perr_ok (l := l.drop n) (by simp; omega) (all_drop hpl n)
  have hd' := perr_ok (l := k.drop n) (by simp; omega) (all_drop hql n)
  have hzip : l.zip k = (l.take n).zip (k.take n) ++ (l.drop n).zip (k.drop n) := by
    rw [← List.zip_append (by simp; omega), List.take_append_drop, List.take_append_drop]
  rw [F9_ok hp hq he, F9_ok ht ht' (by simp; omega), F9_ok hd hd' (by simp; omega), F9_ok hp hp rfl, F7_ok hr hp]
  have b1 := s_append ((l.take n).zip (k.take n)) ((l.drop n).zip (k.drop n))
  rw [← hzip] at b1
  have b2 := s_le (l.zip k)
  have b3 := s_le ((l.take n).zip (k.take n))
  have b4 := s_le ((l.drop n).zip (k.drop n))
  have b5 := s_bound 0 (l.zip k) fun p h => ⟨List.all_eq_true.1 hpl _ (zip_mem h).1, List.all_eq_true.1 hql _ (zip_mem h).2⟩
  have b6 : ((l.zip k).length : Int) ≤ 80 := by simp; omega
  have b7 := s_self l
  have b8 := sW_zip l k he
  have b9 := L4l0_eq x y l k
  generalize sE ((l.take n).zip (k.take n)) = e1 at *
  generalize sE ((l.drop n).zip (k.drop n)) = e2 at *
  generalize sW ((l.take n).zip (k.take n)) = w1 at *
  generalize sW ((l.drop n).zip (k.drop n)) = w2 at *
  generalize sM ((l.take n).zip (k.take n)) = m1 at *
  generalize sM ((l.drop n).zip (k.drop n)) = m2 at *
  simp only [bind2, bind4, Option.bind_some, if_true, ↓reduceIte, folL_length]
  rw [aw_ok (n := e1 + e2) (by omega) (by omega), aw_ok (n := w1 - e1 + (w2 - e2)) (by omega) (by omega), aw_ok (n := m1 - e1 + (m2 - e2)) (by omega) (by omega),
    if_pos b1.1, if_pos (by omega), if_pos (by omega), if_pos (by omega), if_pos (by omega), if_pos (by omega),
    b9 _ _ _ _ _ _ (by omega) he hpl hql hy.1 hy.2 hx.1 hx.2]
  simp only [Option.bind_some]
  rw [aw_ok (n := sE (l.zip k) + (sW (l.zip k) - sE (l.zip k))) (by omega) (by omega), aw_ok (n := sE (l.zip k) + (sM (l.zip k) - sE (l.zip k))) (by omega) (by omega),
    if_pos (by omega), if_pos (by omega), if_pos (by omega), if_pos (by omega), if_pos (by omega)]
  by_cases h0 : y = 0
  · rw [if_pos h0]
  rw [if_neg h0]
  by_cases hz : l.length = 0
  · rw [if_pos (by omega)]
  rw [if_neg (by omega)]
  obtain ⟨z, hz0⟩ : ∃ z, l[0]? = some z := ⟨l[0]'(by omega), List.getElem?_eq_getElem _⟩
  have hzp := pok_iff.1 (List.all_eq_true.1 hpl _ (List.mem_of_getElem? hz0))
  have hrep : perr (List.replicate 80 z) = 0 := perr_ok (by simp) (List.all_eq_true.2 fun q hq => by
    rw [List.mem_replicate] at hq; rw [hq.2]; exact pok_iff.2 hzp)
  have hg := geti_nat hz0
  rw [L4l1_eq l k x y z hz0, Option.bind_some, F7_ok hr hrep]
  simp only [Option.bind_some, ↓reduceIte, folL_length, List.length_replicate]
  rw [if_pos (by rfl), show geti l 0 = some (0, z) from hg]
  simp only [Option.bind_some]
  rw [aw_ok (n := z - x) (by omega) (by omega), F15_eq (by omega) (by omega), Option.bind_some, aw_ok (n := 80 * y) (by omega) (by omega)]
  by_cases hle : max (z - x) (-(z - x)) ≤ 80 * y
  · rw [if_pos hle]
    have hf := fol_rest y z hy.1 79 x (by unfold absI; simpa using hle)
    have hg2 := geti_nat hf
    rw [show geti (folL y x (List.replicate 80 z)) 79 = some (79, z) from hg2]
    simp
  · rw [if_neg hle]
end Go.AI
end
