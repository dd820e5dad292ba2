/-
  A REGION WHOSE ORDER IS OPEN: whatever order the machine takes, it comes to what the text's order comes to.
-/
import Derived.Test.YtcghmpalmedkiaaLAiLast
set_option linter.unusedVariables false
set_option linter.unusedSimpArgs false
namespace Go.AI
/-! ### guards, places, checks -/
def guardOk (ops : Array Oper) : Option (Nat × Bool) → Option (Nat × Bool) → Bool
  | none, none => true
  | some (t, b), some (i, b') => b == b' && (match ops[i]? with | some o => decide (o.dst = some t) | none => false)
  | _, _ => false
def dstOk (N : Nat) : Option Nat → Option Tmp → Bool
  | none, none => true
  | some d, some d' => d == d' && decide (d < N)
  | _, _ => false
def operOk (P : Program) (N : Nat) (ops : Array Oper) (x : AOper) (o : Oper) : Bool := dstOk N x.dst o.dst && guardOk ops x.guard o.guard && opOk P x.op o.op
def opersOk (P : Program) (N : Nat) (ops : Array Oper) : List AOper → List Oper → Bool
  | [], [] => true
  | x :: l, o :: os => operOk P N ops x o && opersOk P N ops l os
  | _, _ => false
def gts : Option (Nat × Bool) → List Nat
  | some (t, _) => [t]
  | none => []
def AOper.looks (o : AOper) : List Nat := o.op.ts ++ gts o.guard
def AOper.sort (o : AOper) : Nat := if o.op.kind = 0 then 0 else if o.op.kind = 1 then 1 else if o.q then (if o.op.kind = 2 then 2 else 3) else 4
noncomputable def apartD (x y : AOper) : Bool := (match x.dst with | some d => !(has d y.looks) && decide (y.dst ≠ some d) | none => true) && (match y.dst with | some d => !(has d x.looks) | none => true)
noncomputable def compat (i : Nat) (x y : AOper) : Bool := match x.sort, y.sort with
  | 0, _ | _, 0 | 1, 1 | 1, 3 => true
  | 1, 2 => x.q && has i y.inc
  | 2, 1 | 3, 1 | 4, 1 => y.q && has i y.inc
  | 3, 3 => has i y.inc
  | _, _ => false
section
variable {C : ACode → Code → Nat → Prop} {P : Program}
theorem ER.putD {ρ : Rho} {N : Nat} {e : Env} {a : Act} {d : Option Nat} {d' : Option Tmp} (h : ER ρ N e a.tmps) (hd : dstOk N d d' = true) {v : AVal} {x : Value} (hv : VR ρ v x) : ER ρ N (AI.put e d v) (a.put d' x).tmps := by
  unfold dstOk at hd
  split at hd
  · exact h
  · simp at hd
    obtain ⟨rfl, hd⟩ := hd
    exact h.put _ hd hv
  · cases hd
theorem wanted_run {ops : Array Oper} {ρ : Rho} {e : Env} {tmps : Array Value} {o : Oper} {g : Option (Nat × Bool)} {b : Bool} (hg : guardOk ops g o.guard = true) (hv : ∀ t ∈ gts g, VR ρ (eget e t) (tmps.getD t undef)) (h : wanted e g = some b) :
    Region.wanted o (yielded ops tmps) = b := by
  unfold Region.wanted
  unfold guardOk at hg
  split at hg
  · rename_i h1 h2; rw [h2]; cases h; rfl
  · rename_i t c i c' h2
    rw [h2]
    simp at hg
    obtain ⟨rfl, hg⟩ := hg
    split at hg
    · rename_i oo hoo
      simp at hg
      have hvt := hv t (by simp [gts])
      have h : Option.rec (isEmptyT (eget e t)) (fun b => some (beqB b c)) (asBool (eget e t)) = some b := h
      have hy : yielded ops tmps i = (match tmps[t]? with | some (.bool b) => some b | _ => none) := by
        unfold yielded
        rw [hoo]; simp only [Option.bind_some, hg]
        cases tmps[t]? with
        | none => rfl
        | some x => cases x <;> rfl
      simp only []
      rw [hy]
      cases hb : asBool (eget e t) with
      | some v =>
        rw [hb] at h; cases h
        rw [asBool_some hb] at hvt
        have : tmps[t]? = some (.bool v) := by
          rw [Array.getD_eq_getD_getElem?] at hvt
          cases ht : tmps[t]? with
          | none => rw [ht] at hvt; cases hvt
          | some x => rw [ht] at hvt; cases hvt; rfl
        rw [this]; cases v <;> cases c <;> rfl
      | none =>
        rw [hb] at h
        obtain ⟨cs, hcs, h⟩ := ob_eq (h : ob (asTup (eget e t)) _ = some b)
        rw [asTup_some hcs] at hvt
        cases cs with
        | nil =>
          cases h
          have : (match tmps[t]? with | some (.bool b) => some b | _ => none) = none := by
            rw [Array.getD_eq_getD_getElem?] at hvt
            cases ht : tmps[t]? with
            | none => rfl
            | some x => rw [ht] at hvt; cases hvt; rfl
          rw [this]; rfl
        | cons _ _ => cases h
    · cases hg
  · cases hg
/-! ### what is masked -/
theorem roAll_length (H : Heap) : (roAll H).length = H.length := by
  induction H with
  | nil => rfl
  | cons o H ih => exact congrArg (· + 1) ih
theorem roAll_get (H : Heap) (a : Nat) : hget (roAll H) a = (hget H a).ro := by
  induction H generalizing a with
  | nil => rfl
  | cons o H ih => cases a with
    | zero => rfl
    | succ a => exact ih a
theorem maskN_spec (n : Nat) (H : Heap) (x : Nat) : (maskN n H x).length = H.length ∧ (∀ a, hget (maskN n H x) a = hget H a ∨ hget (maskN n H x) a = .dead) ∧ ∀ a, x ≤ a → a < x + n → hget (maskN n H x) a = .dead := by
  induction n generalizing H x with
  | zero => exact ⟨rfl, fun a => .inl rfl, fun a h1 h2 => by omega⟩
  | succ n ih =>
    have h0 : maskN (n + 1) H x = maskN n (upd H x .dead) (x + 1) := rfl
    rw [h0, upd_eq]
    obtain ⟨h1, h2, h3⟩ := ih (H.set x .dead) (x + 1)
    have hd : ∀ a, hget (H.set x .dead) a = hget H a ∨ hget (H.set x .dead) a = .dead := fun a => by
      rcases Nat.lt_or_ge x H.length with h | h
      · rw [hget_set h]; split
        · exact .inr rfl
        · exact .inl rfl
      · rw [List.set_eq_of_length_le h]; exact .inl rfl
    refine ⟨by rw [h1, List.length_set], fun a => ?_, fun a ha hb => ?_⟩
    · rcases h2 a with h | h
      · rw [h]; exact hd a
      · exact .inr h
    · by_cases he : a = x
      · subst he
        rcases h2 a with h | h
        · rw [h]
          rcases Nat.lt_or_ge a H.length with h' | h'
          · rw [hget_set h', if_pos rfl]
          · exact hget_out (by rw [List.length_set]; exact h')
        · exact h
      · exact h3 a (by omega) (by omega)
theorem mask_cons (rs : List (Nat × Nat)) (i : Nat) (inc : List Nat) (H : Heap) : mask rs (i :: inc) H = (match rs[i]? with | some p => mask rs inc (maskN (p.2 - p.1) H p.1) | none => mask rs inc H) := by
  show (Option.rec (motive := fun _ => Heap) (mask rs inc H) (fun p => mask rs inc (maskN (Nat.sub p.2 p.1) H p.1)) (nth rs i)) = _
  rw [nth_eq]; cases rs[i]? <;> rfl
theorem mask_spec (rs : List (Nat × Nat)) (inc : List Nat) (H : Heap) : (mask rs inc H).length = H.length ∧ (∀ a, hget (mask rs inc H) a = hget H a ∨ hget (mask rs inc H) a = .dead) ∧
    ∀ j ∈ inc, ∀ x y, rs[j]? = some (x, y) → ∀ a, x ≤ a → a < y → hget (mask rs inc H) a = .dead := by
  induction inc generalizing H with
  | nil => exact ⟨rfl, fun a => .inl rfl, fun j hj => by cases hj⟩
  | cons i inc ih =>
    rw [mask_cons]
    cases hr : rs[i]? with
    | none =>
      simp only []
      obtain ⟨h1, h2, h3⟩ := ih H
      refine ⟨h1, h2, fun j hj x y hxy a ha hb => ?_⟩
      rcases List.mem_cons.1 hj with rfl | hj
      · rw [hr] at hxy; cases hxy
      · exact h3 j hj x y hxy a ha hb
    | some p =>
      simp only []
      obtain ⟨g1, g2, g3⟩ := maskN_spec (p.2 - p.1) H p.1
      obtain ⟨h1, h2, h3⟩ := ih (maskN (p.2 - p.1) H p.1)
      refine ⟨h1.trans g1, fun a => ?_, fun j hj x y hxy a ha hb => ?_⟩
      · rcases h2 a with h | h
        · rw [h]; exact g2 a
        · exact .inr h
      · rcases List.mem_cons.1 hj with rfl | hj
        · rw [hr] at hxy; cases hxy
          rcases h2 a with h | h
          · rw [h]; exact g3 a ha (by simp; omega)
          · exact h
        · exact h3 j hj x y hxy a ha hb
theorem inSome_spec {rs : List (Nat × Nat)} {a : Nat} {inc : List Nat} (h : inSome rs a inc = false) : ∀ j ∈ inc, ∀ x y, rs[j]? = some (x, y) → ¬ (x ≤ a ∧ a < y) := by
  induction inc with
  | nil => intro j hj; cases hj
  | cons i inc ih =>
    have h : Option.rec (inSome rs a inc) (fun p => ite' (andB (Nat.ble p.1 a) (Nat.blt a p.2)) true (inSome rs a inc)) (nth rs i) = false := h
    rw [nth_eq] at h
    intro j hj x y hxy hc
    rcases List.mem_cons.1 hj with rfl | hj
    · rw [hxy] at h
      have h1 : Nat.ble x a = true := Nat.ble_eq_true_of_le hc.1
      have h2 : Nat.blt a y = true := by simpa [Nat.blt_eq] using hc.2
      simp [h1, h2] at h
    · refine ih ?_ j hj x y hxy hc
      cases hr : rs[i]? with
      | none => rw [hr] at h; exact h
      | some p =>
        rw [hr] at h
        cases hb : andB (Nat.ble p.1 a) (Nat.blt a p.2) with
        | true => simp only [hb, ite'_true] at h; cases h
        | false => simp only [hb, ite'_false] at h; exact h
/-! ### the text's run -/
def StepT (p : Ex) (o : AOper) (rs : List (Nat × Nat)) (e : Env) (H : Heap) (v : AVal) (H' : Heap) (g : Bool) (r : Nat × Nat) : Prop :=
  wanted e o.guard = some g ∧
  (g = false → v = .tup [] ∧ H' = H ∧ r = (0, 0)) ∧
  (g = true → o.q = true → aoperQ p rs o.inc e H o.op = some (v, H', r.1, r.2)) ∧
  (g = true → o.q = false → aoper o.op p false e H = some (v, H') ∧ r = (o.op.low e H, len H'))
theorem trace_of {p : Ex} : ∀ {l : List AOper} {rs : List (Nat × Nat)} {e e' : Env} {H H' : Heap}, aopsD p l rs e H = some (e', H') →
    ∃ (E : Nat → Env) (HH : Nat → Heap) (V : Nat → AVal) (G : Nat → Bool) (R : Nat → Nat × Nat), E 0 = e ∧ HH 0 = H ∧ E l.length = e' ∧ HH l.length = H' ∧
      ∀ i o, l[i]? = some o → E (i + 1) = put (E i) o.dst (V i) ∧ StepT p o (rs ++ (List.range i).map R) (E i) (HH i) (V i) (HH (i + 1)) (G i) (R i) := by
  intro l
  induction l with
  | nil =>
    intro rs e e' H H' h
    cases h
    exact ⟨fun _ => e, fun _ => H, fun _ => .undef, fun _ => false, fun _ => (0, 0), rfl, rfl, rfl, rfl, fun i o h => by simp at h⟩
  | cons o l ih =>
    intro rs e e' H H' h
    obtain ⟨g, hg, h⟩ := ob_eq (h : ob (wanted e o.guard) _ = some (e', H'))
    have build : ∀ v H1 r, StepT p o rs e H v H1 g r → aopsD p l (rs ++ [r]) (put e o.dst v) H1 = some (e', H') →
        ∃ (E : Nat → Env) (HH : Nat → Heap) (V : Nat → AVal) (G : Nat → Bool) (R : Nat → Nat × Nat), E 0 = e ∧ HH 0 = H ∧ E (o :: l).length = e' ∧ HH (o :: l).length = H' ∧
          ∀ i o', (o :: l)[i]? = some o' → E (i + 1) = put (E i) o'.dst (V i) ∧ StepT p o' (rs ++ (List.range i).map R) (E i) (HH i) (V i) (HH (i + 1)) (G i) (R i) := by
      intro v H1 r hst hrest
      obtain ⟨E, HH, V, G, R, h1, h2, h3, h4, h5⟩ := ih hrest
      refine ⟨fun i => match i with | 0 => e | i + 1 => E i, fun i => match i with | 0 => H | i + 1 => HH i, fun i => match i with | 0 => v | i + 1 => V i,
        fun i => match i with | 0 => g | i + 1 => G i, fun i => match i with | 0 => r | i + 1 => R i, rfl, rfl, h3, h4, fun i o' ho' => ?_⟩
      cases i with
      | zero =>
        simp at ho'; subst ho'
        refine ⟨h1, ?_⟩
        simp only [List.range_zero, List.map_nil, List.append_nil]
        rw [h2]; exact hst
      | succ i =>
        obtain ⟨h6, h7⟩ := h5 i o' (by simpa using ho')
        refine ⟨h6, ?_⟩
        have : (rs ++ (List.range (i + 1)).map (fun i => match i with | 0 => r | i + 1 => R i)) = rs ++ [r] ++ (List.range i).map R := by
          rw [List.range_succ_eq_map, List.map_cons, List.map_map, List.append_assoc]; rfl
        rw [this]; exact h7
    cases g with
    | true =>
      cases hq : o.q with
      | true =>
        rw [hq] at h
        obtain ⟨r, hr, h⟩ := ob_eq h
        rw [apd_eq] at h
        exact build r.1 r.2.1 (r.2.2.1, r.2.2.2) ⟨hg, by simp, fun _ _ => hr, fun _ h => by rw [hq] at h; cases h⟩ h
      | false =>
        rw [hq] at h
        obtain ⟨r, hr, h⟩ := ob_eq h
        rw [apd_eq] at h
        exact build r.1 r.2 (o.op.low e H, len r.2) ⟨hg, by simp, fun _ h => by rw [hq] at h; (try cases h), fun _ _ => ⟨hr, rfl⟩⟩ h
    | false =>
      rw [apd_eq] at h
      exact build (.tup []) H (0, 0) ⟨hg, fun _ => ⟨rfl, rfl, rfl⟩, by simp, by simp⟩ h
end
end Go.AI
