/-
  A REGION WHOSE ORDER IS OPEN (third part): the text's own order, followed for its names.
-/
import Derived.Test.YtcghmpalmedkiaaLAiDrawA
set_option linter.unusedVariables false
set_option linter.unusedSimpArgs false
namespace Go.AI
structure Ctx (C : ACode → Code → Nat → Prop) (P : Program) (p : Ex) (N : Nat) (ops : Array Oper) (l : List AOper) (E : Nat → Env) (HH : Nat → Heap) (V : Nat → AVal) (G : Nat → Bool) (R : Nat → Nat × Nat) : Prop where
  calls : CallsOK C P p
  size : ops.size = l.length
  ok : ∀ (i : Nat) x o, l[i]? = some x → ops[i]? = some o → operOk P N ops x o = true
  back : ∀ (i : Nat) o, ops[i]? = some o → ∀ j ∈ edges o, j < i
  pair : ∀ (i j : Nat) x y, i < j → l[i]? = some x → l[j]? = some y → isBef (befs ops.toList) i j = true ∨ (apartD x y = true ∧ compat i x y = true)
  qk : ∀ (i : Nat) x, l[i]? = some x → x.q = true → 1 ≤ x.op.kind ∧ x.op.kind ≤ 4
  step : ∀ (i : Nat) x, l[i]? = some x → E (i + 1) = put (E i) x.dst (V i) ∧ StepT p x ((List.range i).map R) (E i) (HH i) (V i) (HH (i + 1)) (G i) (R i)
section
variable {C : ACode → Code → Nat → Prop} {P : Program} {p : Ex} {N : Nat} {ops : Array Oper} {l : List AOper} {E : Nat → Env} {HH : Nat → Heap} {V : Nat → AVal} {G : Nat → Bool} {R : Nat → Nat × Nat}
theorem rangeMap_get {α : Type} (R : Nat → α) (i j : Nat) (h : j < i) : ((List.range i).map R)[j]? = some (R j) := by
  rw [List.getElem?_map, List.getElem?_range h]; rfl
theorem operOk_spec {x : AOper} {o : Oper} (h : operOk P N ops x o = true) : dstOk N x.dst o.dst = true ∧ guardOk ops x.guard o.guard = true ∧ opOk P x.op o.op = true := by
  unfold operOk at h; simp only [Bool.and_eq_true] at h; exact ⟨h.1.1, h.1.2, h.2⟩
theorem Ctx.at (c : Ctx C P p N ops l E HH V G R) {i : Nat} (hi : i < l.length) : ∃ x o, l[i]? = some x ∧ ops[i]? = some o ∧ dstOk N x.dst o.dst = true ∧ guardOk ops x.guard o.guard = true ∧ opOk P x.op o.op = true := by
  refine ⟨l[i], ops[i]'(by rw [c.size]; exact hi), List.getElem?_eq_getElem hi, Array.getElem?_eq_getElem _, operOk_spec (c.ok i _ _ (List.getElem?_eq_getElem hi) (Array.getElem?_eq_getElem _))⟩
theorem view_spec (rs : List (Nat × Nat)) (inc : List Nat) (H : Heap) : (roAll (mask rs inc H)).length = H.length ∧ (∀ c, hget (roAll (mask rs inc H)) c = .dead ∨ hget (roAll (mask rs inc H)) c = (hget H c).ro) ∧
    ∀ j ∈ inc, ∀ x y, rs[j]? = some (x, y) → ∀ c, x ≤ c → c < y → hget (roAll (mask rs inc H)) c = .dead := by
  obtain ⟨h1, h2, h3⟩ := mask_spec rs inc H
  refine ⟨by rw [roAll_length, h1], fun c => ?_, fun j hj x y hxy c hc hd => ?_⟩
  · rw [roAll_get]
    rcases h2 c with h | h <;> rw [h]
    · exact .inr rfl
    · exact .inl rfl
  · rw [roAll_get, h3 j hj x y hxy c hc hd]; rfl
theorem Ctx.text (c : Ctx C P p N ops l E HH V G R) {ρ0 : Rho} {w0 : World} {tmps0 : Array Value} (hs0 : SR C ρ0 (HH 0) w0) (he0 : ER ρ0 N (E 0) tmps0) :
    ∀ i, i ≤ l.length → ∃ ρ w tmps, SR C ρ (HH i) w ∧ ER ρ N (E i) tmps ∧ ∀ j, j < i → (HH j).length ≤ (HH (j + 1)).length := by
  intro i
  induction i with
  | zero => intro _; exact ⟨ρ0, w0, tmps0, hs0, he0, fun j hj => by omega⟩
  | succ i ih =>
    intro hi
    obtain ⟨ρ, w, tmps, hs, he, hm⟩ := ih (by omega)
    obtain ⟨x, o, hx, ho, hd, hg, hop⟩ := c.at (i := i) (by omega)
    obtain ⟨hE, hst⟩ := c.step i x hx
    let a : Act := ⟨tmps, []⟩
    have fin : ∀ ρ' w' y, SR C ρ' (HH (i + 1)) w' → VR ρ' (V i) y → Ext ρ ρ' → (HH i).length ≤ (HH (i + 1)).length →
        ∃ ρ w tmps, SR C ρ (HH (i + 1)) w ∧ ER ρ N (E (i + 1)) tmps ∧ ∀ j, j < i + 1 → (HH j).length ≤ (HH (j + 1)).length := fun ρ' w' y h1 h2 h3 h4 => by
      refine ⟨ρ', w', (a.put o.dst y).tmps, h1, ?_, fun j hj => ?_⟩
      · rw [hE]; exact ER.putD (a := a) (he.ext h3) hd h2
      · by_cases hji : j = i
        · subst hji; exact h4
        · exact hm j (by omega)
    cases hgi : G i with
    | false =>
      obtain ⟨h1, h2, h3⟩ := hst.2.1 hgi
      refine fin ρ w undef (by rw [h2]; exact hs) (by rw [h1]; exact .tup [] [] .nil) (Ext.refl ρ) (by rw [h2]; exact Nat.le_refl _)
    | true =>
      rw [hgi] at hst
      have plain : aoper x.op p false (E i) (HH i) = some (V i, HH (i + 1)) → ∃ ρ w tmps, SR C ρ (HH (i + 1)) w ∧ ER ρ N (E (i + 1)) tmps ∧ ∀ j, j < i + 1 → (HH j).length ≤ (HH (j + 1)).length := fun h =>
        wpIn_elim (ro := none) (oper_sound (a := a) (ro := none) (Q := fun _ _ _ => False) c.calls hs he hop h fun y ρ' w' h1 h2 h3 => fin ρ' w' y h2.sr h1 (h2.ext hs h3) h3)
      rcases sort_cases x (c.qk i x hx) with ⟨_, hk, hq⟩ | ⟨_, hk⟩ | ⟨_, hk, hq⟩ | ⟨_, hk, hq⟩ | ⟨_, hq⟩
      · exact plain (hst.2.2.2 rfl hq).1
      · obtain ⟨b, h1, h2, h3, h4, h5⟩ := hst.load hk
        exact plain (by rw [h2]; exact h4 _ rfl)
      · obtain ⟨b, ob, h1, h2, h3, h4, h5⟩ := hst.store hk hq
        exact plain (by rw [h2]; exact h4 _ rfl)
      · obtain ⟨H1, h1, h2, h3⟩ := hst.quiet hk hq
        obtain ⟨g1, g2, g3⟩ := view_spec ((List.range i).map R) x.inc (HH i)
        generalize hVw : roAll (mask ((List.range i).map R) x.inc (HH i)) = W at h1 g1 g2 g3
        have hcut : ρ.cut W.length = ρ := cut_self ρ (by rw [hs.n, g1])
        have wf0 : ∀ d, WFo W.length (hget (HH i) d) := fun d => by rw [g1, ← hs.n]; exact (hs.obj (.p d)).wf
        have hsW : SR C (ρ.cut W.length) W w := hs.part fun d _ => by
          rcases g2 d with h | h
          · exact .inl h
          · exact .inr ⟨.inr h, wf0 d⟩
        have hlen : W.length ≤ H1.length := wpIn_elim (ro := none) (oper_sound (a := a) (ro := none) (Q := fun _ _ _ => False) c.calls hsW (by rw [hcut]; exact he) hop h1 fun y ρ' w' _ _ h => h)
        obtain ⟨r1, r2, r3⟩ := rest_append (H := HH i) (K := H1) (by rw [← g1]; exact hlen)
        rw [← h2] at r1 r2 r3
        have hpad := pad_step (M := H1.length) hs (by rw [← g1]; exact hlen)
        have hpl := padH_length (H := HH i) (M := H1.length) (by rw [← g1]; exact hlen)
        refine wpIn_elim (ro := none) (quiet_oper (ro := none) (a := a) (K := padH (HH i) H1.length) (K' := HH (i + 1)) (k := W.length) (N := N) (Q := fun _ _ _ => False) c.calls hpad.sr hop ?_ h1 hlen (by rw [hpl]; exact Nat.le_refl _) (Nat.le_refl _) ?_ ?_ (by rw [r1, hpl]) ?_ ?_)
        · have : ((ρ.pad H1.length).cut W.length).n = ρ.n := by show W.length = _; rw [g1, hs.n]
          refine ⟨he.1, fun t => ?_⟩
          have h5 := ((he.2 t).ext (pad_ext (M := H1.length) (by rw [hs.n, ← g1]; exact hlen))).cut (m := W.length) (by rw [g1, ← hs.n]; exact (he.2 t).wf)
          exact h5
        · intro d _
          rw [padH_get]
          rcases g2 d with h | h
          · exact .inl h
          · exact .inr ⟨h, wf0 d⟩
        · intro d h6 h7
          rw [padH_get]
          refine ⟨hget_out (by rw [← g1]; exact h6), ?_⟩
          show (if d < ρ.n then ρ.g (.p d) else _).ok = false
          rw [if_neg (by rw [hs.n, ← g1]; omega)]; rfl
        · intro d
          rw [padH_get]
          by_cases h6 : W.length ≤ d ∧ d < H1.length
          · rw [if_pos h6]; exact r3 d (by rw [← g1]; exact h6.1)
          · rw [if_neg h6]
            by_cases h7 : d < (HH i).length
            · exact r2 d h7
            · rw [hget_lt h7, hget_lt]; rw [r1]; rw [g1] at h6; omega
        · intro y ρ' w' h6 h7 h8 h9
          exact fin ρ' w' y h7.sr h6 ((pad_ext (by rw [hs.n, ← g1]; exact hlen)).trans h8) (by rw [r1, ← g1]; exact hlen)
      · exact plain (hst.2.2.2 rfl hq).1
end
end Go.AI
