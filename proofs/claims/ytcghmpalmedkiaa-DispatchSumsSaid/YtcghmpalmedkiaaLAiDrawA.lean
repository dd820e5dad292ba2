/-
  A REGION WHOSE ORDER IS OPEN (second part): what each operation of the text's run does.
-/
import Derived.Test.YtcghmpalmedkiaaLAiDraw
set_option linter.unusedVariables false
set_option linter.unusedSimpArgs false
namespace Go.AI
section
variable {C : ACode → Code → Nat → Prop} {P : Program} {p : Ex}
theorem sort_cases (o : AOper) (hq : o.q = true → 1 ≤ o.op.kind ∧ o.op.kind ≤ 4) :
    (o.sort = 0 ∧ o.op.kind = 0 ∧ o.q = false) ∨ (o.sort = 1 ∧ o.op.kind = 1) ∨ (o.sort = 2 ∧ o.op.kind = 2 ∧ o.q = true) ∨ (o.sort = 3 ∧ (o.op.kind = 3 ∨ o.op.kind = 4) ∧ o.q = true) ∨ (o.sort = 4 ∧ o.q = false) := by
  unfold AOper.sort
  by_cases h0 : o.op.kind = 0
  · left
    rw [if_pos h0]
    refine ⟨rfl, h0, ?_⟩
    cases hqq : o.q with
    | false => rfl
    | true => have := hq hqq; omega
  · rw [if_neg h0]
    by_cases h1 : o.op.kind = 1
    · rw [if_pos h1]; exact .inr (.inl ⟨rfl, h1⟩)
    · rw [if_neg h1]
      cases hqq : o.q with
      | false => simp
      | true =>
        have := hq hqq
        by_cases h2 : o.op.kind = 2
        · simp [h2]
        · simp [h2]; omega
theorem at_kind (op : AOp) (h : op.at? = none) : op.kind ≠ 1 ∧ op.kind ≠ 2 := by cases op <;> first | (cases h; done) | exact ⟨(fun h => by cases h), (fun h => by cases h)⟩
theorem at_some (op : AOp) {x : Opnd} (h : op.at? = some x) : op.kind = 1 ∨ op.kind = 2 := by cases op <;> first | (cases h; done) | exact .inl rfl | exact .inr rfl
theorem aop_aoper {op : AOp} (h : op.kind = 1 ∨ op.kind = 2) (q : Bool) (e : Env) (H : Heap) : aop op e H = aoper op p q e H := by
  cases op <;> first | rfl | (rcases h with h | h <;> cases h)
theorem StepT.load {o : AOper} {rs : List (Nat × Nat)} {e : Env} {H : Heap} {v : AVal} {H' : Heap} {r : Nat × Nat} (h : StepT p o rs e H v H' true r) (hk : o.op.kind = 1) :
    ∃ a, o.op.objOf e = some a ∧ H' = H ∧ hget H a ≠ .dead ∧ (∀ K, hget K a = hget H a → aoper o.op p false e K = some (v, K)) ∧ (o.q = true → r = (a, a + 1) ∧ ∀ j ∈ o.inc, ∀ x y, rs[j]? = some (x, y) → ¬ (x ≤ a ∧ a < y)) := by
  obtain ⟨_, _, h1, h2⟩ := h
  obtain ⟨r1, r2⟩ := r
  cases hq : o.q with
  | false =>
    obtain ⟨h3, _⟩ := h2 rfl hq
    obtain ⟨a, g1, g2, g3, g4⟩ := load_run' hk h3
    exact ⟨a, g1, g2, g3, fun K hK => g4 K false hK, by simp⟩
  | true =>
    have h3 := h1 rfl hq
    unfold aoperQ at h3
    cases hat : o.op.at? with
    | none => exact absurd hk (at_kind _ hat).1
    | some x =>
      rw [hat] at h3
      obtain ⟨b, hb, h3⟩ := ob_eq h3
      obtain ⟨hin, h3⟩ := ite'_none h3
      obtain ⟨r', hr', h3⟩ := ob_eq h3
      have h3 := Option.some.inj h3
      simp only [Prod.mk.injEq] at h3
      obtain ⟨rfl, rfl, rfl, rfl⟩ := h3
      rw [aop_aoper (p := p) (.inl hk) false] at hr'
      obtain ⟨a, g1, g2, g3, g4⟩ := load_run' hk (by exact hr')
      have hab : b = a := by
        unfold AOp.objOf at g1; rw [hat] at g1
        have : nameOf (x.ev e) = some a := g1
        rw [hb] at this; exact Option.some.inj this
      subst hab
      exact ⟨b, g1, g2, g3, fun K hK => g4 K false hK, fun _ => ⟨rfl, inSome_spec hin⟩⟩
theorem StepT.store {o : AOper} {rs : List (Nat × Nat)} {e : Env} {H : Heap} {v : AVal} {H' : Heap} {r : Nat × Nat} (h : StepT p o rs e H v H' true r) (hk : o.op.kind = 2) (hq : o.q = true) :
    ∃ a ob, o.op.objOf e = some a ∧ H' = H.set a ob ∧ hget H a ≠ .dead ∧ (∀ K, hget K a = hget H a → aoper o.op p false e K = some (v, K.set a ob)) ∧ r = (a, a + 1) ∧ ∀ j ∈ o.inc, ∀ x y, rs[j]? = some (x, y) → ¬ (x ≤ a ∧ a < y) := by
  obtain ⟨_, _, h1, h2⟩ := h
  obtain ⟨r1, r2⟩ := r
  have h3 := h1 rfl hq
  unfold aoperQ at h3
  cases hat : o.op.at? with
  | none => exact absurd hk (at_kind _ hat).2
  | some x =>
    rw [hat] at h3
    obtain ⟨b, hb, h3⟩ := ob_eq h3
    obtain ⟨hin, h3⟩ := ite'_none h3
    obtain ⟨r', hr', h3⟩ := ob_eq h3
    have h3 := Option.some.inj h3
    simp only [Prod.mk.injEq] at h3
    obtain ⟨rfl, rfl, rfl, rfl⟩ := h3
    rw [aop_aoper (p := p) (.inr hk) false] at hr'
    obtain ⟨a, o', g1, g2, g3, g4⟩ := store_run' hk (by exact hr')
    have hab : b = a := by
      unfold AOp.objOf at g1; rw [hat] at g1
      have : nameOf (x.ev e) = some a := g1
      rw [hb] at this; exact Option.some.inj this
    subst hab
    exact ⟨b, o', g1, g2, g3, fun K hK => g4 K false hK, rfl, inSome_spec hin⟩
theorem rest_append {H K : Heap} (hl : H.length ≤ K.length) : (H ++ rest K (len H)).length = K.length ∧ (∀ c, c < H.length → hget (H ++ rest K (len H)) c = hget H c) ∧ ∀ c, H.length ≤ c → hget (H ++ rest K (len H)) c = hget K c := by
  rw [rest_eq, len_eq]
  refine ⟨by rw [List.length_append, List.length_drop]; omega, fun c hc => hget_append_old hc, fun c hc => ?_⟩
  rw [hget_eq, hget_eq, List.getElem?_append_right hc, List.getElem?_drop]
  congr 3; omega
theorem StepT.quiet {o : AOper} {rs : List (Nat × Nat)} {e : Env} {H : Heap} {v : AVal} {H' : Heap} {r : Nat × Nat} (h : StepT p o rs e H v H' true r) (hk : o.op.kind = 3 ∨ o.op.kind = 4) (hq : o.q = true) :
    ∃ H1, aoper o.op p true e (roAll (mask rs o.inc H)) = some (v, H1) ∧ H' = H ++ rest H1 (len H) ∧ r = (H.length, H1.length) := by
  obtain ⟨_, _, h1, h2⟩ := h
  obtain ⟨r1, r2⟩ := r
  have h3 := h1 rfl hq
  unfold aoperQ at h3
  cases hat : o.op.at? with
  | some x => have := at_some _ hat; omega
  | none =>
    rw [hat] at h3
    obtain ⟨r', hr', h3⟩ := ob_eq h3
    have h3 := Option.some.inj h3
    simp only [Prod.mk.injEq] at h3
    obtain ⟨rfl, rfl, rfl, rfl⟩ := h3
    exact ⟨r'.2, hr', by rw [apd_eq], by rw [len_eq, len_eq]⟩
theorem wpIn_elim {ro : Option Nat} {o : Oper} {a : Act} {w : World} {G : Prop} (h : o.wpIn (Fr ro) 0 P a w (fun _ _ => G) (fun _ _ _ => False)) : G := by
  have h := h.2
  generalize (o.semAt (Fr ro).round a.eval).run P w = r at h
  cases r with
  | ok x w' =>
    cases x <;> simp only [Oper.uponIn] at h <;> first
      | exact h
      | (obtain ⟨_, h⟩ := h
         obtain ⟨e, w'', fr, hR, _⟩ := h.2 [] (by intro d hd; cases hd)
         cases e with
         | returned v => exact hR
         | panicked c => exact hR.elim
         | outgrown => exact (let ⟨_, _, hx⟩ := hR; hx.elim))
      | (obtain ⟨_, h⟩ := h
         obtain ⟨v, w'', hR, _⟩ := h default [] (by intro d hd; cases hd)
         exact hR)
      | (obtain ⟨_, h⟩ := h
         obtain ⟨e, w'', hR, _⟩ := h.2 default [] (by intro d hd; cases hd)
         cases e with
         | returned v => exact hR
         | panicked c => exact hR.elim
         | outgrown => exact (let ⟨_, _, hx⟩ := hR; hx.elim))
      | exact h.elim
  | halt x w' => cases x <;> simp only [Oper.uponIn] at h
/-! ### a heap, filled up with nothing -/
def padH (H : Heap) (M : Nat) : Heap := H ++ List.replicate (M - H.length) .dead
noncomputable def Rho.pad (ρ : Rho) (M : Nat) : Rho := ⟨M, fun a => if a.base < ρ.n then ρ.g a else noGeo⟩
theorem padH_get (H : Heap) (M c : Nat) : hget (padH H M) c = hget H c := by
  unfold padH
  rcases Nat.lt_or_ge c H.length with h | h
  · exact hget_append_old h
  · rw [hget_out h, hget_eq, List.getElem?_append_right h, List.getElem?_replicate]
    split <;> rfl
theorem padH_length {H : Heap} {M : Nat} (h : H.length ≤ M) : (padH H M).length = M := by unfold padH; rw [List.length_append, List.length_replicate]; omega
theorem pad_ext {ρ : Rho} {M : Nat} (h : ρ.n ≤ M) : Ext ρ (ρ.pad M) := ⟨h, fun a ha => if_pos ha.1⟩
theorem npadH_get (H : Heap) (M : Nat) (c : Nm) : nget (padH H M) c = nget H c := by rw [nget_see, padH_get, ← nget_see]
theorem pad_step {ρ : Rho} {H : Heap} {w : World} {M : Nat} (hs : SR C ρ H w) (h : H.length ≤ M) : Step C H.length ρ H w (ρ.pad M) (padH H M) w := by
  have gl : ∀ a : Nm, a.base < H.length → (ρ.pad M).g a = ρ.g a := fun a ha => if_pos (by rw [hs.n]; exact ha)
  have low : ∀ a : Nm, (nget H a).live = true → a.base < H.length := fun a h => nget_live (live_ne h)
  refine ⟨fun a ha => gl (.p a) ha, fun a ha _ => gl a ha, fun a ha _ i => gl (.v a i) ha, fun a ha hw => by rw [padH_get] at hw; exact hw, ⟨by rw [padH_length h]; rfl, fun a => ?_, fun a c hac ha hc => ?_⟩, rfl, rfl, rfl, Nat.le_refl _, fun _ _ _ => rfl, fun a ha => ?_, fun a hl => ?_⟩
  · rw [npadH_get]
    by_cases ha : a.base < H.length
    · exact (hs.obj a).keep (pad_ext (by rw [hs.n]; exact h)) (.of fun x hx => gl x (by rw [hx]; exact ha)) fun _ => rfl
    · rw [nget_out (Nat.le_of_not_lt ha)]; trivial
  · rw [npadH_get] at ha hc
    rw [gl a (low a (isRw_live ha)), gl c (low c hc)]; exact hs.apart a c hac ha hc
  · rw [npadH_get] at ha; exact .inr ⟨a, ha, by rw [gl a (low a (isRw_live ha))]⟩
  · rw [npadH_get] at hl; exact .inl ⟨low a hl, hl, gl a (low a hl)⟩
theorem cut_self (ρ : Rho) {m : Nat} (h : ρ.n = m) : ρ.cut m = ρ := by subst h; rfl
theorem quiet_oper {ro : Option Nat} {x : AOper} {o : Oper} {e : Env} {ρ : Rho} {K V H1 K' : Heap} {w : World} {N k : Nat} {a : Act} {v : AVal} (hp : CallsOK C P p) (hs : SR C ρ K w) (hop : opOk P x.op o.op = true)
    (he : ER (ρ.cut V.length) N e a.tmps) (hrun : aoper x.op p true e V = some (v, H1)) (hlo : V.length ≤ H1.length) (hhi : H1.length ≤ K.length) (hk : k ≤ V.length)
    (hV : ∀ c, c < V.length → hget V c = .dead ∨ hget V c = (hget K c).ro ∧ WFo V.length (hget K c))
    (hgap : ∀ c, V.length ≤ c → c < H1.length → hget K c = .dead ∧ (ρ.g (.p c)).ok = false)
    (hl' : K'.length = K.length) (hK' : ∀ c, hget K' c = if V.length ≤ c ∧ c < H1.length then hget H1 c else hget K c)
    {next : Act → World → Prop} {Q : Exit → Act → World → Prop}
    (hn : ∀ y ρ' w', VR ρ' v y → Step C k ρ K w ρ' K' w' → Ext ρ ρ' → (∀ c, ¬ (V.length ≤ c ∧ c < H1.length) → ρ'.g (.p c) = ρ.g (.p c)) → next (a.put o.dst y) w') : o.wpIn (Fr ro) 0 P a w next Q := by
  have low : ∀ c, hget V c = .dead ∨ hget V c = (hget K c).ro := fun c => by
    by_cases h : c < V.length
    · rcases hV c h with h | h
      · exact .inl h
      · exact .inr h.1
    · exact .inl (hget_lt h)
  have hsV : SR C (ρ.cut V.length) V w := hs.part fun c hc => by
    rcases hV c hc with h | ⟨h, hw⟩
    · exact .inl h
    · exact .inr ⟨.inr h, hw⟩
  refine oper_sound hp hsV he hop hrun fun y ρ1 w' hy hst hlen => ?_
  obtain ⟨h1, h2, h3⟩ := quiet_step (k := k) (K' := K') hs hlen hhi hk (fun c => by
    rcases low c with h | h <;> rw [h]
    · exact ⟨rfl, rfl⟩
    · exact ⟨ro_rw _, ro_wm _⟩) hst (fun c hc hl => by
    rw [nget_see] at hl ⊢
    rcases low c.base with h | h <;> rw [h] at hl
    · rw [see_dead] at hl; cases hl
    · rw [see_ro] at hl; exact ro_live _ hl) hgap hl' hK'
  exact hn y _ w' (hy.ext h3) h1 h2 (fun c hc => if_neg (by rw [base_p]; exact hc))
end
end Go.AI
