/-
  AN OPERATION THAT IS NO CALL: what the interpreter computes, the model's operation comes to.
-/
import Derived.Test.YtfglifekecijjaaEAiChk
import Derived.Laws.MakeOwn
import Derived.Laws.StructEq
import Derived.Laws.Slices
set_option linter.unusedVariables false
set_option linter.unusedSimpArgs false
namespace Go.AI
section
variable {C : ACode → Code → Nat → Prop} {P : Program}
def OpRun (C : ACode → Code → Nat → Prop) (P : Program) (s : Sem Next) (ρ : Rho) (H : Heap) (w : World) (v : AVal) (H' : Heap) : Prop :=
  ∃ r w' x ρ', s.run P w = .ok r w' ∧ (r = .value x ∨ (r = .skip ∧ x = undef)) ∧ VR ρ' v x ∧ Step C H.length ρ H w ρ' H' w' ∧ H.length ≤ H'.length
theorem OpRun.pure {s : Sem Next} {ρ : Rho} {H : Heap} {w : World} {v : AVal} {x : Value} (hs : SR C ρ H w) (h : s.run P w = .ok (.value x) w) (hv : VR ρ v x) : OpRun C P s ρ H w v H :=
  ⟨_, w, x, ρ, h, .inl rfl, hv, Step.refl hs, Nat.le_refl _⟩
theorem val_run {s : Sem Value} {w w' : World} {x : Value} (h : s.run P w = .ok x w') : (do pure (Next.value (← s)) : Sem Next).run P w = .ok (.value x) w' := by
  show (s.bind fun v => Sem.pure (Next.value v)).run P w = _
  have : (s.bind fun v => Sem.pure (Next.value v)).run P w = (s.run P w).andThen fun v w => (Sem.pure (Next.value v)).run P w := Sem.run_bind P w s _
  rw [this, h]; rfl
theorem unit_run {s : Sem Unit} {w w' : World} (h : s.run P w = .ok () w') : (do s; pure Next.skip : Sem Next).run P w = .ok .skip w' := by
  have : (s.bind fun _ => Sem.pure Next.skip).run P w = (s.run P w).andThen fun _ w => (Sem.pure Next.skip).run P w := Sem.run_bind P w s _
  exact this.trans (by rw [h]; rfl)

/-! ### a new object -/
theorem hget_append_old {H K : Heap} {a : Nat} (h : a < H.length) : hget (H ++ K) a = hget H a := by
  rw [hget_eq, hget_eq, List.getElem?_append_left h]
theorem hget_append_new {H : Heap} {o : AObj} {a : Nat} (h : H.length ≤ a) : hget (H ++ [o]) a = if a = H.length then o else .dead := by
  rw [hget_eq, List.getElem?_append_right h]
  split
  · rename_i h'; subst h'; simp
  · rename_i h'; rw [List.getElem?_eq_none (by simp; omega)]; rfl
theorem hget_out {H : Heap} {a : Nat} (h : H.length ≤ a) : hget H a = .dead := by rw [hget_eq, List.getElem?_eq_none h]; rfl
theorem hget_live {H : Heap} {a : Nat} (h : hget H a ≠ .dead) : a < H.length := by
  rcases Nat.lt_or_ge a H.length with h' | h'
  · exact h'
  · exact absurd (hget_out h') h
theorem hget_set {H : Heap} {a c : Nat} {o : AObj} (ha : a < H.length) : hget (H.set a o) c = if c = a then o else hget H c := by
  rw [hget_eq, hget_eq, List.getElem?_set]
  by_cases h : a = c
  · subst h; simp [ha]
  · rw [if_neg h, if_neg (fun e => h e.symm)]
theorem Step.ext {ρ ρ' : Rho} {H H' : Heap} {w w' : World} (h : Step C H.length ρ H w ρ' H' w') (hs : SR C ρ H w) (hl : H.length ≤ H'.length) : Ext ρ ρ' :=
  ⟨by rw [hs.n, h.sr.n]; exact hl, fun a ha => h.rho a (by rw [← hs.n]; exact ha.1)⟩
def Rho.push (ρ : Rho) (g : Geo) : Rho := ⟨ρ.n + 1, fun a => if a = ρ.n then g else ρ.g a⟩
theorem Rho.ext_push (ρ : Rho) (g : Geo) : Ext ρ (ρ.push g) := ⟨Nat.le_succ _, fun a ha => if_neg (Nat.ne_of_lt ha.1)⟩
@[simp] theorem Rho.push_n (ρ : Rho) (g : Geo) : (ρ.push g).n = ρ.n + 1 := rfl
@[simp] theorem Rho.push_new (ρ : Rho) (g : Geo) : (ρ.push g).g ρ.n = g := if_pos rfl
theorem push_ok {ρ : Rho} {H : Heap} {w : World} (hs : SR C ρ H w) {g : Geo} (hg : g.ok = true := by rfl) : (ρ.push g).has H.length := ⟨by rw [← hs.n]; exact Nat.lt_succ_self _, by rw [← hs.n, Rho.push_new]; exact hg⟩
theorem Rho.push_old (ρ : Rho) (g : Geo) {a : Nat} (h : a ≠ ρ.n) : (ρ.push g).g a = ρ.g a := if_neg h
theorem LoopOK.ext {ρ ρ' : Rho} {st : LoopState} {tmps : Env} {ps : List Nat} {asg body : ACode} {pd : AExit} {L : Loop} (h : LoopOK C ρ st tmps ps asg body pd L) (he : Ext ρ ρ') : LoopOK C ρ' st tmps ps asg body pd L :=
  ⟨h.st, by obtain ⟨N, h1, h2⟩ := h.tmps; exact ⟨N, h1.ext he, h2⟩, h.ps, h.pd⟩
theorem MR.ext {ρ ρ' : Rho} {es : List (AVal × AVal)} {ms : List MapEntry} (h : MR ρ es ms) (he : Ext ρ ρ') : MR ρ' es ms := by
  induction h with
  | nil => exact .nil
  | cons p m ps ms h hs ih => exact .cons _ _ _ _ ⟨h.keyR.ext he, h.valR.ext he, h.flat⟩ ih
theorem cell?_block {w w' : World} {a : Addr} (h : w'.heap[a.block]? = w.heap[a.block]?) : w'.cell? a = w.cell? a := by simp [World.cell?, h]
theorem OR.keep {ρ ρ' : Rho} {a : Nat} {w w' : World} {o : AObj} (h : OR C ρ a w o) (he : Ext ρ ρ') (hg : ρ'.g a = ρ.g a) (hb : (ρ.g a).b < w.heap.size → w'.heap[(ρ.g a).b]? = w.heap[(ρ.g a).b]?) : OR C ρ' a w' o := by
  have lt : ∀ {x : Obj}, w.heap[(ρ.g a).b]? = some x → (ρ.g a).b < w.heap.size := fun hx => (Array.getElem?_eq_some_iff.1 hx).1
  cases o with
  | dead => trivial
  | row rw f cs =>
    show RowR ρ' (ρ'.g a) rw f cs w'
    rw [hg]
    refine ⟨fun i v hv => ?_, h.flat, fun hr hne => ?_, h.nil⟩
    · obtain ⟨x, h1, h2, h3⟩ := h.cell i v hv
      exact ⟨x, (cell?_block (hb (World.block_lt_of_cell? w _ h1))).trans h1, h2, h3.ext he⟩
    · obtain ⟨h1, h2, cur, e, h3, h4⟩ := h.rw hr hne
      exact ⟨h1, h2, cur, e, (hb (lt h3)).trans h3, h4⟩
  | map rw es =>
    obtain ⟨en, cl, h1, h2⟩ := h
    show ∃ en cl, w'.heap[(ρ'.g a).b]? = some (.map en cl) ∧ MR ρ' es en.toList
    rw [hg]
    exact ⟨en, cl, (hb (lt h1)).trans h1, h2.ext he⟩
  | loop rw st tmps ps asg body pd =>
    obtain ⟨L, h1, h2⟩ := h
    show ∃ L, w'.heap[(ρ'.g a).b]? = some (.loop L) ∧ LoopOK C ρ' st tmps ps asg body pd L
    rw [hg]
    exact ⟨L, (hb (lt h1)).trans h1, h2.ext he⟩
theorem OR.rw_lt {ρ : Rho} {a : Nat} {w : World} {o : AObj} (h : OR C ρ a w o) (hr : o.isRw = true) : (ρ.g a).b < w.heap.size := by
  cases o with
  | dead => cases hr
  | row rw f cs =>
    have hr : (rw && !cs.isEmpty) = true := hr
    simp only [Bool.and_eq_true, Bool.not_eq_true', List.isEmpty_eq_false_iff] at hr
    obtain ⟨_, _, cur, e, h3, _⟩ := RowR.rw h hr.1 hr.2; exact (Array.getElem?_eq_some_iff.1 h3).1
  | map rw es => obtain ⟨en, cl, h1, h2⟩ := h; exact (Array.getElem?_eq_some_iff.1 h1).1
  | loop rw st tmps ps asg body pd => obtain ⟨L, h1, h2⟩ := h; exact (Array.getElem?_eq_some_iff.1 h1).1
theorem isRw_live {o : AObj} (h : o.isRw = true) : o.live = true := by
  cases o with
  | dead => cases h
  | row rw f cs =>
    have h : (rw && !cs.isEmpty) = true := h
    exact (Bool.and_eq_true _ _ ▸ h).2
  | map rw es => rfl
  | loop rw st tmps ps asg body pd => rfl
theorem live_ne {o : AObj} (h : o.live = true) : o ≠ .dead := fun h0 => by subst h0; cases h
theorem OR.live_lt {ρ : Rho} {a : Nat} {w : World} {o : AObj} (h : OR C ρ a w o) (hr : o.live = true) : (ρ.g a).b < w.heap.size := by
  cases o with
  | dead => cases hr
  | row rw f cs =>
    cases cs with
    | nil => cases hr
    | cons v cs => obtain ⟨x, h1, _⟩ := RowR.cell h 0 v rfl; exact World.block_lt_of_cell? w _ h1
  | map rw es => obtain ⟨en, cl, h1, h2⟩ := h; exact (Array.getElem?_eq_some_iff.1 h1).1
  | loop rw st tmps ps asg body pd => obtain ⟨L, h1, h2⟩ := h; exact (Array.getElem?_eq_some_iff.1 h1).1
theorem step_push {ρ : Rho} {H : Heap} {w w' : World} (hs : SR C ρ H w) (h1 : w'.os = w.os) (h2 : w'.tape = w.tape) (h3 : w'.output = w.output) (h4 : w.heap.size ≤ w'.heap.size)
    (hf : ∀ i, i < w.heap.size → w'.heap[i]? = w.heap[i]?) (g : Geo) (o : AObj) (hg : w.heap.size ≤ g.b) (ho : OR C (ρ.push g) ρ.n w' o) : Step C H.length ρ H w (ρ.push g) (H ++ [o]) w' := by
  have he := Rho.ext_push ρ g
  have old : ∀ a, a < H.length → hget (H ++ [o]) a = hget H a := fun a ha => hget_append_old ha
  have lv : ∀ a, (hget (H ++ [o]) a).live = true → a < H.length ∨ a = H.length := fun a hl => by
    rcases Nat.lt_or_ge a H.length with h | h
    · exact .inl h
    · rw [hget_append_new h] at hl; split at hl
      · exact .inr (by assumption)
      · cases hl
  refine ⟨fun a ha => Rho.push_old ρ g (by rw [hs.n]; omega), ⟨by simp [hs.n], fun a => ?_, fun a c hac ha hc => ?_⟩, h1, h2, h3, h4, fun i hi _ => hf i hi, fun a ha => ?_, fun a ha hl => by rw [old a ha] at hl; exact hl, fun a ha hl => ?_⟩
  · rcases Nat.lt_or_ge a H.length with h | h
    · rw [old a h]; exact (hs.obj a).keep he (Rho.push_old ρ g (by rw [hs.n]; omega)) (hf _)
    · rw [hget_append_new h]; split
      · rename_i h'; subst h'; rw [← hs.n]; exact ho
      · trivial
  · rcases lv a (isRw_live ha) with h | h
    · rw [old a h] at ha
      rw [Rho.push_old ρ g (by rw [hs.n]; omega)]
      have := (hs.obj a).rw_lt ha
      rcases lv c hc with h' | h'
      · rw [old c h'] at hc
        rw [Rho.push_old ρ g (by rw [hs.n]; omega)]; exact hs.apart a c hac ha hc
      · subst h'; rw [← hs.n, Rho.push_new]; omega
    · rcases lv c hc with h' | h'
      · rw [old c h'] at hc
        subst h; rw [← hs.n, Rho.push_new, Rho.push_old ρ g (by rw [hs.n]; omega)]
        intro hb
        have hcb : w.heap.size ≤ (ρ.g c).b := by rw [← hb]; exact hg
        have hoc := (hs.obj c).live_lt hc
        omega
      · exact absurd (h.trans h'.symm) hac
  · rcases lv a (isRw_live ha) with h | h
    · rw [old a h] at ha
      exact .inr ⟨a, ha, by rw [Rho.push_old ρ g (by rw [hs.n]; omega)]⟩
    · subst h; rw [← hs.n, Rho.push_new]; exact .inl hg
  · rcases lv a hl with h | h
    · omega
    · subst h; rw [← hs.n, Rho.push_new]; exact .inl hg
theorem step_set {ρ : Rho} {H : Heap} {w w' : World} (hs : SR C ρ H w) (h1 : w'.os = w.os) (h2 : w'.tape = w.tape) (h3 : w'.output = w.output) (h4 : w'.heap.size = w.heap.size)
    (a : Nat) (ha : (hget H a).isRw = true) (hf : ∀ i, i ≠ (ρ.g a).b → w'.heap[i]? = w.heap[i]?) (o : AObj) (ho : OR C ρ a w' o) (hl : o.live = true) : Step C H.length ρ H w ρ (H.set a o) w' := by
  have hal : a < H.length := hget_live (by intro h; rw [h] at ha; cases ha)
  refine ⟨fun _ _ => rfl, ⟨by simp [hs.n], fun c => ?_, fun c d hcd hc hd => ?_⟩, h1, h2, h3, by omega, fun i hi hn => hf i fun e => hn a ha e.symm, fun c hc => ?_, fun c hc hl' => ?_, fun c hc hl' => ?_⟩
  · rw [hget_set hal]; split
    · rename_i h; subst h; exact ho
    · rename_i h
      by_cases hlv : (hget H c).live = true
      · exact (hs.obj c).keep (Ext.refl ρ) rfl fun _ => hf _ fun e => hs.apart a c (fun e' => h e'.symm) ha hlv e.symm
      · -- nothing to lose
        have hob := hs.obj c
        generalize hget H c = oc at hlv hob
        cases oc with
        | dead => trivial
        | row rw f cs =>
          simp [AObj.live] at hlv
          subst hlv
          exact ⟨fun i v hv => by simp at hv, hob.flat, fun _ hne => absurd rfl hne, hob.nil⟩
        | map rw es => exact absurd rfl hlv
        | loop rw st tmps ps asg body pd => exact absurd rfl hlv
  · rw [hget_set hal] at hc hd
    split at hc <;> split at hd
    · rename_i h h'; exact absurd (h.trans h'.symm) hcd
    · rename_i h h'; subst h; exact hs.apart c d hcd ha hd
    · rename_i h h'; subst h'; exact hs.apart c d hcd hc (isRw_live ha)
    · exact hs.apart c d hcd hc hd
  · rw [hget_set hal] at hc
    split at hc
    · rename_i h; subst h; exact .inr ⟨c, ha, rfl⟩
    · exact .inr ⟨c, hc, rfl⟩
  · rw [hget_set hal] at hl'
    split at hl'
    · rename_i h; subst h; exact isRw_live ha
    · exact hl'
  · have := hget_live (H := H.set a o) (a := c) (by intro h; rw [h] at hl'; cases hl')
    rw [List.length_set] at this; omega
theorem step_kill {ρ : Rho} {H : Heap} {w : World} (hs : SR C ρ H w) (a : Nat) : Step C H.length ρ H w ρ (H.set a .dead) w := by
  have hd : ∀ c, hget (H.set a .dead) c = hget H c ∨ hget (H.set a .dead) c = .dead := fun c => by
    rcases Nat.lt_or_ge a H.length with h | h
    · rw [hget_set h]; split
      · exact .inr rfl
      · exact .inl rfl
    · rw [List.set_eq_of_length_le h]; exact .inl rfl
  refine ⟨fun _ _ => rfl, ⟨by simp [hs.n], fun c => ?_, fun c d hcd hc hdd => ?_⟩, rfl, rfl, rfl, Nat.le_refl _, fun _ _ _ => rfl, fun c hc => ?_, fun c hc hl' => ?_, fun c hc hl' => ?_⟩
  · rcases hd c with h | h <;> rw [h]
    · exact hs.obj c
    · trivial
  · rcases hd c with h | h <;> rw [h] at hc
    · rcases hd d with h' | h' <;> rw [h'] at hdd
      · exact hs.apart c d hcd hc hdd
      · cases hdd
    · cases hc
  · rcases hd c with h | h <;> rw [h] at hc
    · exact .inr ⟨c, hc, rfl⟩
    · cases hc
  · rcases hd c with h | h <;> rw [h] at hl'
    · exact hl'
    · cases hl'
  · rcases hd c with h | h <;> rw [h] at hl'
    · have := hget_live (H := H) (a := c) (by intro h; rw [h] at hl'; cases hl')
      omega
    · cases hl'
end
end Go.AI
