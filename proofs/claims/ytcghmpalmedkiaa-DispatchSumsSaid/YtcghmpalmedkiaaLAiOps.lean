/-
  AN OPERATION THAT IS NO CALL: what the interpreter computes, the model's operation comes to.
-/
import Derived.Test.YtcghmpalmedkiaaLAiChk
import Derived.Laws.MakeOwn
import Derived.Laws.StructEq
import Derived.Laws.Slices
set_option linter.unusedVariables false
set_option linter.unusedSimpArgs false
namespace Go.AI
section
variable {C : ACode → Code → Nat → Prop} {P : Program}
def OpRun (C : ACode → Code → Nat → Prop) (P : Program) (s : Sem Next) (ρ : Rho) (H : Heap) (w : World) (v : AVal) (H' : Heap) : Prop :=
  ∃ r w' x ρ', s.run P w = .ok r w' ∧ (r = .value x ∨ (r = .skip ∧ x = undef)) ∧ VR ρ' v x ∧ Step C H.length ρ H w ρ' H' w' ∧ H.length ≤ H'.length
theorem OpRun.pure {s : Sem Next} {ρ : Rho} {H : Heap} {w : World} {v : AVal} {x : Value} (hs : SR C ρ H w) (h : s.run P w = .ok (.value x) w) (hv : VR ρ v x) : OpRun C P s ρ H w v H :=
  ⟨_, w, x, ρ, h, .inl rfl, hv, Step.refl hs, Nat.le_refl _⟩
theorem val_run {s : Sem Value} {w w' : World} {x : Value} (h : s.run P w = .ok x w') : (do pure (Next.value (← s)) : Sem Next).run P w = .ok (.value x) w' := by
  show (s.bind fun v => Sem.pure (Next.value v)).run P w = _
  have : (s.bind fun v => Sem.pure (Next.value v)).run P w = (s.run P w).andThen fun v w => (Sem.pure (Next.value v)).run P w := Sem.run_bind P w s _
  rw [this, h]; rfl
theorem unit_run {s : Sem Unit} {w w' : World} (h : s.run P w = .ok () w') : (do s; pure Next.skip : Sem Next).run P w = .ok .skip w' := by
  have : (s.bind fun _ => Sem.pure Next.skip).run P w = (s.run P w).andThen fun _ w => (Sem.pure Next.skip).run P w := Sem.run_bind P w s _
  exact this.trans (by rw [h]; rfl)

/-! ### a new object -/
theorem hget_append_old {H K : Heap} {a : Nat} (h : a < H.length) : hget (H ++ K) a = hget H a := by
  rw [hget_eq, hget_eq, List.getElem?_append_left h]
theorem hget_append_new {H : Heap} {o : AObj} {a : Nat} (h : H.length ≤ a) : hget (H ++ [o]) a = if a = H.length then o else .dead := by
  rw [hget_eq, List.getElem?_append_right h]
  split
  · rename_i h'; subst h'; simp
  · rename_i h'; rw [List.getElem?_eq_none (by simp; omega)]; rfl
theorem hget_out {H : Heap} {a : Nat} (h : H.length ≤ a) : hget H a = .dead := by rw [hget_eq, List.getElem?_eq_none h]; rfl
theorem hget_live {H : Heap} {a : Nat} (h : hget H a ≠ .dead) : a < H.length := by
  rcases Nat.lt_or_ge a H.length with h' | h'
  · exact h'
  · exact absurd (hget_out h') h
theorem hget_set {H : Heap} {a c : Nat} {o : AObj} (ha : a < H.length) : hget (H.set a o) c = if c = a then o else hget H c := by
  rw [hget_eq, hget_eq, List.getElem?_set]
  by_cases h : a = c
  · subst h; simp [ha]
  · rw [if_neg h, if_neg (fun e => h e.symm)]
noncomputable def see (x : Nm) (o : AObj) : AObj := Nm.rec (fun _ => o) (fun _ i => inner i o) x
@[simp] theorem see_p (a : Nat) (o : AObj) : see (.p a) o = o := rfl
@[simp] theorem see_v (a i : Nat) (o : AObj) : see (.v a i) o = inner i o := rfl
theorem nget_see (H : Heap) (x : Nm) : nget H x = see x (hget H x.base) := by cases x <;> rfl
@[simp] theorem nget_p (H : Heap) (a : Nat) : nget H (.p a) = hget H a := rfl
@[simp] theorem nget_v (H : Heap) (a i : Nat) : nget H (.v a i) = inner i (hget H a) := rfl
@[simp] theorem inner_dead (i : Nat) : inner i .dead = .dead := rfl
@[simp] theorem see_dead (x : Nm) : see x .dead = .dead := by cases x <;> rfl
theorem inner_mat (i : Nat) (rw : Bool) (rows : List (Option (List AVal))) : inner i (.mat rw rows) = match rows[i]? with | some (some cs) => .row rw true cs | _ => .dead := by
  show ob' (nth rows i) _ = _
  rw [nth_eq]
  cases rows[i]? with
  | none => rfl
  | some r => cases r <;> rfl
theorem nget_append_old {H K : Heap} {x : Nm} (h : x.base < H.length) : nget (H ++ K) x = nget H x := by rw [nget_see, nget_see, hget_append_old h]
theorem nget_append_new {H : Heap} {o : AObj} {x : Nm} (h : H.length ≤ x.base) : nget (H ++ [o]) x = if x.base = H.length then see x o else .dead := by
  rw [nget_see, hget_append_new h]; split
  · rfl
  · exact see_dead x
theorem nget_out {H : Heap} {x : Nm} (h : H.length ≤ x.base) : nget H x = .dead := by rw [nget_see, hget_out h, see_dead]
theorem nget_live {H : Heap} {x : Nm} (h : nget H x ≠ .dead) : x.base < H.length := by
  rcases Nat.lt_or_ge x.base H.length with h' | h'
  · exact h'
  · exact absurd (nget_out h') h
theorem nget_set {H : Heap} {a : Nat} {x : Nm} {o : AObj} (ha : a < H.length) : nget (H.set a o) x = if x.base = a then see x o else nget H x := by
  rw [nget_see, hget_set ha]; split
  · rfl
  · exact (nget_see H x).symm
theorem Step.ext {ρ ρ' : Rho} {H H' : Heap} {w w' : World} (h : Step C H.length ρ H w ρ' H' w') (hs : SR C ρ H w) (hl : H.length ≤ H'.length) : Ext ρ ρ' :=
  ⟨by rw [hs.n, h.sr.n]; exact hl, fun a ha => h.rhoV a (by rw [← hs.n]; exact ha.1) ha.2.2⟩
def noGeo : Geo := ⟨0, 0, 0, false, false⟩
noncomputable def Rho.pushG (ρ : Rho) (G : Nm → Geo) : Rho := ⟨ρ.n + 1, fun x => if x.base = ρ.n then G x else ρ.g x⟩
noncomputable def geoP (g : Geo) (x : Nm) : Geo := Nm.rec (fun _ => g) (fun _ _ => noGeo) x
noncomputable def Rho.push (ρ : Rho) (g : Geo) : Rho := ρ.pushG (geoP g)
theorem Rho.ext_pushG (ρ : Rho) (G : Nm → Geo) : Ext ρ (ρ.pushG G) := ⟨Nat.le_succ _, fun a ha => if_neg (Nat.ne_of_lt ha.1)⟩
theorem Rho.ext_push (ρ : Rho) (g : Geo) : Ext ρ (ρ.push g) := Rho.ext_pushG ρ _
@[simp] theorem Rho.push_n (ρ : Rho) (g : Geo) : (ρ.push g).n = ρ.n + 1 := rfl
@[simp] theorem Rho.push_new (ρ : Rho) (g : Geo) : (ρ.push g).g (.p ρ.n) = g := if_pos rfl
theorem push_ok {ρ : Rho} {H : Heap} {w : World} (hs : SR C ρ H w) {g : Geo} (hg : g.ok = true := by rfl) : (ρ.push g).has (.p H.length) := ⟨by rw [← hs.n]; exact Nat.lt_succ_self _, by rw [base_p, ← hs.n, Rho.push_new]; exact hg, by rw [← hs.n, Rho.push_new]; exact hg⟩
theorem Rho.pushG_old (ρ : Rho) (G : Nm → Geo) {a : Nm} (h : a.base ≠ ρ.n) : (ρ.pushG G).g a = ρ.g a := if_neg h
theorem Rho.push_old (ρ : Rho) (g : Geo) {a : Nm} (h : a.base ≠ ρ.n) : (ρ.push g).g a = ρ.g a := if_neg h
theorem LoopOK.ext {ρ ρ' : Rho} {st : LoopState} {tmps : Env} {ps : List Nat} {asg body : ACode} {pd : AExit} {L : Loop} (h : LoopOK C ρ st tmps ps asg body pd L) (he : Ext ρ ρ') : LoopOK C ρ' st tmps ps asg body pd L :=
  ⟨h.st, by obtain ⟨N, h1, h2⟩ := h.tmps; exact ⟨N, h1.ext he, h2⟩, h.ps, h.pd⟩
theorem MR.ext {ρ ρ' : Rho} {es : List (AVal × AVal)} {ms : List MapEntry} (h : MR ρ es ms) (he : Ext ρ ρ') : MR ρ' es ms := by
  induction h with
  | nil => exact .nil
  | cons p m ps ms h hs ih => exact .cons _ _ _ _ ⟨h.keyR.ext he, h.valR.ext he, h.flat⟩ ih
theorem cell?_block {w w' : World} {a : Addr} (h : w'.heap[a.block]? = w.heap[a.block]?) : w'.cell? a = w.cell? a := by simp [World.cell?, h]
def SameV (ρ ρ' : Rho) (a : Nm) : Prop := ρ'.g a = ρ.g a ∧ ∀ i, (ρ.g (.v a.base i)).ok = false → (ρ'.g (.v a.base i)).ok = false
theorem SameV.refl (ρ : Rho) (a : Nm) : SameV ρ ρ a := ⟨rfl, fun _ h => h⟩
theorem SameV.of {ρ ρ' : Rho} {a : Nm} (h : ∀ x : Nm, x.base = a.base → ρ'.g x = ρ.g x) : SameV ρ ρ' a := ⟨h a rfl, fun i hi => by rw [h (.v a.base i) rfl]; exact hi⟩
theorem SameV.push {ρ : Rho} {g : Geo} {a : Nm} (h : a.base ≠ ρ.n) : SameV ρ (ρ.push g) a := .of fun x hx => Rho.push_old ρ g (by rw [hx]; exact h)
theorem RowR.keep {ρ ρ' : Rho} {g : Geo} {w w' : World} {rw f : Bool} {cs : List AVal} (h : RowR ρ g rw f cs w) (he : Ext ρ ρ') (hb : g.b < w.heap.size → w'.heap[g.b]? = w.heap[g.b]?) : RowR ρ' g rw f cs w' := by
  have lt : ∀ {x : Obj}, w.heap[g.b]? = some x → g.b < w.heap.size := fun hx => (Array.getElem?_eq_some_iff.1 hx).1
  refine ⟨fun i v hv => ?_, h.flat, fun hr hne => ?_, h.nil⟩
  · obtain ⟨x, h1, h2, h3⟩ := h.cell i v hv
    exact ⟨x, (cell?_block (hb (World.block_lt_of_cell? w _ h1))).trans h1, h2, h3.ext he⟩
  · obtain ⟨h1, h2, cur, e, h3, h4⟩ := h.rw hr hne
    exact ⟨h1, h2, cur, e, (hb (lt h3)).trans h3, h4⟩
theorem OR.keep {ρ ρ' : Rho} {a : Nm} {w w' : World} {o : AObj} (h : OR C ρ a w o) (he : Ext ρ ρ') (hg : SameV ρ ρ' a) (hb : (ρ.g a).b < w.heap.size → w'.heap[(ρ.g a).b]? = w.heap[(ρ.g a).b]?) : OR C ρ' a w' o := by
  have lt : ∀ {x : Obj}, w.heap[(ρ.g a).b]? = some x → (ρ.g a).b < w.heap.size := fun hx => (Array.getElem?_eq_some_iff.1 hx).1
  have hg1 := hg.1
  cases o with
  | dead => trivial
  | row rw f cs =>
    show RowR ρ' (ρ'.g a) rw f cs w'
    rw [hg1]
    exact RowR.keep h he hb
  | map rw es =>
    obtain ⟨en, cl, h1, h2⟩ := h
    show ∃ en cl, w'.heap[(ρ'.g a).b]? = some (.map en cl) ∧ MR ρ' es en.toList
    rw [hg1]
    exact ⟨en, cl, (hb (lt h1)).trans h1, h2.ext he⟩
  | loop rw st tmps ps asg body pd =>
    obtain ⟨L, h1, h2⟩ := h
    show ∃ L, w'.heap[(ρ'.g a).b]? = some (.loop L) ∧ LoopOK C ρ' st tmps ps asg body pd L
    rw [hg1]
    exact ⟨L, (hb (lt h1)).trans h1, h2.ext he⟩
  | mat rw rows =>
    show RowR ρ' (ρ'.g a) rw false (hdrs a.base 0 rows) w' ∧ MatR ρ' a.base rows
    rw [hg1]
    exact ⟨RowR.keep h.1 he hb, fun i hi => hg.2 i (h.2.unset i hi), h.2.flat⟩
theorem OR.keepR {ρ ρ' : Rho} {a : Nm} {w w' : World} {o : AObj} (h : OR C ρ a w o) (he : Ext ρ ρ') (hg : ρ'.g a = ρ.g a) (hno : ∀ rw rows, o ≠ .mat rw rows) (hb : (ρ.g a).b < w.heap.size → w'.heap[(ρ.g a).b]? = w.heap[(ρ.g a).b]?) : OR C ρ' a w' o := by
  have lt : ∀ {x : Obj}, w.heap[(ρ.g a).b]? = some x → (ρ.g a).b < w.heap.size := fun hx => (Array.getElem?_eq_some_iff.1 hx).1
  cases o with
  | dead => trivial
  | row rw f cs =>
    show RowR ρ' (ρ'.g a) rw f cs w'
    rw [hg]
    exact RowR.keep h he hb
  | map rw es =>
    obtain ⟨en, cl, h1, h2⟩ := h
    show ∃ en cl, w'.heap[(ρ'.g a).b]? = some (.map en cl) ∧ MR ρ' es en.toList
    rw [hg]
    exact ⟨en, cl, (hb (lt h1)).trans h1, h2.ext he⟩
  | loop rw st tmps ps asg body pd =>
    obtain ⟨L, h1, h2⟩ := h
    show ∃ L, w'.heap[(ρ'.g a).b]? = some (.loop L) ∧ LoopOK C ρ' st tmps ps asg body pd L
    rw [hg]
    exact ⟨L, (hb (lt h1)).trans h1, h2.ext he⟩
  | mat rw rows => exact absurd rfl (hno _ _)
theorem inner_no_mat (i : Nat) (o : AObj) : ∀ rw rows, inner i o ≠ .mat rw rows := fun rw rows h => by
  cases o with
  | mat rw2 rows2 => rw [inner_mat] at h; split at h <;> cases h
  | _ => cases h
theorem hdrs_get (a : Nat) (rows : List (Option (List AVal))) : ∀ i j, (hdrs a i rows)[j]? = (rows[j]?).map (hdr a (i + j)) := by
  induction rows with
  | nil => intro i j; rfl
  | cons r rows ih =>
    intro i j
    cases j with
    | zero => rfl
    | succ j =>
      show (hdrs a (i + 1) rows)[j]? = _
      rw [ih, show i + 1 + j = i + (j + 1) from by omega]; rfl
theorem hdrs_length (a : Nat) (rows : List (Option (List AVal))) : ∀ i, (hdrs a i rows).length = rows.length := by
  induction rows with
  | nil => intro i; rfl
  | cons r rows ih => intro i; exact congrArg (· + 1) (ih (i + 1))
theorem hdrs_ne {a : Nat} {rows : List (Option (List AVal))} (h : rows ≠ []) : hdrs a 0 rows ≠ [] := by
  intro h0; have := hdrs_length a rows 0; rw [h0] at this; exact h (List.eq_nil_of_length_eq_zero this.symm)
theorem RowR.rw_lt {ρ : Rho} {g : Geo} {w : World} {f : Bool} {cs : List AVal} (h : RowR ρ g true f cs w) (hne : cs ≠ []) : g.b < w.heap.size := by
  obtain ⟨_, _, cur, e, h3, _⟩ := h.rw rfl hne; exact (Array.getElem?_eq_some_iff.1 h3).1
theorem OR.rw_lt {ρ : Rho} {a : Nm} {w : World} {o : AObj} (h : OR C ρ a w o) (hr : o.isRw = true) : (ρ.g a).b < w.heap.size := by
  cases o with
  | dead => cases hr
  | row rw f cs =>
    have hr : (rw && !cs.isEmpty) = true := hr
    simp only [Bool.and_eq_true, Bool.not_eq_true', List.isEmpty_eq_false_iff] at hr
    obtain ⟨_, _, cur, e, h3, _⟩ := RowR.rw h hr.1 hr.2; exact (Array.getElem?_eq_some_iff.1 h3).1
  | map rw es => obtain ⟨en, cl, h1, h2⟩ := h; exact (Array.getElem?_eq_some_iff.1 h1).1
  | loop rw st tmps ps asg body pd => obtain ⟨L, h1, h2⟩ := h; exact (Array.getElem?_eq_some_iff.1 h1).1
  | mat rw rows =>
    have hr : (rw && !rows.isEmpty) = true := hr
    simp only [Bool.and_eq_true, Bool.not_eq_true', List.isEmpty_eq_false_iff] at hr
    obtain ⟨_, _, cur, e, h3, _⟩ := RowR.rw h.1 hr.1 (hdrs_ne hr.2); exact (Array.getElem?_eq_some_iff.1 h3).1
theorem isRw_live {o : AObj} (h : o.isRw = true) : o.live = true := by
  cases o with
  | dead => cases h
  | row rw f cs =>
    have h : (rw && !cs.isEmpty) = true := h
    exact (Bool.and_eq_true _ _ ▸ h).2
  | map rw es => rfl
  | loop rw st tmps ps asg body pd => rfl
  | mat rw rows =>
    have h : (rw && !rows.isEmpty) = true := h
    exact (Bool.and_eq_true _ _ ▸ h).2
theorem live_ne {o : AObj} (h : o.live = true) : o ≠ .dead := fun h0 => by subst h0; cases h
theorem OR.live_lt {ρ : Rho} {a : Nm} {w : World} {o : AObj} (h : OR C ρ a w o) (hr : o.live = true) : (ρ.g a).b < w.heap.size := by
  cases o with
  | dead => cases hr
  | row rw f cs =>
    cases cs with
    | nil => cases hr
    | cons v cs => obtain ⟨x, h1, _⟩ := RowR.cell h 0 v rfl; exact World.block_lt_of_cell? w _ h1
  | map rw es => obtain ⟨en, cl, h1, h2⟩ := h; exact (Array.getElem?_eq_some_iff.1 h1).1
  | loop rw st tmps ps asg body pd => obtain ⟨L, h1, h2⟩ := h; exact (Array.getElem?_eq_some_iff.1 h1).1
  | mat rw rows =>
    cases rows with
    | nil => cases hr
    | cons v cs => obtain ⟨x, h1, _⟩ := RowR.cell h.1 0 _ rfl; exact World.block_lt_of_cell? w _ h1
theorem SR.has_v {ρ : Rho} {H : Heap} {w : World} (hs : SR C ρ H w) {a i : Nat} (h : (nget H (.v a i)) ≠ .dead) : ρ.has (.v a i) := by
  have hob := hs.obj (.p a)
  simp only [nget_v, nget_p] at h hob
  cases ho : hget H a with
  | mat rw rows =>
    rw [ho] at h hob
    rw [inner_mat] at h
    obtain ⟨hob, _⟩ := hob
    cases hr : rows[i]? with
    | none => rw [hr] at h; exact absurd rfl h
    | some r => cases r with
      | none => rw [hr] at h; exact absurd rfl h
      | some cs =>
        obtain ⟨x, _, _, h3⟩ := hob.cell i (hdr a i (some cs)) (by rw [base_p, hdrs_get, hr, Nat.zero_add]; rfl)
        cases h3 with | slice _ _ _ _ _ _ A cap' hn => exact hn
  | _ => rw [ho] at h; exact absurd rfl h
theorem Step.at {k : Nat} {ρ ρ' : Rho} {H H' : Heap} {w w' : World} (h : Step C k ρ H w ρ' H' w') (hs : SR C ρ H w) {x : Nm} (hk : x.base < k) (hl : (nget H x).live = true) : ρ'.g x = ρ.g x := by
  cases x with
  | p a => exact h.rho a hk
  | v a i => exact h.rhoV _ hk (hs.has_v (live_ne hl)).2.2
theorem step_push {ρ : Rho} {H : Heap} {w w' : World} (hs : SR C ρ H w) (h1 : w'.os = w.os) (h2 : w'.tape = w.tape) (h3 : w'.output = w.output) (h4 : w.heap.size ≤ w'.heap.size)
    (hf : ∀ i, i < w.heap.size → w'.heap[i]? = w.heap[i]?) (g : Geo) (o : AObj) (hg : w.heap.size ≤ g.b) (ho : OR C (ρ.push g) (.p ρ.n) w' o) (hi : ∀ i, inner i o = .dead := by intro; rfl) : Step C H.length ρ H w (ρ.push g) (H ++ [o]) w' := by
  have he := Rho.ext_push ρ g
  have old : ∀ a : Nm, a.base < H.length → nget (H ++ [o]) a = nget H a := fun a ha => nget_append_old ha
  have new : ∀ a : Nm, H.length ≤ a.base → nget (H ++ [o]) a = if a = .p H.length then o else .dead := fun a ha => by
    rw [nget_append_new ha]
    cases a with
    | p a => by_cases h : a = H.length <;> simp [h]
    | v a i => simp [hi]
  have lv : ∀ a, (nget (H ++ [o]) a).live = true → a.base < H.length ∨ a = .p H.length := fun a hl => by
    rcases Nat.lt_or_ge a.base H.length with h | h
    · exact .inl h
    · rw [new a h] at hl; split at hl
      · exact .inr (by assumption)
      · cases hl
  have gold : ∀ a : Nm, a.base < H.length → (ρ.push g).g a = ρ.g a := fun a ha => Rho.push_old ρ g (by rw [hs.n]; omega)
  have gnew : (ρ.push g).g (.p H.length) = g := by rw [← hs.n, Rho.push_new]
  refine ⟨fun a ha => gold (.p a) ha, fun a ha _ => gold a ha, fun a ha _ i => gold (.v a i) ha, fun a ha hw => by rw [hget_append_old ha] at hw; exact hw, ⟨by simp [hs.n], fun a => ?_, fun a c hac ha hc => ?_⟩, h1, h2, h3, h4, fun i hi _ => hf i hi, fun a ha => ?_, fun a hl => ?_⟩
  · rcases Nat.lt_or_ge a.base H.length with h | h
    · rw [old a h]; exact (hs.obj a).keep he (.push (by rw [hs.n]; omega)) (hf _)
    · rw [new a h]; split
      · rename_i h'; subst h'; rw [← hs.n]; exact ho
      · trivial
  · rcases lv a (isRw_live ha) with h | h
    · rw [old a h] at ha
      rw [gold a h]
      have := (hs.obj a).rw_lt ha
      rcases lv c hc with h' | h'
      · rw [old c h'] at hc
        rw [gold c h']; exact hs.apart a c hac ha hc
      · subst h'; rw [gnew]; omega
    · rcases lv c hc with h' | h'
      · rw [old c h'] at hc
        subst h; rw [gnew, gold c h']
        have hoc := (hs.obj c).live_lt hc
        omega
      · exact absurd (h.trans h'.symm) hac
  · rcases lv a (isRw_live ha) with h | h
    · rw [old a h] at ha
      exact .inr ⟨a, ha, by rw [gold a h]⟩
    · subst h; rw [gnew]; exact .inl hg
  · rcases lv a hl with h | h
    · rw [old a h] at hl; exact .inl ⟨h, hl, gold a h⟩
    · subst h; rw [gnew]; exact .inr (.inl hg)
theorem OR.dull {ρ ρ' : Rho} {a a' : Nm} {w w' : World} {o : AObj} (h : OR C ρ a w o) (hl : o.live = false) (hg : ρ'.g a' = ρ.g a) : OR C ρ' a' w' o := by
  cases o with
  | dead => trivial
  | row rw f cs =>
    simp [AObj.live] at hl
    subst hl
    exact ⟨fun i v hv => by simp at hv, RowR.flat h, fun _ hne => absurd rfl hne, fun h1 h2 => by rw [hg]; exact RowR.nil h h1 h2⟩
  | map rw es => cases hl
  | loop rw st tmps ps asg body pd => cases hl
  | mat rw rows =>
    simp [AObj.live] at hl
    subst hl
    exact ⟨⟨fun i v hv => by simp [hdrs] at hv, RowR.flat h.1, fun _ hne => absurd rfl hne, fun h1 h2 => by rw [hg]; exact RowR.nil h.1 h1 h2⟩, fun i hi => by simp at hi, fun i cs hi => by simp at hi⟩
theorem step_move {ρ : Rho} {H K : Heap} {w w' : World} (hs : SR C ρ H w) (h1 : w'.os = w.os) (h2 : w'.tape = w.tape) (h3 : w'.output = w.output) (h4 : w.heap.size ≤ w'.heap.size)
    (D : Nm → Prop) (hK : K.length = H.length) (hKg : ∀ c, (nget K c = nget H c ∧ ¬ D c) ∨ nget K c = .dead) (hD : ∀ c, D c → nget K c = .dead)
    (hf : ∀ i, i < w.heap.size → (∀ c, D c → (nget H c).isRw = true → (ρ.g c).b ≠ i) → w'.heap[i]? = w.heap[i]?) (G : Nm → Geo) (o : AObj)
    (hb : ∀ y : Nm, y.base = H.length → (see y o).live = true → w.heap.size ≤ (G y).b ∨ ∃ c, D c ∧ (nget H c).isRw = true ∧ (ρ.g c).b = (G y).b)
    (hd : ∀ y z : Nm, y.base = H.length → z.base = H.length → y ≠ z → (see y o).isRw = true → (see z o).live = true → (G y).b ≠ (G z).b)
    (ho : ∀ y : Nm, y.base = H.length → OR C (ρ.pushG G) y w' (see y o)) : Step C H.length ρ H w (ρ.pushG G) (K ++ [o]) w' := by
  have he := Rho.ext_pushG ρ G
  have old : ∀ a : Nm, a.base < H.length → nget (K ++ [o]) a = nget K a := fun a ha => nget_append_old (by rw [hK]; exact ha)
  have new : ∀ a : Nm, H.length ≤ a.base → nget (K ++ [o]) a = if a.base = H.length then see a o else .dead := fun a ha => by rw [nget_append_new (by rw [hK]; exact ha), hK]
  have lv : ∀ a : Nm, (nget (K ++ [o]) a).live = true → (a.base < H.length ∧ nget (K ++ [o]) a = nget H a ∧ ¬ D a) ∨ (a.base = H.length ∧ nget (K ++ [o]) a = see a o) := fun a hl => by
    rcases Nat.lt_or_ge a.base H.length with h | h
    · left
      rw [old a h] at hl ⊢
      rcases hKg a with ⟨h1, h2⟩ | h1
      · exact ⟨h, h1, h2⟩
      · rw [h1] at hl; cases hl
    · rw [new a h] at hl ⊢
      split at hl
      · rename_i h'; exact .inr ⟨h', if_pos h'⟩
      · cases hl
  have gold : ∀ a : Nm, a.base < H.length → (ρ.pushG G).g a = ρ.g a := fun a ha => Rho.pushG_old ρ G (by rw [hs.n]; omega)
  have gnew : ∀ a : Nm, a.base = H.length → (ρ.pushG G).g a = G a := fun a ha => if_pos (by rw [hs.n]; exact ha)
  refine ⟨fun a ha => gold (.p a) ha, fun a ha _ => gold a ha, fun a ha _ i => gold (.v a i) ha, fun a ha hw => ?_, ⟨by show ρ.n + 1 = _; simp [hs.n, hK], fun a => ?_, fun a c hac ha hc => ?_⟩, h1, h2, h3, h4, fun i hi hn => hf i hi fun c _ hc => hn c hc, fun a ha => ?_, fun a hl => ?_⟩
  · rw [hget_append_old (by rw [hK]; exact ha)] at hw
    rcases hKg (.p a) with ⟨h, _⟩ | h <;> rw [nget_p] at h <;> rw [h] at hw
    · exact hw
    · cases hw
  · rcases Nat.lt_or_ge a.base H.length with h | h
    · rw [old a h]
      rcases hKg a with ⟨h1, h2⟩ | h1 <;> rw [h1]
      · cases hlv : (nget H a).live with
        | true =>
          refine (hs.obj a).keep he (.of fun x hx => gold x (by rw [hx]; exact h)) fun hlt => hf _ hlt fun c hc hrw hcb => ?_
          exact hs.apart c a (fun e => h2 (by rw [← e]; exact hc)) hrw hlv hcb
        | false => exact (hs.obj a).dull hlv (gold a h)
      · trivial
    · rw [new a h]; split
      · rename_i h'; exact ho a h'
      · trivial
  · rcases lv a (isRw_live ha) with ⟨ha0, e1, d1⟩ | ⟨ha0, e1⟩ <;> rw [e1] at ha
    · rw [gold a ha0]
      rcases lv c hc with ⟨hc0, e2, d2⟩ | ⟨hc0, e2⟩ <;> rw [e2] at hc
      · rw [gold c hc0]; exact hs.apart a c hac ha hc
      · rw [gnew c hc0]
        rcases hb c hc0 hc with h | ⟨d, hd, hrd, hbd⟩
        · have := (hs.obj a).rw_lt ha; omega
        · rw [← hbd]; exact hs.apart a d (fun e => d1 (by rw [e]; exact hd)) ha (isRw_live hrd)
    · rw [gnew a ha0]
      rcases lv c hc with ⟨hc0, e2, d2⟩ | ⟨hc0, e2⟩ <;> rw [e2] at hc
      · rw [gold c hc0]
        rcases hb a ha0 (isRw_live ha) with h | ⟨d, hd, hrd, hbd⟩
        · have := (hs.obj c).live_lt hc; omega
        · rw [← hbd]; exact hs.apart d c (fun e => d2 (by rw [← e]; exact hd)) hrd hc
      · rw [gnew c hc0]; exact hd a c ha0 hc0 hac ha hc
  · rcases lv a (isRw_live ha) with ⟨ha0, e1, d1⟩ | ⟨ha0, e1⟩ <;> rw [e1] at ha
    · exact .inr ⟨a, ha, by rw [gold a ha0]⟩
    · rw [gnew a ha0]
      rcases hb a ha0 (isRw_live ha) with h | ⟨d, hd, hrd, hbd⟩
      · exact .inl h
      · exact .inr ⟨d, hrd, hbd⟩
  · rcases lv a hl with ⟨ha0, e1, d1⟩ | ⟨ha0, e1⟩ <;> rw [e1] at hl
    · exact .inl ⟨ha0, hl, gold a ha0⟩
    · rw [gnew a ha0]
      rcases hb a ha0 hl with h | ⟨d, hd, hrd, hbd⟩
      · exact .inr (.inl h)
      · exact .inr (.inr ⟨d, .inl hrd, hbd⟩)
def Like (o o' : AObj) : Prop := o' = o ∨ ∃ rw rows rows', o = .mat rw rows ∧ o' = .mat rw rows' ∧ (∀ b, hdrs b 0 rows' = hdrs b 0 rows) ∧ (∀ i : Nat, rows'[i]? = some none → rows[i]? = some none) ∧ ∀ (i : Nat) (cs : List AVal), rows'[i]? = some (some cs) → AVal.flatL cs = true
theorem Like.rw {o o' : AObj} (h : Like o o') : o'.isRw = o.isRw ∧ o'.live = o.live := by
  rcases h with rfl | ⟨rw, rows, rows', rfl, rfl, h, _⟩
  · exact ⟨rfl, rfl⟩
  · have hl : rows'.length = rows.length := by rw [← hdrs_length 0 rows' 0, h 0, hdrs_length]
    have : rows'.isEmpty = rows.isEmpty := by cases rows <;> cases rows' <;> simp at hl <;> rfl
    exact ⟨by show (rw && !rows'.isEmpty) = (rw && !rows.isEmpty); rw [this], by show (!rows'.isEmpty) = (!rows.isEmpty); rw [this]⟩
theorem Like.OR {ρ : Rho} {a : Nm} {w : World} {o o' : AObj} (h : Like o o') (hob : OR C ρ a w o) : OR C ρ a w o' := by
  rcases h with rfl | ⟨rw, rows, rows', rfl, rfl, h1, h2, h3⟩
  · exact hob
  · exact ⟨by rw [h1]; exact hob.1, fun i hi => hob.2.unset i (h2 i hi), h3⟩
theorem step_set {ρ : Rho} {H : Heap} {w w' : World} (hs : SR C ρ H w) (h1 : w'.os = w.os) (h2 : w'.tape = w.tape) (h3 : w'.output = w.output) (h4 : w'.heap.size = w.heap.size)
    (x : Nm) (hx : (nget H x).isRw = true) (hf : ∀ i, i ≠ (ρ.g x).b → w'.heap[i]? = w.heap[i]?) (H' : Heap) (hl' : H'.length = H.length) (o : AObj) (ho : OR C ρ x w' o) (hl : o.live = true)
    (hx' : nget H' x = o) (hH : ∀ y, y ≠ x → Like (nget H y) (nget H' y)) (hw : ∀ a, (hget H' a).wm = true → (hget H a).wm = true) : Step C H.length ρ H w ρ H' w' := by
  refine ⟨fun _ _ => rfl, fun _ _ _ => rfl, fun _ _ _ _ => rfl, fun a _ h => hw a h, ⟨by rw [hl', hs.n], fun c => ?_, fun c d hcd hc hd => ?_⟩, h1, h2, h3, by omega, fun i hi hn => hf i fun e => hn x hx e.symm, fun c hc => ?_, fun c hc => ?_⟩
  · by_cases h : c = x
    · subst h; rw [hx']; exact ho
    · refine (hH c h).OR ?_
      cases hlv : (nget H c).live with
      | true => exact (hs.obj c).keep (Ext.refl ρ) (.refl ρ c) fun _ => hf _ fun e => hs.apart x c (fun e' => h e'.symm) hx hlv e.symm
      | false => exact (hs.obj c).dull hlv rfl
  · have hc : (nget H c).isRw = true := by
      by_cases h : c = x
      · subst h; exact hx
      · rw [← (hH c h).rw.1]; exact hc
    have hd : (nget H d).live = true := by
      by_cases h : d = x
      · subst h; exact isRw_live hx
      · rw [← (hH d h).rw.2]; exact hd
    exact hs.apart c d hcd hc hd
  · refine .inr ⟨c, ?_, rfl⟩
    by_cases h : c = x
    · subst h; exact hx
    · rw [← (hH c h).rw.1]; exact hc
  · have hc' : (nget H c).live = true := by
      by_cases h : c = x
      · subst h; exact isRw_live hx
      · rw [← (hH c h).rw.2]; exact hc
    exact .inl ⟨nget_live (live_ne hc'), hc', rfl⟩
theorem step_setP {ρ : Rho} {H : Heap} {w w' : World} (hs : SR C ρ H w) (h1 : w'.os = w.os) (h2 : w'.tape = w.tape) (h3 : w'.output = w.output) (h4 : w'.heap.size = w.heap.size)
    (a : Nat) (ha : (hget H a).isRw = true) (hf : ∀ i, i ≠ (ρ.g (.p a)).b → w'.heap[i]? = w.heap[i]?) (o : AObj) (ho : OR C ρ (.p a) w' o) (hl : o.live = true) (hi0 : ∀ i, inner i (hget H a) = .dead) (hi : ∀ i, inner i o = .dead := by intro; rfl) (hwm : o.wm = false := by rfl) : Step C H.length ρ H w ρ (H.set a o) w' := by
  have hal : a < H.length := hget_live (live_ne (isRw_live ha))
  refine step_set hs h1 h2 h3 h4 (.p a) ha hf _ (by simp) o ho hl (by rw [nget_set hal]; simp) (fun y hy => .inl ?_) (fun c hc => ?_)
  · rw [nget_set hal]; split
    · rename_i h
      cases y with
      | p b => exact absurd (by subst h; rfl) hy
      | v b i =>
        have h : b = a := h
        subst h; rw [see_v, nget_v, hi, hi0]
    · rfl
  · rw [hget_set hal] at hc; split at hc
    · rw [hwm] at hc; cases hc
    · exact hc
theorem step_dim {ρ : Rho} {H H' : Heap} {w : World} (hs : SR C ρ H w) (hl' : H'.length = H.length) (hd : ∀ c, nget H' c = nget H c ∨ nget H' c = .dead) (hw : ∀ a, (hget H' a).wm = true → (hget H a).wm = true) : Step C H.length ρ H w ρ H' w := by
  refine ⟨fun _ _ => rfl, fun _ _ _ => rfl, fun _ _ _ _ => rfl, fun a _ h => hw a h, ⟨by rw [hl', hs.n], fun c => ?_, fun c d hcd hc hdd => ?_⟩, rfl, rfl, rfl, Nat.le_refl _, fun _ _ _ => rfl, fun c hc => ?_, fun c hc => ?_⟩
  · rcases hd c with h | h <;> rw [h]
    · exact hs.obj c
    · trivial
  · rcases hd c with h | h <;> rw [h] at hc
    · rcases hd d with h' | h' <;> rw [h'] at hdd
      · exact hs.apart c d hcd hc hdd
      · cases hdd
    · cases hc
  · rcases hd c with h | h <;> rw [h] at hc
    · exact .inr ⟨c, hc, rfl⟩
    · cases hc
  · rcases hd c with h | h <;> rw [h] at hc
    · exact .inl ⟨nget_live (live_ne hc), hc, rfl⟩
    · cases hc
theorem step_kill {ρ : Rho} {H : Heap} {w : World} (hs : SR C ρ H w) (a : Nat) : Step C H.length ρ H w ρ (H.set a .dead) w := by
  have hg : ∀ c, hget (H.set a .dead) c = hget H c ∨ hget (H.set a .dead) c = .dead := fun c => by
    rcases Nat.lt_or_ge a H.length with h | h
    · rw [hget_set h]; split
      · exact .inr rfl
      · exact .inl rfl
    · rw [List.set_eq_of_length_le h]; exact .inl rfl
  refine step_dim hs (by simp) (fun c => ?_) (fun c hc => ?_)
  · rw [nget_see, nget_see]
    rcases hg c.base with h | h <;> rw [h]
    · exact .inl rfl
    · exact .inr (see_dead c)
  · rcases hg c with h | h <;> rw [h] at hc
    · exact hc
    · cases hc
end
end Go.AI
