/-
  A CALL: what is handed over, and what is put back.
-/
import Derived.Test.YtcghmpalmedkiaaLAiOpI
set_option linter.unusedVariables false
set_option linter.unusedSimpArgs false
namespace Go.AI
section
variable {C : ACode → Code → Nat → Prop} {P : Program}
/-! ### names in lists -/
theorem has_iff (a : Nat) (l : List Nat) : has a l = true ↔ a ∈ l := by
  induction l with
  | nil => simp [has]
  | cons b l ih =>
    have h1 : has a (b :: l) = ite' (Nat.beq a b) true (has a l) := rfl
    rw [h1]
    cases hb : Nat.beq a b with
    | true => have := Nat.eq_of_beq_eq_true hb; subst this; simp
    | false =>
      have : a ≠ b := fun h => by subst h; simp at hb
      simp [this, ih]
theorem idx_some {a i j : Nat} {l : List Nat} (h : idx a l i = some j) : i ≤ j ∧ l[j - i]? = some a := by
  induction l generalizing i with
  | nil => cases h
  | cons b l ih =>
    have h1 : ite' (Nat.beq a b) (some i) (idx a l (i + 1)) = some j := h
    cases hb : Nat.beq a b with
    | true => rw [hb] at h1; cases h1; have := Nat.eq_of_beq_eq_true hb; subst this; simp
    | false =>
      rw [hb] at h1
      obtain ⟨h2, h3⟩ := ih h1
      refine ⟨by omega, ?_⟩
      rw [show j - i = (j - (i + 1)) + 1 from by omega]; simpa using h3
theorem mapIn_some {keep : List Nat} {a i : Nat} (h : mapIn keep a = some i) : keep[i]? = some a := by
  have := (idx_some h).2; simpa using this
theorem reach_nodup {H : Heap} {n : Nat} : ∀ {todo acc : List Nat}, acc.Nodup → (reach H n todo acc).Nodup := by
  induction n with
  | zero => intro todo acc h; exact h
  | succ n ih =>
    intro todo acc h
    cases todo with
    | nil => exact h
    | cons a todo =>
      have h1 : reach H (n + 1) (a :: todo) acc = ite' (has a acc) (reach H n todo acc) (reach H n (apd (hget H a).names todo) (apd acc [a])) := rfl
      rw [h1]
      cases hb : has a acc with
      | true => exact ih h
      | false =>
        refine ih ?_
        rw [apd_eq, List.nodup_append]
        refine ⟨h, by simp, fun x hx y hy => ?_⟩
        simp at hy; subst hy
        intro hxy; subst hxy
        rw [(has_iff _ _).2 hx] at hb; cases hb
theorem belowN_cons (n a : Nat) (l : List Nat) : belowN n (a :: l) = ite' (Nat.blt a n) (a :: belowN n l) (belowN n l) := rfl
theorem mem_belowN {n a : Nat} {l : List Nat} : a ∈ belowN n l ↔ a ∈ l ∧ a < n := by
  induction l with
  | nil => simp [belowN]
  | cons b l ih =>
    rw [belowN_cons]
    cases hb : Nat.blt b n with
    | true =>
      have : b < n := by simpa [Nat.blt_eq] using hb
      simp only [ite'_true, List.mem_cons, ih]
      constructor
      · rintro (rfl | h)
        · exact ⟨.inl rfl, this⟩
        · exact ⟨.inr h.1, h.2⟩
      · rintro ⟨h | h, h'⟩
        · exact .inl h
        · exact .inr ⟨h, h'⟩
    | false =>
      have : ¬ b < n := fun h => by simp [← Nat.blt_eq, hb] at h
      simp only [ite'_false, List.mem_cons, ih]
      constructor
      · rintro ⟨h, h'⟩; exact ⟨.inr h, h'⟩
      · rintro ⟨rfl | h, h'⟩
        · exact absurd h' this
        · exact ⟨h, h'⟩
theorem belowN_nodup {n : Nat} {l : List Nat} (h : l.Nodup) : (belowN n l).Nodup := by
  induction l with
  | nil => exact h
  | cons b l ih =>
    rw [belowN_cons]
    rw [List.nodup_cons] at h
    cases Nat.blt b n with
    | true => rw [ite'_true, List.nodup_cons]; exact ⟨fun hm => h.1 (mem_belowN.1 hm).1, ih h.2⟩
    | false => exact ih h.2
theorem fromOn_cons (b a : Nat) (l : List Nat) : fromOn b (a :: l) = ite' (Nat.ble b a) (a :: fromOn b l) (fromOn b l) := rfl
theorem mem_fromOn {n a : Nat} {l : List Nat} (h : a ∈ fromOn n l) : a ∈ l ∧ n ≤ a := by
  induction l with
  | nil => cases h
  | cons b l ih =>
    rw [fromOn_cons] at h
    cases hb : Nat.ble n b with
    | true =>
      rw [hb] at h
      rcases List.mem_cons.1 h with rfl | h
      · exact ⟨.head _, Nat.le_of_ble_eq_true hb⟩
      · exact ⟨.tail _ (ih h).1, (ih h).2⟩
    | false => rw [hb] at h; exact ⟨.tail _ (ih h).1, (ih h).2⟩
theorem fromOn_nodup {n : Nat} {l : List Nat} (h : l.Nodup) : (fromOn n l).Nodup := by
  induction l with
  | nil => exact h
  | cons b l ih =>
    rw [fromOn_cons]
    rw [List.nodup_cons] at h
    cases Nat.ble n b with
    | true => rw [ite'_true, List.nodup_cons]; exact ⟨fun hm => h.1 (mem_fromOn hm).1, ih h.2⟩
    | false => exact ih h.2
theorem pick_length (H : Heap) (m : Nat → Option Nat) (l : List Nat) : (pick H m l).length = l.length := by
  induction l with
  | nil => rfl
  | cons a l ih => exact congrArg (· + 1) ih
theorem pick_get (H : Heap) (m : Nat → Option Nat) (l : List Nat) (i : Nat) : hget (pick H m l) i = match l[i]? with | some a => (hget H a).ren m | none => .dead := by
  induction l generalizing i with
  | nil => rfl
  | cons a l ih => cases i with
    | zero => rfl
    | succ i => exact (ih i).trans (by simp)
theorem pickRo_length (H : Heap) (m : Nat → Option Nat) (l : List Nat) : (pickRo H m l).length = l.length := by
  induction l with
  | nil => rfl
  | cons a l ih => exact congrArg (· + 1) ih
theorem pickRo_get (H : Heap) (m : Nat → Option Nat) (l : List Nat) (i : Nat) : hget (pickRo H m l) i = match l[i]? with | some a => ((hget H a).ren m).ro | none => .dead := by
  induction l generalizing i with
  | nil => rfl
  | cons a l ih => cases i with
    | zero => rfl
    | succ i => exact (ih i).trans (by simp)
/-! ### objects, renamed -/
theorem renL_length (m : Nat → Option Nat) (l : List AVal) : (AVal.renL m l).length = l.length := by rw [renL_eq]; simp
theorem isEmpty_length {α β : Type} {l : List α} {k : List β} (h : l.length = k.length) : l.isEmpty = k.isEmpty := by cases l <;> cases k <;> simp at h <;> rfl
@[simp] theorem ren_rw (o : AObj) (m : Nat → Option Nat) : (o.ren m).isRw = o.isRw := by cases o with
  | row rw f cs => cases f with
    | false => show (rw && !(AVal.renL m cs).isEmpty) = (rw && !cs.isEmpty); rw [isEmpty_length (renL_length m cs)]
    | true => rfl
  | _ => rfl
@[simp] theorem ren_live (o : AObj) (m : Nat → Option Nat) : (o.ren m).live = o.live := by cases o with
  | row rw f cs => cases f with
    | false => show (!(AVal.renL m cs).isEmpty) = (!cs.isEmpty); rw [isEmpty_length (renL_length m cs)]
    | true => rfl
  | _ => rfl
@[simp] theorem ren_wm (o : AObj) (m : Nat → Option Nat) : (o.ren m).wm = o.wm := by cases o with
  | row rw f cs => cases f <;> rfl
  | _ => rfl
@[simp] theorem ro_rw (o : AObj) : o.ro.isRw = false := by cases o <;> rfl
@[simp] theorem ro_wm (o : AObj) : o.ro.wm = false := by cases o <;> rfl
theorem ro_live (o : AObj) (h : o.ro.live = true) : o.live = true := by cases o with
  | row rw f cs => exact h
  | mat rw rows => exact h
  | dead => cases h
  | _ => rfl
theorem inner_ren (i : Nat) (o : AObj) (m : Nat → Option Nat) : inner i (o.ren m) = (inner i o).ren m := by cases o with
  | row rw f cs => cases f <;> rfl
  | mat rw rows =>
    show inner i (.mat rw rows) = _
    rw [inner_mat]
    split <;> rfl
  | _ => rfl
theorem inner_ro (i : Nat) (o : AObj) : inner i o.ro = (inner i o).ro := by cases o with
  | mat rw rows =>
    show inner i (.mat false rows) = _
    rw [inner_mat, inner_mat]
    split <;> rfl
  | _ => rfl
theorem see_ren (x : Nm) (o : AObj) (m : Nat → Option Nat) : see x (o.ren m) = (see x o).ren m := by cases x with
  | p a => rfl
  | v a i => exact inner_ren i o m
theorem see_ro (x : Nm) (o : AObj) : see x o.ro = (see x o).ro := by cases x with
  | p a => rfl
  | v a i => exact inner_ro i o
theorem see_to (x : Nm) (b : Nat) (o : AObj) : see (x.to b) o = see x o := by cases x <;> rfl
theorem npick_get (H : Heap) (m : Nat → Option Nat) (l : List Nat) (x : Nm) : nget (pick H m l) x = match l[x.base]? with | some a => (nget H (x.to a)).ren m | none => .dead := by
  rw [nget_see, pick_get]
  cases l[x.base]? with
  | none => exact see_dead x
  | some a =>
    show see x ((hget H a).ren m) = (nget H (x.to a)).ren m
    rw [see_ren, nget_see H (x.to a), to_base, see_to]
theorem OR.ro {ρ : Rho} {a : Nm} {w : World} {o : AObj} (h : OR C ρ a w o) : OR C ρ a w o.ro := by
  cases o with
  | dead => trivial
  | row rw f cs => exact ⟨RowR.cell h, RowR.flat h, (fun h => by cases h), fun h => by cases h⟩
  | map rw es => exact h
  | loop rw st tmps ps asg body pd => exact h
  | mat rw rows => exact ⟨⟨RowR.cell h.1, RowR.flat h.1, (fun h => by cases h), fun h => by cases h⟩, h.2⟩
theorem MR.flat {ρ ρ' : Rho} {es : List (AVal × AVal)} {ms : List MapEntry} (h : MR ρ es ms) : MR ρ' es ms := by
  induction h with
  | nil => exact .nil
  | cons p m ps ms h hs ih => exact .cons _ _ _ _ ⟨flat_VR _ _ h.flat.1 h.keyR, flat_VR _ _ h.flat.2 h.valR, h.flat⟩ ih
theorem OR.ren {ρ ρ' : Rho} {a : Nm} {b : Nat} {w : World} {o : AObj} {m : Nat → Option Nat} (hm : ∀ (a : Nm) b, ρ.has a → m a.base = some b → b < ρ'.n ∧ ρ'.g (a.to b) = ρ.g a) (h : OR C ρ a w o) (hb : b < ρ'.n)
    (hg0 : ∀ z : Nm, z.base = a.base → ρ'.g (z.to b) = ρ.g z) : OR C ρ' (a.to b) w (o.ren m) := by
  have hg := hg0 a rfl
  have hgp : ρ'.g (.p b) = ρ.g (.p a.base) := hg0 (.p a.base) rfl
  cases o with
  | dead => trivial
  | row rw f cs =>
    cases f with
    | false =>
      show RowR ρ' (ρ'.g (a.to b)) rw false (AVal.renL m cs) w
      rw [hg]
      refine ⟨fun i v hv => ?_, (by intro h; cases h), fun hr hne => ?_, fun hr hn => RowR.nil h hr (by rw [renL_eq] at hn; simpa using hn)⟩
      · rw [renL_eq, List.getElem?_map] at hv
        cases hc : cs[i]? with
        | none => rw [hc] at hv; cases hv
        | some u =>
          rw [hc] at hv; cases hv
          obtain ⟨x, h1, h2, h3⟩ := RowR.cell h i u hc
          exact ⟨x, h1, h2, ren_VR hm _ _ h3⟩
      · obtain ⟨h1, h2, h3⟩ := RowR.rw h hr (by intro h0; subst h0; exact hne rfl)
        exact ⟨h1, by rw [renL_length]; exact h2, h3⟩
    | true =>
      show RowR ρ' (ρ'.g (a.to b)) rw true cs w
      rw [hg]
      refine ⟨fun i v hv => ?_, RowR.flat h, RowR.rw h, RowR.nil h⟩
      obtain ⟨x, h1, h2, h3⟩ := RowR.cell h i v hv
      exact ⟨x, h1, h2, flat_VR _ _ ((flatL_iff cs).1 (RowR.flat h rfl) v (List.mem_of_getElem? hv)) h3⟩
  | map rw es =>
    obtain ⟨en, cl, h1, h2⟩ := h
    exact ⟨en, cl, by rw [hg]; exact h1, h2.flat⟩
  | loop rw st tmps ps asg body pd =>
    obtain ⟨L, h1, h2⟩ := h
    refine ⟨L, by rw [hg]; exact h1, h2.st, ?_, h2.ps, h2.pd⟩
    obtain ⟨N, h3, h4⟩ := h2.tmps
    exact ⟨N, h3.ren hm, h4⟩
  | mat rw rows =>
    show RowR ρ' (ρ'.g (a.to b)) rw false (hdrs (a.to b).base 0 rows) w ∧ MatR ρ' (a.to b).base rows
    rw [hg, to_base]
    have hgv : ∀ i, ρ'.g (.v b i) = ρ.g (.v a.base i) := fun i => hg0 (.v a.base i) rfl
    refine ⟨⟨fun i v hv => ?_, (by intro h; cases h), fun hr hne => ?_, fun hr hn => ?_⟩, fun i hi => by rw [hgv]; exact h.2.unset i hi, h.2.flat⟩
    · rw [hdrs_get, Nat.zero_add] at hv
      cases hc : rows[i]? with
      | none => rw [hc] at hv; cases hv
      | some r =>
        rw [hc] at hv; cases hv
        obtain ⟨x, h1, h2, h3⟩ := RowR.cell h.1 i (hdr a.base i r) (by rw [hdrs_get, hc, Nat.zero_add]; rfl)
        refine ⟨x, h1, h2, ?_⟩
        cases r with
        | none => cases h3; exact .nilSlice
        | some cs => exact hdr_ren h3 hb (by rw [hgp]; cases h3 with | slice _ _ _ _ _ _ A cap' hn => exact hn.2.1) (hgv i)
    · have hne' : rows ≠ [] := by intro h0; subst h0; exact hne rfl
      obtain ⟨h1, h2, h3⟩ := RowR.rw h.1 hr (hdrs_ne hne')
      exact ⟨h1, by rw [hdrs_length] at h2 ⊢; exact h2, h3⟩
    · have hn' : rows = [] := List.eq_nil_of_length_eq_zero (by rw [← hdrs_length b rows 0, hn]; rfl)
      subst hn'
      exact RowR.nil h.1 hr rfl
/-! ### what is handed over -/
noncomputable def rhoIn (ρ : Rho) (keep : List Nat) : Rho := ⟨keep.length, fun i => match keep[i.base]? with | some a => ρ.g (i.to a) | none => noGeo⟩
theorem rhoIn_at {ρ : Rho} {keep : List Nat} {i : Nm} {a : Nat} (h : keep[i.base]? = some a) : (rhoIn ρ keep).g i = ρ.g (i.to a) := by simp [rhoIn, h]
theorem rhoIn_m (ρ : Rho) (keep : List Nat) : ∀ (a : Nm) b, ρ.has a → mapIn keep a.base = some b → b < (rhoIn ρ keep).n ∧ (rhoIn ρ keep).g (a.to b) = ρ.g a := fun a b _ h => by
  have h1 := mapIn_some h
  exact ⟨(List.getElem?_eq_some_iff.1 h1).1, by rw [rhoIn_at (a := a.base) (by rw [to_base]; exact h1), to_to, to_self rfl]⟩
theorem nodup_inj {l : List Nat} (h : l.Nodup) {i j a : Nat} (hi : l[i]? = some a) (hj : l[j]? = some a) : i = j := by
  induction l generalizing i j with
  | nil => cases hi
  | cons b l ih =>
    rw [List.nodup_cons] at h
    cases i with
    | zero => cases j with
      | zero => rfl
      | succ j => simp at hi hj; subst hi; exact absurd (List.mem_of_getElem? hj) h.1
    | succ i => cases j with
      | zero => simp at hi hj; subst hj; exact absurd (List.mem_of_getElem? hi) h.1
      | succ j => simp at hi hj; rw [ih h.2 hi hj]
theorem SR.pick {ρ : Rho} {H : Heap} {w : World} (hs : SR C ρ H w) {keep : List Nat} (hk : keep.Nodup) (H0 : Heap) (hl : H0.length = keep.length)
    (hget0 : ∀ i, nget H0 i = (match keep[i.base]? with | some a => (nget H (i.to a)).ren (mapIn keep) | none => .dead) ∨ nget H0 i = (match keep[i.base]? with | some a => ((nget H (i.to a)).ren (mapIn keep)).ro | none => .dead)) : SR C (rhoIn ρ keep) H0 w := by
  have hrw : ∀ i, (nget H0 i).isRw = true → ∃ a, keep[i.base]? = some a ∧ (nget H (i.to a)).isRw = true := fun i h => by
    rcases hget0 i with h0 | h0 <;> rw [h0] at h <;> split at h
    · exact ⟨_, by assumption, by simpa using h⟩
    · cases h
    · simp at h
    · cases h
  have hlv : ∀ i, (nget H0 i).live = true → ∃ a, keep[i.base]? = some a ∧ (nget H (i.to a)).live = true := fun i h => by
    rcases hget0 i with h0 | h0 <;> rw [h0] at h <;> split at h
    · exact ⟨_, by assumption, by simpa using h⟩
    · cases h
    · exact ⟨_, by assumption, by simpa using ro_live _ h⟩
    · cases h
  refine ⟨hl.symm, fun i => ?_, fun i j hij hi hj => ?_⟩
  · have key : ∀ a, keep[i.base]? = some a → OR C (rhoIn ρ keep) i w ((nget H (i.to a)).ren (mapIn keep)) := fun a ha => by
      have := (hs.obj (i.to a)).ren (rhoIn_m ρ keep) (b := i.base) (List.getElem?_eq_some_iff.1 ha).1 (fun z hz => by
        rw [to_base] at hz
        rw [rhoIn_at (a := a) (by rw [to_base]; exact ha), to_to, to_self hz])
      rwa [to_to, to_self rfl] at this
    rcases hget0 i with h0 | h0 <;> rw [h0] <;> split
    · exact key _ (by assumption)
    · trivial
    · exact (key _ (by assumption)).ro
    · trivial
  · obtain ⟨a, ha, h1⟩ := hrw i hi
    obtain ⟨c, hc, h2⟩ := hlv j hj
    have hne : i.to a ≠ j.to c := fun h => by
      have hb : a = c := by have := congrArg Nm.base h; simpa using this
      subst hb
      have hij' := nodup_inj hk ha hc
      apply hij
      rw [← to_self (x := i) (b := i.base) rfl, ← to_to i a i.base, h, to_to, hij', to_self rfl]
    rw [rhoIn_at ha, rhoIn_at hc]
    exact hs.apart _ _ hne h1 h2
/-! ### what is put back -/
theorem backTo_get {m : Nat → Option Nat} : ∀ {keep : List Nat} {K H : Heap}, keep.Nodup → keep.length = K.length → (∀ a ∈ keep, a < H.length) →
    (∀ i a, keep[i]? = some a → hget (backTo m keep K H) a = (hget K i).ren m) ∧ (∀ c, c ∉ keep → hget (backTo m keep K H) c = hget H c) ∧ (backTo m keep K H).length = H.length := by
  intro keep
  induction keep with
  | nil => intro K H _ _ _; exact ⟨fun i a h => by simp at h, fun c _ => rfl, rfl⟩
  | cons b keep ih =>
    intro K H hn hl hb
    cases K with
    | nil => simp at hl
    | cons o K =>
      rw [List.nodup_cons] at hn
      have h0 : backTo m (b :: keep) (o :: K) H = backTo m keep K (upd H b (o.ren m)) := rfl
      rw [h0, upd_eq]
      obtain ⟨h1, h2, h3⟩ := ih (K := K) (H := H.set b (o.ren m)) hn.2 (by simpa using hl) (fun a ha => by rw [List.length_set]; exact hb a (.tail _ ha))
      refine ⟨fun i a ha => ?_, fun c hc => ?_, by rw [h3, List.length_set]⟩
      · cases i with
        | zero =>
          simp at ha; subst ha
          rw [h2 b hn.1, hget_set (hb b (.head _)), if_pos rfl]; rfl
        | succ i => simp at ha; exact h1 i a ha
      · rw [h2 c (fun h => hc (.tail _ h)), hget_set (hb b (.head _)), if_neg (fun h => hc (by subst h; exact .head _))]
noncomputable def rhoOut (ρ ρ1 : Rho) (n : Nat) (keep new : List Nat) : Rho :=
  ⟨n + new.length, fun c => if c.base < n then (match idx c.base keep 0 with | some i => ρ1.g (c.to i) | none => ρ.g c) else match new[c.base - n]? with | some i => ρ1.g (c.to i) | none => noGeo⟩
def RunOK (C : ACode → Code → Nat → Prop) (P : Program) (f : FuncId) (args : List AVal) (H : Heap) (v : AVal) (H' : Heap) : Prop :=
  ∀ (ρ : Rho) (w : World) (xs : List Value), VRL ρ args xs → SR C ρ H w →
    CallsIn Fence.wide 0 P f xs.toArray w fun e w' => ∃ x ρ', e = .returned x ∧ VR ρ' v x ∧ Step C H.length ρ H w ρ' H' w' ∧ H.length ≤ H'.length
theorem idx_none {a : Nat} {l : List Nat} : ∀ {i : Nat}, idx a l i = none → a ∉ l := by
  induction l with
  | nil => intro i _ h; cases h
  | cons b l ih =>
    intro i h
    have h1 : ite' (Nat.beq a b) (some i) (idx a l (i + 1)) = none := h
    cases hb : Nat.beq a b with
    | true => rw [hb] at h1; cases h1
    | false =>
      rw [hb] at h1
      have hne : a ≠ b := fun h => by subst h; simp at hb
      intro hm
      rcases List.mem_cons.1 hm with h' | h'
      · exact hne h'
      · exact ih h1 h'
theorem back_sound {ρ ρ1 : Rho} {H H0 H1 : Heap} {w w' : World} {keep new : List Nat} {quiet : Bool} {v : AVal} {x : Value} (hs : SR C ρ H w) (hk : keep.Nodup) (hlt : ∀ a ∈ keep, a < H.length) (hl : H0.length = keep.length)
    (hg0 : ∀ i, hget H0 i = (match keep[i]? with | some a => ite' quiet ((hget H a).ren (mapIn keep)).ro ((hget H a).ren (mapIn keep)) | none => .dead))
    (hst : Step C H0.length (rhoIn ρ keep) H0 w ρ1 H1 w') (hl1 : H0.length ≤ H1.length) (hv : VR ρ1 v x) (hn : new.Nodup) (hge : ∀ i ∈ new, keep.length ≤ i) :
    ∃ ρ', VR ρ' (backOn quiet keep H v H1 new).1 x ∧ Step C H.length ρ H w ρ' (backOn quiet keep H v H1 new).2 w' ∧ H.length ≤ (backOn quiet keep H v H1 new).2.length := by
  let m := mapOut keep new (len keep) (len H)
  let ρ2 := rhoOut ρ ρ1 H.length keep new
  have hget0 : ∀ i : Nm, nget H0 i = (match keep[i.base]? with | some a => ite' quiet ((nget H (i.to a)).ren (mapIn keep)).ro ((nget H (i.to a)).ren (mapIn keep)) | none => .dead) := fun i => by
    rw [nget_see, hg0]
    cases keep[i.base]? with
    | none => exact see_dead i
    | some a =>
      show see i (ite' quiet _ _) = ite' quiet _ _
      cases quiet with
      | true => show see i ((hget H a).ren _).ro = ((nget H (i.to a)).ren _).ro; rw [see_ro, see_ren, nget_see H (i.to a), to_base, see_to]
      | false => show see i ((hget H a).ren _) = (nget H (i.to a)).ren _; rw [see_ren, nget_see H (i.to a), to_base, see_to]
  -- a name that was handed over
  have at2 : ∀ (c : Nm) i, c.base < H.length → keep[i]? = some c.base → ρ2.g c = ρ1.g (c.to i) := fun c i hc hi => by
    show (if c.base < H.length then (match idx c.base keep 0 with | some i => ρ1.g (c.to i) | none => ρ.g c) else _) = _
    rw [if_pos hc]
    cases hx : idx c.base keep 0 with
    | none => exact absurd (List.mem_of_getElem? hi) (idx_none hx)
    | some j =>
      have := (idx_some hx).2
      rw [Nat.sub_zero] at this
      show ρ1.g (c.to j) = _
      rw [nodup_inj hk hi this]
  have off2 : ∀ c : Nm, c.base < H.length → c.base ∉ keep → ρ2.g c = ρ.g c := fun c hc hk' => by
    show (if c.base < H.length then (match idx c.base keep 0 with | some i => ρ1.g (c.to i) | none => ρ.g c) else _) = _
    rw [if_pos hc]
    cases hx : idx c.base keep 0 with
    | none => rfl
    | some j =>
      have := (idx_some hx).2
      exact absurd (List.mem_of_getElem? this) hk'
  have kept : ∀ (c : Nm) i, keep[i]? = some c.base → (rhoIn ρ keep).g (c.to i) = ρ.g c := fun c i hi => by
    rw [rhoIn_at (a := c.base) (by rw [to_base]; exact hi), to_to, to_self rfl]
  have ilt : ∀ {i a : Nat}, keep[i]? = some a → i < H0.length := fun hi => by rw [hl]; exact (List.getElem?_eq_some_iff.1 hi).1
  have wm0 : ∀ i a, keep[i]? = some a → (hget H0 i).wm = true → (hget H a).wm = true ∧ quiet = false := fun i a hi h => by
    rw [hg0, hi] at h
    cases quiet with
    | true => exact absurd h (by show ¬ (AObj.ro _).wm = true; simp)
    | false => exact ⟨by simpa using h, rfl⟩
  have plain2 : ∀ a, a < H.length → ρ2.g (.p a) = ρ.g (.p a) := fun a ha => by
    by_cases hk' : a ∈ keep
    · obtain ⟨i, hi⟩ := List.getElem?_of_mem hk'
      rw [at2 (.p a) i ha hi, ← kept (.p a) i hi]
      exact hst.rho i (ilt hi)
    · exact off2 (.p a) ha hk'
  have has2 : ∀ c : Nm, c.base < H.length → (ρ.g c).ok = true → ρ2.g c = ρ.g c := fun c hc hh => by
    by_cases hk' : c.base ∈ keep
    · obtain ⟨i, hi⟩ := List.getElem?_of_mem hk'
      rw [at2 c i hc hi, ← kept c i hi]
      exact hst.rhoV (c.to i) (by rw [to_base]; exact ilt hi) (by rw [kept c i hi]; exact hh)
    · exact off2 c hc hk'
  have virt2 : ∀ a, a < H.length → ((hget H a).wm = false ∨ quiet = true) → ∀ i, ρ2.g (.v a i) = ρ.g (.v a i) := fun a ha hw j => by
    by_cases hk' : a ∈ keep
    · obtain ⟨i, hi⟩ := List.getElem?_of_mem hk'
      rw [at2 (.v a j) i ha hi, ← kept (.v a j) i hi]
      refine hst.virt i (ilt hi) ?_ j
      cases hb : (hget H0 i).wm with
      | false => rfl
      | true =>
        obtain ⟨h1, h2⟩ := wm0 i a hi hb
        rcases hw with hw | hw
        · rw [h1] at hw; cases hw
        · rw [h2] at hw; cases hw
    · exact off2 (.v a j) ha hk'
  have all2 : ∀ a, a < H.length → ((hget H a).wm = false ∨ quiet = true) → ∀ y : Nm, y.base = a → ρ2.g y = ρ.g y := fun a ha hw y hy => by
    cases y with
    | p b => subst hy; exact plain2 _ ha
    | v b i => subst hy; exact virt2 _ ha hw i
  have new2 : ∀ (c : Nm) j i, new[j]? = some i → c.base = H.length + j → ρ2.g c = ρ1.g (c.to i) := fun c j i hi hc => by
    show (if c.base < H.length then _ else match new[c.base - H.length]? with | some i => ρ1.g (c.to i) | none => noGeo) = _
    rw [if_neg (by omega), hc, Nat.add_sub_cancel_left, hi]
  have hm : ∀ (i : Nm) c, ρ1.has i → m i.base = some c → c < ρ2.n ∧ ρ2.g (i.to c) = ρ1.g i := fun i c _ hc => by
    have h1 : ite' (Nat.blt i.base (len keep)) (nth keep i.base) (ob (idx i.base new 0) fun j => some (Nat.add (len H) j)) = some c := hc
    rw [len_eq, len_eq, nth_eq] at h1
    cases hb : Nat.blt i.base keep.length with
    | true =>
      rw [hb] at h1
      have hc' := hlt c (List.mem_of_getElem? h1)
      refine ⟨by show c < H.length + new.length; omega, ?_⟩
      rw [at2 (i.to c) i.base (by rw [to_base]; exact hc') (by rw [to_base]; exact h1), to_to, to_self rfl]
    | false =>
      rw [hb] at h1
      obtain ⟨j, hj, h2⟩ := ob_eq h1
      cases h2
      have h3 := (idx_some hj).2
      simp only [Nat.sub_zero] at h3
      have : j < new.length := (List.getElem?_eq_some_iff.1 h3).1
      refine ⟨Nat.add_lt_add_left this _, ?_⟩
      rw [new2 (i.to (Nat.add H.length j)) j i.base h3 (by rw [to_base]; rfl), to_to, to_self rfl]
  have hrw0 : ∀ i, (nget H0 i).isRw = true → ∃ a, keep[i.base]? = some a ∧ (nget H (i.to a)).isRw = true ∧ quiet = false := fun i h => by
    rw [hget0] at h
    split at h
    · cases quiet with
      | false => exact ⟨_, by assumption, by simpa using h, rfl⟩
      | true => simp at h
    · cases h
  have hlv0 : ∀ i, (nget H0 i).live = true → ∃ a, keep[i.base]? = some a ∧ (nget H (i.to a)).live = true := fun i h => by
    rw [hget0] at h
    split at h
    · cases quiet with
      | false => exact ⟨_, by assumption, by simpa using h⟩
      | true => exact ⟨_, by assumption, by simpa using ro_live _ h⟩
    · cases h
  -- the elder objects
  let Hb := ite' quiet H (backTo m keep (fst H1 (len keep)) H)
  have hbk := backTo_get (m := m) (keep := keep) (K := fst H1 (len keep)) (H := H) hk (by rw [fst_eq, len_eq, List.length_take]; omega) hlt
  have hbl : Hb.length = H.length := by
    cases hq : quiet with
    | true => simp [Hb, hq]
    | false => simp only [Hb, hq, ite'_false]; exact hbk.2.2
  have hb : ∀ c, c < H.length → (hget Hb c = hget H c ∧ (c ∉ keep ∨ quiet = true)) ∨ ∃ i, keep[i]? = some c ∧ quiet = false ∧ hget Hb c = (hget H1 i).ren m := fun c hc => by
    cases hq : quiet with
    | true => left; simp [Hb, hq]
    | false =>
      simp only [Hb, hq, ite'_false]
      by_cases hck : c ∈ keep
      · obtain ⟨i, hi⟩ := List.getElem?_of_mem hck
        right
        refine ⟨i, hi, trivial, ?_⟩
        rw [hbk.1 i c hi, fst_eq, len_eq, hget_eq, hget_eq, List.getElem?_take_of_lt (List.getElem?_eq_some_iff.1 hi).1]
      · left; exact ⟨hbk.2.1 c hck, .inl hck⟩
  let H2 := Hb ++ pick H1 m new
  have e2 : (backOn quiet keep H v H1 new) = (v.ren m, H2) := by
    show (v.ren m, apd (ite' quiet H (backTo m keep (fst H1 (len keep)) H)) (pick H1 m new)) = _
    rw [apd_eq]
  rw [e2]
  have hl2 : H2.length = H.length + new.length := by simp only [H2, List.length_append, pick_length, hbl]
  -- each object of the new heap: an elder one, untouched; one of the callee's
  have casesH : ∀ c, c < H.length → (hget H2 c = hget H c ∧ (c ∉ keep ∨ quiet = true)) ∨ (∃ i, keep[i]? = some c ∧ quiet = false ∧ hget H2 c = (hget H1 i).ren m) := fun c hc => by
    have h0 : hget H2 c = hget Hb c := hget_append_old (by rw [hbl]; exact hc)
    rw [h0]; exact hb c hc
  have cases2 : ∀ c : Nm, nget H2 c ≠ .dead →
      (c.base < H.length ∧ nget H2 c = nget H c ∧ ρ2.g c = ρ.g c ∧ (∀ y : Nm, y.base = c.base → ρ2.g y = ρ.g y) ∧ (c.base ∉ keep ∨ quiet = true)) ∨
      (∃ i, nget H2 c = (nget H1 (c.to i)).ren m ∧ (∀ y : Nm, y.base = c.base → ρ2.g y = ρ1.g (y.to i)) ∧ c.base < ρ2.n ∧ ((keep[i]? = some c.base ∧ quiet = false) ∨ (keep.length ≤ i ∧ ∃ j, new[j]? = some i ∧ c.base = H.length + j))) := fun c hcl => by
    rcases Nat.lt_or_ge c.base H.length with hc | hc
    · rcases casesH c.base hc with ⟨h1, h2⟩ | ⟨i, h1, h2, h3⟩
      · have hy : ∀ y : Nm, y.base = c.base → ρ2.g y = ρ.g y := fun y hy => by
          rcases h2 with h2 | h2
          · exact off2 y (by rw [hy]; exact hc) (by rw [hy]; exact h2)
          · exact all2 c.base hc (.inr h2) y hy
        exact .inl ⟨hc, by rw [nget_see, h1, ← nget_see], hy c rfl, hy, h2⟩
      · refine .inr ⟨i, ?_, fun y hy => at2 y i (by rw [hy]; exact hc) (by rw [hy]; exact h1), by show c.base < H.length + new.length; omega, .inl ⟨h1, h2⟩⟩
        rw [nget_see, h3, see_ren, nget_see H1, to_base, see_to]
    · have hc2 : c.base < H2.length := nget_live hcl
      have h0 : hget H2 c.base = hget (pick H1 m new) (c.base - H.length) := by
        rw [hget_eq, hget_eq, List.getElem?_append_right (by rw [hbl]; exact hc), hbl]
      rw [pick_get] at h0
      have hj : c.base - H.length < new.length := by rw [hl2] at hc2; omega
      have hj' := List.getElem?_eq_getElem hj
      rw [hj'] at h0
      refine .inr ⟨new[c.base - H.length], ?_, fun y hy => new2 y _ _ hj' (by omega), by show c.base < H.length + new.length; omega, .inr ⟨hge _ (List.getElem_mem hj), c.base - H.length, hj', by omega⟩⟩
      rw [nget_see, h0]
      show see c ((hget H1 _).ren m) = _
      rw [see_ren, nget_see H1, to_base, see_to]
  have old_ext : Ext ρ ρ2 := ⟨by rw [hs.n]; exact Nat.le_add_right _ _, fun c hc => has2 c (by rw [← hs.n]; exact hc.1) hc.2.2⟩
  have same : ∀ c : Nm, (nget H c).live = true → (c.base ∉ keep ∨ quiet = true) → w'.heap[(ρ.g c).b]? = w.heap[(ρ.g c).b]? := fun c hl' hck => by
    refine hst.frame _ ((hs.obj c).live_lt hl') fun i hi he => ?_
    obtain ⟨a, ha, hra, hq⟩ := hrw0 i hi
    rcases hck with hck | hck
    · have hne : i.to a ≠ c := fun h => by
        have := congrArg Nm.base h
        rw [to_base] at this
        exact hck (by rw [← this]; exact List.mem_of_getElem? ha)
      exact hs.apart _ c hne hra hl' (by rw [rhoIn_at ha] at he; exact he)
    · rw [hq] at hck; cases hck
  have obj2 : ∀ c, OR C ρ2 c w' (nget H2 c) := fun c => by
    by_cases hcl : nget H2 c = .dead
    · rw [hcl]; trivial
    · rcases cases2 c hcl with ⟨hc, h1, h2, h3, h4⟩ | ⟨i, h1, h2, h3, h4⟩
      · rw [h1]
        cases hlv : (nget H c).live with
        | true => exact (hs.obj c).keep old_ext (.of h3) fun _ => same c hlv h4
        | false => exact (hs.obj c).dull hlv h2
      · rw [h1]
        have := (hst.sr.obj (c.to i)).ren hm (b := c.base) h3 (fun z hz => by
          rw [to_base] at hz
          rw [h2 (z.to c.base) (to_base _ _), to_to, to_self hz])
        rwa [to_to, to_self rfl] at this
  -- where a written object of the callee's lies
  have place : ∀ i, (nget H1 i).isRw = true → w.heap.size ≤ (ρ1.g i).b ∨ ∃ d : Nm, d.base ∈ keep ∧ quiet = false ∧ (nget H d).isRw = true ∧ (ρ.g d).b = (ρ1.g i).b := fun i hi => by
    rcases hst.own i hi with h | ⟨c, hc, he⟩
    · exact .inl h
    · obtain ⟨a, ha, hra, hq⟩ := hrw0 c hc
      exact .inr ⟨c.to a, by rw [to_base]; exact List.mem_of_getElem? ha, hq, hra, by rw [rhoIn_at ha] at he; exact he⟩
  have placeO : ∀ b, Origin H0.length (rhoIn ρ keep) H0 w b → w.heap.size ≤ b ∨ ∃ d : Nm, d.base ∈ keep ∧ quiet = false ∧ (nget H d).isRw = true ∧ (ρ.g d).b = b := fun b hb => by
    rcases hb with h | ⟨c, hc | hc, he⟩
    · exact .inl h
    · obtain ⟨a, ha, hra, hq⟩ := hrw0 c hc
      exact .inr ⟨c.to a, by rw [to_base]; exact List.mem_of_getElem? ha, hq, hra, by rw [rhoIn_at ha] at he; exact he⟩
    · have := nget_live (live_ne hc.2)
      omega
  -- what of the callee's lives: it lived before, at its place, or it has another origin
  have placeL : ∀ (c : Nm) i, (nget H1 (c.to i)).live = true → ((keep[i]? = some c.base ∧ quiet = false) ∨ (keep.length ≤ i ∧ ∃ j, new[j]? = some i ∧ c.base = H.length + j)) →
      (c.base < H.length ∧ (nget H c).live = true ∧ ρ1.g (c.to i) = ρ.g c) ∨ w.heap.size ≤ (ρ1.g (c.to i)).b ∨ ∃ d : Nm, d.base ∈ keep ∧ quiet = false ∧ (nget H d).isRw = true ∧ (ρ.g d).b = (ρ1.g (c.to i)).b := fun c i hl' hi => by
    rcases hst.fresh (c.to i) hl' with ⟨h1, h2, h3⟩ | h
    · rw [to_base] at h1
      rcases hi with ⟨hi, _⟩ | ⟨hi, _⟩
      · obtain ⟨a, ha, hla⟩ := hlv0 _ h2
        rw [to_base, hi] at ha; cases ha
        rw [to_to, to_self rfl] at hla
        exact .inl ⟨hlt _ (List.mem_of_getElem? hi), hla, h3.trans (kept c i hi)⟩
      · omega
    · exact .inr (placeO _ h)
  have apart2 : ∀ a c, a ≠ c → (nget H2 a).isRw = true → (nget H2 c).live = true → (ρ2.g a).b ≠ (ρ2.g c).b := fun a c hac ha hc => by
    rcases cases2 a (live_ne (isRw_live ha)) with ⟨ha0, h1, h2, _, h4⟩ | ⟨i, h1, h2, h3, h4⟩
    · rw [h1] at ha
      have hal := (hs.obj a).rw_lt ha
      rw [h2]
      rcases cases2 c (live_ne hc) with ⟨hc0, k1, k2, _, k4⟩ | ⟨j, k1, k2, k3, k4⟩
      · rw [k1] at hc; rw [k2]; exact hs.apart a c hac ha hc
      · rw [k1] at hc; simp only [ren_live] at hc
        rw [k2 c rfl]
        rcases placeL c j hc k4 with ⟨_, hlc, hgc⟩ | h | ⟨d, hd, hq, hrd, he⟩
        · rw [hgc]; exact hs.apart a c hac ha hlc
        · omega
        · rw [← he]
          have hne : a ≠ d := fun h => by
            subst h
            rcases h4 with h4 | h4
            · exact h4 hd
            · rw [hq] at h4; cases h4
          exact hs.apart a d hne ha (isRw_live hrd)
    · rw [h1] at ha; simp only [ren_rw] at ha
      rw [h2 a rfl]
      rcases cases2 c (live_ne hc) with ⟨hc0, k1, k2, _, k4⟩ | ⟨j, k1, k2, k3, k4⟩
      · rw [k1] at hc; rw [k2]
        have hcl := (hs.obj c).live_lt hc
        rcases place _ ha with h | ⟨d, hd, hq, hrd, he⟩
        · omega
        · rw [← he]
          have hne : d ≠ c := fun h => by
            subst h
            rcases k4 with k4 | k4
            · exact k4 hd
            · rw [hq] at k4; cases k4
          exact hs.apart d c hne hrd hc
      · rw [k1] at hc; simp only [ren_live] at hc
        rw [k2 c rfl]
        refine hst.sr.apart _ _ (fun h => hac ?_) ha hc
        have hij : i = j := by have := congrArg Nm.base h; simpa using this
        subst hij
        have hbb : a.base = c.base := by
          rcases h4 with ⟨h4, _⟩ | ⟨h4, ja, h5, h6⟩ <;> rcases k4 with ⟨k4, _⟩ | ⟨k4, jc, k5, k6⟩
          · rw [h4] at k4; exact Option.some.inj k4
          · have := (List.getElem?_eq_some_iff.1 h4).1; omega
          · have := (List.getElem?_eq_some_iff.1 k4).1; omega
          · rw [h6, k6, nodup_inj hn h5 k5]
        have := congrArg (fun z => Nm.to z a.base) h
        simp only [to_to] at this
        rw [to_self rfl, to_self hbb.symm] at this
        exact this
  refine ⟨ρ2, ren_VR hm _ _ hv, ⟨plain2, has2, fun a ha hw => virt2 a ha (.inl hw), fun a ha hw => ?_, ⟨by rw [hl2]; rfl, obj2, apart2⟩, hst.os, hst.tape, hst.output, hst.size, fun i hi hn' => hst.frame i hi fun c hc => ?_, fun c hc => ?_, fun c hc => ?_⟩, by rw [hl2]; omega⟩
  · rcases casesH a ha with ⟨h1, _⟩ | ⟨i, h1, h2, h3⟩
    · rw [h1] at hw; exact hw
    · rw [h3, ren_wm] at hw
      exact (wm0 i a h1 (hst.wm i (ilt h1) hw)).1
  · obtain ⟨a, ha, hra, _⟩ := hrw0 c hc
    rw [rhoIn_at ha]; exact hn' _ hra
  · rcases cases2 c (live_ne (isRw_live hc)) with ⟨hc0, k1, k2, _, k4⟩ | ⟨j, k1, k2, k3, k4⟩
    · rw [k1] at hc; exact .inr ⟨c, hc, by rw [k2]⟩
    · rw [k1] at hc; simp only [ren_rw] at hc
      rw [k2 c rfl]
      rcases place _ hc with h | ⟨d, hd, hq, hrd, he⟩
      · exact .inl h
      · exact .inr ⟨d, hrd, he⟩
  · rcases cases2 c (live_ne hc) with ⟨hc0, k1, k2, _, k4⟩ | ⟨j, k1, k2, k3, k4⟩
    · rw [k1] at hc; exact .inl ⟨hc0, hc, k2⟩
    · rw [k1] at hc; simp only [ren_live] at hc
      rw [k2 c rfl]
      rcases placeL c j hc k4 with h | h | ⟨d, hd, hq, hrd, he⟩
      · exact .inl h
      · exact .inr (.inl h)
      · exact .inr (.inr ⟨d, .inl hrd, he⟩)
theorem callOn_sound {f : FuncId} {run : List AVal → Heap → Option (AVal × Heap)} (hrun : ∀ args H v H', run args H = some (v, H') → RunOK C P f args H v H') {quiet : Bool} {args : List AVal} {H : Heap} {v : AVal} {H' : Heap}
    (h : callOn run quiet args H = some (v, H')) : RunOK C P f args H v H' := by
  intro ρ w xs hx hs
  unfold callOn at h
  generalize hkd : belowN (len H) (reach H reachFuel (AVal.namesL args) []) = keep at h
  have hk : keep.Nodup := by rw [← hkd]; exact belowN_nodup (reach_nodup (by simp))
  have hlt : ∀ a ∈ keep, a < H.length := fun a ha => by rw [← hkd, len_eq] at ha; exact (mem_belowN.1 ha).2
  obtain ⟨r, hr, h⟩ := ob_eq h
  cases h
  generalize hH0 : ite' quiet (pickRo H (mapIn keep) keep) (pick H (mapIn keep) keep) = H0 at hr
  have hl : H0.length = keep.length := by rw [← hH0]; cases quiet <;> simp [pick_length, pickRo_length]
  have hg : ∀ i, hget H0 i = (match keep[i]? with | some a => ite' quiet ((hget H a).ren (mapIn keep)).ro ((hget H a).ren (mapIn keep)) | none => .dead) := fun i => by
    rw [← hH0]; cases quiet
    · exact pick_get H _ keep i
    · exact pickRo_get H _ keep i
  have hs0 : SR C (rhoIn ρ keep) H0 w := hs.pick hk H0 hl fun i => by
    rw [nget_see, hg i.base]; cases quiet
    · left
      cases keep[i.base]? with
      | none => exact see_dead i
      | some a => show see i ((hget H a).ren _) = (nget H (i.to a)).ren _; rw [see_ren, nget_see H (i.to a), to_base, see_to]
    · right
      cases keep[i.base]? with
      | none => exact see_dead i
      | some a => show see i ((hget H a).ren _).ro = ((nget H (i.to a)).ren _).ro; rw [see_ro, see_ren, nget_see H (i.to a), to_base, see_to]
  refine (hrun _ _ _ _ (by exact hr) (rhoIn ρ keep) w xs (unexV_VRL (renL_VRL (rhoIn_m ρ keep) hx)) hs0).mono ?_
  rintro e w' ⟨x, ρ1, rfl, hv, hst, hl1⟩
  have hnn : (newOn quiet (len keep) r.1 r.2).Nodup := fromOn_nodup (reach_nodup (by simp))
  have hge : ∀ i ∈ newOn quiet (len keep) r.1 r.2, keep.length ≤ i := fun i hi => by have := (mem_fromOn hi).2; rwa [len_eq] at this
  obtain ⟨ρ', h1, h2, h3⟩ := back_sound (quiet := quiet) hs hk hlt hl hg hst hl1 hv hnn hge
  exact ⟨x, ρ', rfl, h1, h2, h3⟩
end
end Go.AI
