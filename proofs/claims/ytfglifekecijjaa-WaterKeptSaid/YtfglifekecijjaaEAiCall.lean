/-
  A CALL: what is handed over, and what is put back.
-/
import Derived.Test.YtfglifekecijjaaEAiOpI
set_option linter.unusedVariables false
set_option linter.unusedSimpArgs false
namespace Go.AI
section
variable {C : ACode → Code → Nat → Prop} {P : Program}
/-! ### names in lists -/
theorem has_iff (a : Nat) (l : List Nat) : has a l = true ↔ a ∈ l := by
  induction l with
  | nil => simp [has]
  | cons b l ih =>
    have h1 : has a (b :: l) = ite' (Nat.beq a b) true (has a l) := rfl
    rw [h1]
    cases hb : Nat.beq a b with
    | true => have := Nat.eq_of_beq_eq_true hb; subst this; simp
    | false =>
      have : a ≠ b := fun h => by subst h; simp at hb
      simp [this, ih]
theorem idx_some {a i j : Nat} {l : List Nat} (h : idx a l i = some j) : i ≤ j ∧ l[j - i]? = some a := by
  induction l generalizing i with
  | nil => cases h
  | cons b l ih =>
    have h1 : ite' (Nat.beq a b) (some i) (idx a l (i + 1)) = some j := h
    cases hb : Nat.beq a b with
    | true => rw [hb] at h1; cases h1; have := Nat.eq_of_beq_eq_true hb; subst this; simp
    | false =>
      rw [hb] at h1
      obtain ⟨h2, h3⟩ := ih h1
      refine ⟨by omega, ?_⟩
      rw [show j - i = (j - (i + 1)) + 1 from by omega]; simpa using h3
theorem mapIn_some {keep : List Nat} {a i : Nat} (h : mapIn keep a = some i) : keep[i]? = some a := by
  have := (idx_some h).2; simpa using this
theorem reach_nodup {H : Heap} {n : Nat} : ∀ {todo acc : List Nat}, acc.Nodup → (reach H n todo acc).Nodup := by
  induction n with
  | zero => intro todo acc h; exact h
  | succ n ih =>
    intro todo acc h
    cases todo with
    | nil => exact h
    | cons a todo =>
      have h1 : reach H (n + 1) (a :: todo) acc = ite' (has a acc) (reach H n todo acc) (reach H n (apd (hget H a).names todo) (apd acc [a])) := rfl
      rw [h1]
      cases hb : has a acc with
      | true => exact ih h
      | false =>
        refine ih ?_
        rw [apd_eq, List.nodup_append]
        refine ⟨h, by simp, fun x hx y hy => ?_⟩
        simp at hy; subst hy
        intro hxy; subst hxy
        rw [(has_iff _ _).2 hx] at hb; cases hb
theorem belowN_cons (n a : Nat) (l : List Nat) : belowN n (a :: l) = ite' (Nat.blt a n) (a :: belowN n l) (belowN n l) := rfl
theorem mem_belowN {n a : Nat} {l : List Nat} : a ∈ belowN n l ↔ a ∈ l ∧ a < n := by
  induction l with
  | nil => simp [belowN]
  | cons b l ih =>
    rw [belowN_cons]
    cases hb : Nat.blt b n with
    | true =>
      have : b < n := by simpa [Nat.blt_eq] using hb
      simp only [ite'_true, List.mem_cons, ih]
      constructor
      · rintro (rfl | h)
        · exact ⟨.inl rfl, this⟩
        · exact ⟨.inr h.1, h.2⟩
      · rintro ⟨h | h, h'⟩
        · exact .inl h
        · exact .inr ⟨h, h'⟩
    | false =>
      have : ¬ b < n := fun h => by simp [← Nat.blt_eq, hb] at h
      simp only [ite'_false, List.mem_cons, ih]
      constructor
      · rintro ⟨h, h'⟩; exact ⟨.inr h, h'⟩
      · rintro ⟨rfl | h, h'⟩
        · exact absurd h' this
        · exact ⟨h, h'⟩
theorem belowN_nodup {n : Nat} {l : List Nat} (h : l.Nodup) : (belowN n l).Nodup := by
  induction l with
  | nil => exact h
  | cons b l ih =>
    rw [belowN_cons]
    rw [List.nodup_cons] at h
    cases Nat.blt b n with
    | true => rw [ite'_true, List.nodup_cons]; exact ⟨fun hm => h.1 (mem_belowN.1 hm).1, ih h.2⟩
    | false => exact ih h.2
theorem fromOn_cons (b a : Nat) (l : List Nat) : fromOn b (a :: l) = ite' (Nat.ble b a) (a :: fromOn b l) (fromOn b l) := rfl
theorem mem_fromOn {n a : Nat} {l : List Nat} (h : a ∈ fromOn n l) : a ∈ l ∧ n ≤ a := by
  induction l with
  | nil => cases h
  | cons b l ih =>
    rw [fromOn_cons] at h
    cases hb : Nat.ble n b with
    | true =>
      rw [hb] at h
      rcases List.mem_cons.1 h with rfl | h
      · exact ⟨.head _, Nat.le_of_ble_eq_true hb⟩
      · exact ⟨.tail _ (ih h).1, (ih h).2⟩
    | false => rw [hb] at h; exact ⟨.tail _ (ih h).1, (ih h).2⟩
theorem fromOn_nodup {n : Nat} {l : List Nat} (h : l.Nodup) : (fromOn n l).Nodup := by
  induction l with
  | nil => exact h
  | cons b l ih =>
    rw [fromOn_cons]
    rw [List.nodup_cons] at h
    cases Nat.ble n b with
    | true => rw [ite'_true, List.nodup_cons]; exact ⟨fun hm => h.1 (mem_fromOn hm).1, ih h.2⟩
    | false => exact ih h.2
theorem pick_length (H : Heap) (m : Nat → Option Nat) (l : List Nat) : (pick H m l).length = l.length := by
  induction l with
  | nil => rfl
  | cons a l ih => exact congrArg (· + 1) ih
theorem pick_get (H : Heap) (m : Nat → Option Nat) (l : List Nat) (i : Nat) : hget (pick H m l) i = match l[i]? with | some a => (hget H a).ren m | none => .dead := by
  induction l generalizing i with
  | nil => rfl
  | cons a l ih => cases i with
    | zero => rfl
    | succ i => exact (ih i).trans (by simp)
theorem pickRo_length (H : Heap) (m : Nat → Option Nat) (l : List Nat) : (pickRo H m l).length = l.length := by
  induction l with
  | nil => rfl
  | cons a l ih => exact congrArg (· + 1) ih
theorem pickRo_get (H : Heap) (m : Nat → Option Nat) (l : List Nat) (i : Nat) : hget (pickRo H m l) i = match l[i]? with | some a => ((hget H a).ren m).ro | none => .dead := by
  induction l generalizing i with
  | nil => rfl
  | cons a l ih => cases i with
    | zero => rfl
    | succ i => exact (ih i).trans (by simp)
/-! ### objects, renamed -/
theorem OR.dull {ρ ρ' : Rho} {a a' : Nat} {w w' : World} {o : AObj} (h : OR C ρ a w o) (hl : o.live = false) (hg : ρ'.g a' = ρ.g a) : OR C ρ' a' w' o := by
  cases o with
  | dead => trivial
  | row rw f cs =>
    simp [AObj.live] at hl
    subst hl
    exact ⟨fun i v hv => by simp at hv, RowR.flat h, fun _ hne => absurd rfl hne, fun h1 h2 => by rw [hg]; exact RowR.nil h h1 h2⟩
  | map rw es => cases hl
  | loop rw st tmps ps asg body pd => cases hl
theorem renL_length (m : Nat → Option Nat) (l : List AVal) : (AVal.renL m l).length = l.length := by rw [renL_eq]; simp
theorem isEmpty_length {α β : Type} {l : List α} {k : List β} (h : l.length = k.length) : l.isEmpty = k.isEmpty := by cases l <;> cases k <;> simp at h <;> rfl
@[simp] theorem ren_rw (o : AObj) (m : Nat → Option Nat) : (o.ren m).isRw = o.isRw := by cases o with
  | row rw f cs => cases f with
    | false => show (rw && !(AVal.renL m cs).isEmpty) = (rw && !cs.isEmpty); rw [isEmpty_length (renL_length m cs)]
    | true => rfl
  | _ => rfl
@[simp] theorem ren_live (o : AObj) (m : Nat → Option Nat) : (o.ren m).live = o.live := by cases o with
  | row rw f cs => cases f with
    | false => show (!(AVal.renL m cs).isEmpty) = (!cs.isEmpty); rw [isEmpty_length (renL_length m cs)]
    | true => rfl
  | _ => rfl
@[simp] theorem ro_rw (o : AObj) : o.ro.isRw = false := by cases o <;> rfl
theorem ro_live (o : AObj) (h : o.ro.live = true) : o.live = true := by cases o with
  | row rw f cs => 
    exact h
  | dead => cases h
  | _ => rfl
theorem OR.ro {ρ : Rho} {a : Nat} {w : World} {o : AObj} (h : OR C ρ a w o) : OR C ρ a w o.ro := by
  cases o with
  | dead => trivial
  | row rw f cs => exact ⟨RowR.cell h, RowR.flat h, (fun h => by cases h), fun h => by cases h⟩
  | map rw es => exact h
  | loop rw st tmps ps asg body pd => exact h
theorem MR.flat {ρ ρ' : Rho} {es : List (AVal × AVal)} {ms : List MapEntry} (h : MR ρ es ms) : MR ρ' es ms := by
  induction h with
  | nil => exact .nil
  | cons p m ps ms h hs ih => exact .cons _ _ _ _ ⟨flat_VR _ _ h.flat.1 h.keyR, flat_VR _ _ h.flat.2 h.valR, h.flat⟩ ih
theorem OR.ren {ρ ρ' : Rho} {a b : Nat} {w : World} {o : AObj} {m : Nat → Option Nat} (hm : ∀ a b, ρ.has a → m a = some b → b < ρ'.n ∧ ρ'.g b = ρ.g a) (h : OR C ρ a w o) (hg : ρ'.g b = ρ.g a) : OR C ρ' b w (o.ren m) := by
  cases o with
  | dead => trivial
  | row rw f cs =>
    cases f with
    | false =>
      show RowR ρ' (ρ'.g b) rw false (AVal.renL m cs) w
      rw [hg]
      refine ⟨fun i v hv => ?_, (by intro h; cases h), fun hr hne => ?_, fun hr hn => RowR.nil h hr (by rw [renL_eq] at hn; simpa using hn)⟩
      · rw [renL_eq, List.getElem?_map] at hv
        cases hc : cs[i]? with
        | none => rw [hc] at hv; cases hv
        | some u =>
          rw [hc] at hv; cases hv
          obtain ⟨x, h1, h2, h3⟩ := RowR.cell h i u hc
          exact ⟨x, h1, h2, ren_VR hm _ _ h3⟩
      · obtain ⟨h1, h2, h3⟩ := RowR.rw h hr (by intro h0; subst h0; exact hne rfl)
        exact ⟨h1, by rw [renL_length]; exact h2, h3⟩
    | true =>
      show RowR ρ' (ρ'.g b) rw true cs w
      rw [hg]
      refine ⟨fun i v hv => ?_, RowR.flat h, RowR.rw h, RowR.nil h⟩
      obtain ⟨x, h1, h2, h3⟩ := RowR.cell h i v hv
      exact ⟨x, h1, h2, flat_VR _ _ ((flatL_iff cs).1 (RowR.flat h rfl) v (List.mem_of_getElem? hv)) h3⟩
  | map rw es =>
    obtain ⟨en, cl, h1, h2⟩ := h
    exact ⟨en, cl, by rw [hg]; exact h1, h2.flat⟩
  | loop rw st tmps ps asg body pd =>
    obtain ⟨L, h1, h2⟩ := h
    refine ⟨L, by rw [hg]; exact h1, h2.st, ?_, h2.ps, h2.pd⟩
    obtain ⟨N, h3, h4⟩ := h2.tmps
    exact ⟨N, h3.ren hm, h4⟩
/-! ### what is handed over -/
def rhoIn (ρ : Rho) (keep : List Nat) : Rho := ⟨keep.length, fun i => match keep[i]? with | some a => ρ.g a | none => ρ.g 0⟩
theorem rhoIn_m (ρ : Rho) (keep : List Nat) : ∀ a b, ρ.has a → mapIn keep a = some b → b < (rhoIn ρ keep).n ∧ (rhoIn ρ keep).g b = ρ.g a := fun a b _ h => by
  have h1 := mapIn_some h
  exact ⟨(List.getElem?_eq_some_iff.1 h1).1, by simp [rhoIn, h1]⟩
theorem nodup_inj {l : List Nat} (h : l.Nodup) {i j a : Nat} (hi : l[i]? = some a) (hj : l[j]? = some a) : i = j := by
  induction l generalizing i j with
  | nil => cases hi
  | cons b l ih =>
    rw [List.nodup_cons] at h
    cases i with
    | zero => cases j with
      | zero => rfl
      | succ j => simp at hi hj; subst hi; exact absurd (List.mem_of_getElem? hj) h.1
    | succ i => cases j with
      | zero => simp at hi hj; subst hj; exact absurd (List.mem_of_getElem? hi) h.1
      | succ j => simp at hi hj; rw [ih h.2 hi hj]
theorem SR.pick {ρ : Rho} {H : Heap} {w : World} (hs : SR C ρ H w) {keep : List Nat} (hk : keep.Nodup) (H0 : Heap) (hl : H0.length = keep.length)
    (hget0 : ∀ i, hget H0 i = (match keep[i]? with | some a => (hget H a).ren (mapIn keep) | none => .dead) ∨ hget H0 i = (match keep[i]? with | some a => ((hget H a).ren (mapIn keep)).ro | none => .dead)) : SR C (rhoIn ρ keep) H0 w := by
  have hrw : ∀ i, (hget H0 i).isRw = true → ∃ a, keep[i]? = some a ∧ (hget H a).isRw = true := fun i h => by
    rcases hget0 i with h0 | h0 <;> rw [h0] at h <;> split at h
    · exact ⟨_, by assumption, by simpa using h⟩
    · cases h
    · simp at h
    · cases h
  have hlv : ∀ i, (hget H0 i).live = true → ∃ a, keep[i]? = some a ∧ (hget H a).live = true := fun i h => by
    rcases hget0 i with h0 | h0 <;> rw [h0] at h <;> split at h
    · exact ⟨_, by assumption, by simpa using h⟩
    · cases h
    · exact ⟨_, by assumption, by simpa using ro_live _ h⟩
    · cases h
  refine ⟨hl.symm, fun i => ?_, fun i j hij hi hj => ?_⟩
  · have key : ∀ a, keep[i]? = some a → OR C (rhoIn ρ keep) i w ((hget H a).ren (mapIn keep)) := fun a ha => (hs.obj a).ren (rhoIn_m ρ keep) (by simp [rhoIn, ha])
    rcases hget0 i with h0 | h0 <;> rw [h0] <;> split
    · exact key _ (by assumption)
    · trivial
    · exact (key _ (by assumption)).ro
    · trivial
  · obtain ⟨a, ha, h1⟩ := hrw i hi
    obtain ⟨c, hc, h2⟩ := hlv j hj
    have hne : a ≠ c := fun h => by
      subst h
      exact hij (nodup_inj hk ha hc)
    simp only [rhoIn, ha, hc]
    exact hs.apart a c hne h1 h2
/-! ### what is put back -/
theorem backTo_get {m : Nat → Option Nat} : ∀ {keep : List Nat} {K H : Heap}, keep.Nodup → keep.length = K.length → (∀ a ∈ keep, a < H.length) →
    (∀ i a, keep[i]? = some a → hget (backTo m keep K H) a = (hget K i).ren m) ∧ (∀ c, c ∉ keep → hget (backTo m keep K H) c = hget H c) ∧ (backTo m keep K H).length = H.length := by
  intro keep
  induction keep with
  | nil => intro K H _ _ _; exact ⟨fun i a h => by simp at h, fun c _ => rfl, rfl⟩
  | cons b keep ih =>
    intro K H hn hl hb
    cases K with
    | nil => simp at hl
    | cons o K =>
      rw [List.nodup_cons] at hn
      have h0 : backTo m (b :: keep) (o :: K) H = backTo m keep K (upd H b (o.ren m)) := rfl
      rw [h0, upd_eq]
      obtain ⟨h1, h2, h3⟩ := ih (K := K) (H := H.set b (o.ren m)) hn.2 (by simpa using hl) (fun a ha => by rw [List.length_set]; exact hb a (.tail _ ha))
      refine ⟨fun i a ha => ?_, fun c hc => ?_, by rw [h3, List.length_set]⟩
      · cases i with
        | zero =>
          simp at ha; subst ha
          rw [h2 b hn.1, hget_set (hb b (.head _)), if_pos rfl]; rfl
        | succ i => simp at ha; exact h1 i a ha
      · rw [h2 c (fun h => hc (.tail _ h)), hget_set (hb b (.head _)), if_neg (fun h => hc (by subst h; exact .head _))]
def rhoOut (ρ ρ1 : Rho) (n : Nat) (new : List Nat) : Rho := ⟨n + new.length, fun c => if c < n then ρ.g c else match new[c - n]? with | some i => ρ1.g i | none => ρ.g 0⟩
def RunOK (C : ACode → Code → Nat → Prop) (P : Program) (f : FuncId) (args : List AVal) (H : Heap) (v : AVal) (H' : Heap) : Prop :=
  ∀ (ρ : Rho) (w : World) (xs : List Value), VRL ρ args xs → SR C ρ H w →
    CallsIn Fence.wide 0 P f xs.toArray w fun e w' => ∃ x ρ', e = .returned x ∧ VR ρ' v x ∧ Step C H.length ρ H w ρ' H' w' ∧ H.length ≤ H'.length
theorem back_sound {ρ ρ1 : Rho} {H H0 H1 : Heap} {w w' : World} {keep new : List Nat} {quiet : Bool} {v : AVal} {x : Value} (hs : SR C ρ H w) (hk : keep.Nodup) (hlt : ∀ a ∈ keep, a < H.length) (hl : H0.length = keep.length)
    (hget0 : ∀ i, hget H0 i = (match keep[i]? with | some a => ite' quiet ((hget H a).ren (mapIn keep)).ro ((hget H a).ren (mapIn keep)) | none => .dead))
    (hst : Step C H0.length (rhoIn ρ keep) H0 w ρ1 H1 w') (hl1 : H0.length ≤ H1.length) (hv : VR ρ1 v x) (hn : new.Nodup) (hge : ∀ i ∈ new, keep.length ≤ i) :
    ∃ ρ', VR ρ' (backOn quiet keep H v H1 new).1 x ∧ Step C H.length ρ H w ρ' (backOn quiet keep H v H1 new).2 w' ∧ H.length ≤ (backOn quiet keep H v H1 new).2.length := by
  let m := mapOut keep new (len keep) (len H)
  let ρ2 := rhoOut ρ ρ1 H.length new
  have keepR : ∀ i a, keep[i]? = some a → ρ1.g i = ρ.g a := fun i a ha => by
    have hi : i < H0.length := by rw [hl]; exact (List.getElem?_eq_some_iff.1 ha).1
    rw [hst.rho i hi]; simp [rhoIn, ha]
  have old2 : ∀ c, c < H.length → ρ2.g c = ρ.g c := fun c hc => by simp [ρ2, rhoOut, hc]
  have new2 : ∀ j i, new[j]? = some i → ρ2.g (H.length + j) = ρ1.g i := fun j i hi => by
    show (if H.length + j < H.length then ρ.g (H.length + j) else match new[H.length + j - H.length]? with | some i => ρ1.g i | none => ρ.g 0) = ρ1.g i
    rw [if_neg (by omega), Nat.add_sub_cancel_left, hi]
  have hm : ∀ i c, ρ1.has i → m i = some c → c < ρ2.n ∧ ρ2.g c = ρ1.g i := fun i c hi hc => by
    have h1 : ite' (Nat.blt i (len keep)) (nth keep i) (ob (idx i new 0) fun j => some (Nat.add (len H) j)) = some c := hc
    rw [len_eq, len_eq, nth_eq] at h1
    cases hb : Nat.blt i keep.length with
    | true =>
      rw [hb] at h1
      have hc' := hlt c (List.mem_of_getElem? h1)
      exact ⟨by show c < H.length + new.length; omega, by rw [old2 c hc', keepR i c h1]⟩
    | false =>
      rw [hb] at h1
      obtain ⟨j, hj, h2⟩ := ob_eq h1
      cases h2
      have h3 := (idx_some hj).2
      simp only [Nat.sub_zero] at h3
      have : j < new.length := (List.getElem?_eq_some_iff.1 h3).1
      exact ⟨Nat.add_lt_add_left this _, new2 j i h3⟩
  have h1g : ∀ i, OR C ρ1 i w' (hget H1 i) := hst.sr.obj
  have hrw0 : ∀ i, (hget H0 i).isRw = true → ∃ a, keep[i]? = some a ∧ (hget H a).isRw = true ∧ quiet = false := fun i h => by
    rw [hget0] at h
    split at h
    · cases quiet with
      | false => exact ⟨_, by assumption, by simpa using h, rfl⟩
      | true => simp at h
    · cases h
  have hlv0 : ∀ i, (hget H0 i).live = true → ∃ a, keep[i]? = some a ∧ (hget H a).live = true := fun i h => by
    rw [hget0] at h
    split at h
    · cases quiet with
      | false => exact ⟨_, by assumption, by simpa using h⟩
      | true => exact ⟨_, by assumption, by simpa using ro_live _ h⟩
    · cases h
  -- the elder objects
  let Hb := ite' quiet H (backTo m keep (fst H1 (len keep)) H)
  have hbk := backTo_get (m := m) (keep := keep) (K := fst H1 (len keep)) (H := H) hk (by rw [fst_eq, len_eq, List.length_take]; omega) hlt
  have hbl : Hb.length = H.length := by
    cases hq : quiet with
    | true => simp [Hb, hq]
    | false => simp only [Hb, hq, ite'_false]; exact hbk.2.2
  have hb : ∀ c, c < H.length → (hget Hb c = hget H c ∧ (c ∉ keep ∨ quiet = true)) ∨ ∃ i, keep[i]? = some c ∧ quiet = false ∧ hget Hb c = (hget H1 i).ren m := fun c hc => by
    cases hq : quiet with
    | true => left; simp [Hb, hq]
    | false =>
      simp only [Hb, hq, ite'_false]
      by_cases hck : c ∈ keep
      · obtain ⟨i, hi⟩ := List.getElem?_of_mem hck
        right
        refine ⟨i, hi, trivial, ?_⟩
        rw [hbk.1 i c hi, fst_eq, len_eq, hget_eq, hget_eq, List.getElem?_take_of_lt (List.getElem?_eq_some_iff.1 hi).1]
      · left; exact ⟨hbk.2.1 c hck, .inl hck⟩
  let H2 := Hb ++ pick H1 m new
  have e2 : (backOn quiet keep H v H1 new) = (v.ren m, H2) := by
    show (v.ren m, apd (ite' quiet H (backTo m keep (fst H1 (len keep)) H)) (pick H1 m new)) = _
    rw [apd_eq]
  rw [e2]
  have hl2 : H2.length = H.length + new.length := by simp only [H2, List.length_append, pick_length, hbl]
  -- each object of the new heap: an elder one, untouched; one that was handed over; a new one
  have cases2 : ∀ c, hget H2 c ≠ .dead →
      (c < H.length ∧ hget H2 c = hget H c ∧ (c ∉ keep ∨ quiet = true)) ∨ (∃ i, i < H0.length ∧ keep[i]? = some c ∧ quiet = false ∧ hget H2 c = (hget H1 i).ren m ∧ ρ2.g c = ρ1.g i) ∨
      (∃ i, H0.length ≤ i ∧ (∃ j, new[j]? = some i ∧ c = H.length + j) ∧ hget H2 c = (hget H1 i).ren m ∧ ρ2.g c = ρ1.g i) := fun c hcl => by
    rcases Nat.lt_or_ge c H.length with hc | hc
    · have h0 : hget H2 c = hget Hb c := hget_append_old (by rw [hbl]; exact hc)
      rcases hb c hc with ⟨h1, h2⟩ | ⟨i, h1, h2, h3⟩
      · exact .inl ⟨hc, by rw [h0, h1], h2⟩
      · exact .inr (.inl ⟨i, by rw [hl]; exact (List.getElem?_eq_some_iff.1 h1).1, h1, h2, by rw [h0, h3], by rw [old2 c hc, keepR i c h1]⟩)
    · have hc2 : c < H2.length := hget_live hcl
      have h0 : hget H2 c = hget (pick H1 m new) (c - H.length) := by
        rw [hget_eq, hget_eq, List.getElem?_append_right (by rw [hbl]; exact hc), hbl]
      rw [pick_get] at h0
      have hj : c - H.length < new.length := by rw [hl2] at hc2; omega
      have hj' := List.getElem?_eq_getElem hj
      rw [hj'] at h0
      exact .inr (.inr ⟨new[c - H.length], by rw [hl]; exact hge _ (List.getElem_mem hj), ⟨c - H.length, hj', by omega⟩, h0, by
        have := new2 _ _ hj'; rwa [show H.length + (c - H.length) = c from by omega] at this⟩)
  have old_ext : Ext ρ ρ2 := ⟨by rw [hs.n]; exact Nat.le_add_right _ _, fun c hc => old2 c (by rw [← hs.n]; exact hc.1)⟩
  have same : ∀ c, c < H.length → (hget H c).live = true → (c ∉ keep ∨ quiet = true) → w'.heap[(ρ.g c).b]? = w.heap[(ρ.g c).b]? := fun c hc hl' hck => by
    refine hst.frame _ ((hs.obj c).live_lt hl') fun i hi he => ?_
    obtain ⟨a, ha, hra, hq⟩ := hrw0 i hi
    rcases hck with hck | hck
    · have hne : a ≠ c := fun h => by subst h; exact hck (List.mem_of_getElem? ha)
      exact hs.apart a c hne hra hl' (by simpa [rhoIn, ha] using he)
    · rw [hq] at hck; cases hck
  have obj2 : ∀ c, OR C ρ2 c w' (hget H2 c) := fun c => by
    by_cases hcl : hget H2 c = .dead
    · rw [hcl]; trivial
    · rcases cases2 c hcl with ⟨hc, h1, h2⟩ | ⟨i, hi, h1, h2, h3, h4⟩ | ⟨i, hi, h1, h3, h4⟩
      · rw [h1]
        cases hlv : (hget H c).live with
        | true => exact (hs.obj c).keep old_ext (old2 c hc) fun _ => same c hc hlv h2
        | false => exact (hs.obj c).dull hlv (old2 c hc)
      · rw [h3]; exact (h1g i).ren hm h4
      · rw [h3]; exact (h1g i).ren hm h4
  -- where a written object of the callee's lies
  have place : ∀ i, (hget H1 i).isRw = true → w.heap.size ≤ (ρ1.g i).b ∨ ∃ a j, keep[j]? = some a ∧ (hget H a).isRw = true ∧ (ρ.g a).b = (ρ1.g i).b := fun i hi => by
    rcases hst.own i hi with h | ⟨c, hc, he⟩
    · exact .inl h
    · obtain ⟨a, ha, hra, _⟩ := hrw0 c hc
      exact .inr ⟨a, c, ha, hra, by simpa [rhoIn, ha] using he⟩
  have placeL : ∀ i, H0.length ≤ i → (hget H1 i).live = true → w.heap.size ≤ (ρ1.g i).b ∨ ∃ a j, keep[j]? = some a ∧ (hget H a).isRw = true ∧ quiet = false ∧ (ρ.g a).b = (ρ1.g i).b := fun i hi0 hi => by
    rcases hst.fresh i hi0 hi with h | ⟨c, hc | hc, he⟩
    · exact .inl h
    · obtain ⟨a, ha, hra, hq⟩ := hrw0 c hc
      exact .inr ⟨a, c, ha, hra, hq, by simpa [rhoIn, ha] using he⟩
    · have := hget_live (H := H0) (a := c) (by intro h; rw [h] at hc; cases hc.2)
      omega
  have liveK : ∀ i c, i < H0.length → keep[i]? = some c → (hget H1 i).live = true → (hget H c).live = true := fun i c hi hc hl' => by
    obtain ⟨a, ha, hla⟩ := hlv0 i (hst.live i hi hl')
    rw [hc] at ha; cases ha; exact hla
  have apart2 : ∀ a c, a ≠ c → (hget H2 a).isRw = true → (hget H2 c).live = true → (ρ2.g a).b ≠ (ρ2.g c).b := fun a c hac ha hc => by
    rcases cases2 a (live_ne (isRw_live ha)) with ⟨ha0, h1, h2⟩ | ⟨i, hi, h1, h2, h3, h4⟩ | ⟨i, hi, ⟨ji, h1, h1'⟩, h3, h4⟩
    · rw [h1] at ha
      have hal := (hs.obj a).rw_lt ha
      rw [old2 a ha0]
      rcases cases2 c (live_ne hc) with ⟨hc0, k1, k2⟩ | ⟨j, hj, k1, k2, k3, k4⟩ | ⟨j, hj, ⟨jj, k1, k1'⟩, k3, k4⟩
      · rw [k1] at hc; rw [old2 c hc0]; exact hs.apart a c hac ha hc
      · rw [k3] at hc; simp only [ren_live] at hc
        rw [k4, keepR j c k1]
        exact hs.apart a c hac ha (liveK j c hj k1 hc)
      · rw [k3] at hc; simp only [ren_live] at hc
        rw [k4]
        rcases placeL j hj hc with h | ⟨d, jd, hd, hrd, hq, he⟩
        · omega
        · rw [← he]
          have hne : a ≠ d := fun h => by
            subst h
            rcases h2 with h2 | h2
            · exact h2 (List.mem_of_getElem? hd)
            · rw [hq] at h2; cases h2
          exact hs.apart a d hne ha (isRw_live hrd)
    · rw [h3] at ha; simp only [ren_rw] at ha
      rw [h4]
      rcases cases2 c (live_ne hc) with ⟨hc0, k1, k2⟩ | ⟨j, hj, k1, k2, k3, k4⟩ | ⟨j, hj, ⟨jj, k1, k1'⟩, k3, k4⟩
      · rw [k1] at hc; rw [old2 c hc0]
        have hcl := (hs.obj c).live_lt hc
        rcases place i ha with h | ⟨d, jd, hd, hrd, he⟩
        · omega
        · rw [← he]
          have hne : d ≠ c := fun h => by
            subst h
            rcases k2 with k2 | k2
            · exact k2 (List.mem_of_getElem? hd)
            · rw [h2] at k2; cases k2
          exact hs.apart d c hne hrd hc
      · rw [k3] at hc; simp only [ren_live] at hc
        rw [k4]
        exact hst.sr.apart i j (fun h => hac (by subst h; rw [h1] at k1; exact Option.some.inj k1)) ha hc
      · rw [k3] at hc; simp only [ren_live] at hc
        rw [k4]
        exact hst.sr.apart i j (by omega) ha hc
    · rw [h3] at ha; simp only [ren_rw] at ha
      rw [h4]
      rcases cases2 c (live_ne hc) with ⟨hc0, k1, k2⟩ | ⟨j, hj, k1, k2, k3, k4⟩ | ⟨j, hj, ⟨jj, k1, k1'⟩, k3, k4⟩
      · rw [k1] at hc; rw [old2 c hc0]
        have hcl := (hs.obj c).live_lt hc
        rcases placeL i hi (isRw_live ha) with h | ⟨d, jd, hd, hrd, hq, he⟩
        · omega
        · rw [← he]
          have hne : d ≠ c := fun h => by
            subst h
            rcases k2 with k2 | k2
            · exact k2 (List.mem_of_getElem? hd)
            · rw [hq] at k2; cases k2
          exact hs.apart d c hne hrd hc
      · rw [k3] at hc; simp only [ren_live] at hc
        rw [k4]
        exact hst.sr.apart i j (by omega) ha hc
      · rw [k3] at hc; simp only [ren_live] at hc
        rw [k4]
        refine hst.sr.apart i j (fun h => hac ?_) ha hc
        subst h
        rw [h1', k1', nodup_inj hn h1 k1]
  refine ⟨ρ2, ren_VR hm _ _ hv, ⟨fun c hc => old2 c hc, ⟨by rw [hl2]; rfl, obj2, apart2⟩, hst.os, hst.tape, hst.output, hst.size, fun i hi hn' => hst.frame i hi fun c hc => ?_, fun c hc => ?_, fun c hc hl' => ?_, fun c hc hl' => ?_⟩, by rw [hl2]; omega⟩
  · obtain ⟨a, ha, hra, _⟩ := hrw0 c hc
    simpa [rhoIn, ha] using hn' a hra
  · rcases cases2 c (live_ne (isRw_live hc)) with ⟨hc0, k1, k2⟩ | ⟨j, hj, k1, k2, k3, k4⟩ | ⟨j, hj, ⟨jj, k1, k1'⟩, k3, k4⟩
    · rw [k1] at hc; exact .inr ⟨c, hc, by rw [old2 c hc0]⟩
    · rw [k3] at hc; simp only [ren_rw] at hc
      rw [k4]
      rcases place j hc with h | ⟨d, jd, hd, hrd, he⟩
      · exact .inl h
      · exact .inr ⟨d, hrd, he⟩
    · rw [k3] at hc; simp only [ren_rw] at hc
      rw [k4]
      rcases place j hc with h | ⟨d, jd, hd, hrd, he⟩
      · exact .inl h
      · exact .inr ⟨d, hrd, he⟩
  · rcases cases2 c (live_ne hl') with ⟨hc0, k1, k2⟩ | ⟨j, hj, k1, k2, k3, k4⟩ | ⟨j, hj, ⟨jj, k1, k1'⟩, k3, k4⟩
    · rw [k1] at hl'; exact hl'
    · rw [k3] at hl'; simp only [ren_live] at hl'; exact liveK j c hj k1 hl'
    · omega
  · rcases cases2 c (live_ne hl') with ⟨hc0, k1, k2⟩ | ⟨j, hj, k1, k2, k3, k4⟩ | ⟨j, hj, ⟨jj, k1, k1'⟩, k3, k4⟩
    · omega
    · have := hlt c (List.mem_of_getElem? k1); omega
    · rw [k3] at hl'; simp only [ren_live] at hl'
      rw [k4]
      rcases placeL j hj hl' with h | ⟨d, jd, hd, hrd, hq, he⟩
      · exact .inl h
      · exact .inr ⟨d, .inl hrd, he⟩
theorem callOn_sound {f : FuncId} {run : List AVal → Heap → Option (AVal × Heap)} (hrun : ∀ args H v H', run args H = some (v, H') → RunOK C P f args H v H') {quiet : Bool} {args : List AVal} {H : Heap} {v : AVal} {H' : Heap}
    (h : callOn run quiet args H = some (v, H')) : RunOK C P f args H v H' := by
  intro ρ w xs hx hs
  unfold callOn at h
  generalize hkd : belowN (len H) (reach H reachFuel (AVal.namesL args) []) = keep at h
  have hk : keep.Nodup := by rw [← hkd]; exact belowN_nodup (reach_nodup (by simp))
  have hlt : ∀ a ∈ keep, a < H.length := fun a ha => by rw [← hkd, len_eq] at ha; exact (mem_belowN.1 ha).2
  obtain ⟨r, hr, h⟩ := ob_eq h
  cases h
  generalize hH0 : ite' quiet (pickRo H (mapIn keep) keep) (pick H (mapIn keep) keep) = H0 at hr
  have hl : H0.length = keep.length := by rw [← hH0]; cases quiet <;> simp [pick_length, pickRo_length]
  have hg : ∀ i, hget H0 i = (match keep[i]? with | some a => ite' quiet ((hget H a).ren (mapIn keep)).ro ((hget H a).ren (mapIn keep)) | none => .dead) := fun i => by
    rw [← hH0]; cases quiet
    · exact pick_get H _ keep i
    · exact pickRo_get H _ keep i
  have hs0 : SR C (rhoIn ρ keep) H0 w := hs.pick hk H0 hl fun i => by
    rw [hg i]; cases quiet
    · exact .inl (by cases keep[i]? <;> rfl)
    · exact .inr (by cases keep[i]? <;> rfl)
  refine (hrun _ _ _ _ (by exact hr) (rhoIn ρ keep) w xs (unexV_VRL (renL_VRL (rhoIn_m ρ keep) hx)) hs0).mono ?_
  rintro e w' ⟨x, ρ1, rfl, hv, hst, hl1⟩
  have hnn : (newOn quiet (len keep) r.1 r.2).Nodup := fromOn_nodup (reach_nodup (by simp))
  have hge : ∀ i ∈ newOn quiet (len keep) r.1 r.2, keep.length ≤ i := fun i hi => by have := (mem_fromOn hi).2; rwa [len_eq] at this
  obtain ⟨ρ', h1, h2, h3⟩ := back_sound (quiet := quiet) hs hk hlt hl hg hst hl1 hv hnn hge
  exact ⟨x, ρ', rfl, h1, h2, h3⟩
end
end Go.AI
