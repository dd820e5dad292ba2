/-
  HEAPS WITH GAPS: names that no operation has made yet; steps that are taken in a part of such a heap.
-/
import Derived.Test.YtcghmpalmedkiaaLAiReg
set_option linter.unusedVariables false
set_option linter.unusedSimpArgs false
namespace Go.AI
section
variable {C : ACode → Code → Nat → Prop} {P : Program}
/-! ### only names below a number -/
def cutN (lo a : Nat) : Option Nat := if a < lo then some a else none
def WFv (lo : Nat) (v : AVal) : Prop := v.ren (cutN lo) = v
theorem VR.wf {ρ : Rho} (v : AVal) : ∀ x, VR ρ v x → WFv ρ.n v := by
  refine AVal.rec (motive_1 := fun v => ∀ x, VR ρ v x → WFv ρ.n v) (motive_2 := fun l => ∀ l', VRL ρ l l' → AVal.renL (cutN ρ.n) l = l)
    ?_ ?_ ?_ ?_ ?_ ?_ ?_ ?_ ?_ ?_ ?_ ?_ ?_ ?_ ?_ ?_ ?_ ?_ v
  · intro x _; rfl
  · intro b x h; rfl
  · intro k n x h; rfl
  · intro s x h; rfl
  · intro x h; rfl
  · intro x h; rfl
  · intro x h; rfl
  · intro x h; rfl
  · intro x h; rfl
  · intro a off x h; cases h with | ptr _ _ hn =>
    show namedN (cutN ρ.n a.base) a (fun b => .ptr b off) = _
    rw [cutN, if_pos hn.1]; show AVal.ptr (a.to a.base) off = _; rw [to_self rfl]
  · intro a off l c z e x h; cases h with | slice _ _ _ _ _ _ A cap' hn h1 h2 h3 h4 h5 =>
    show namedN (cutN ρ.n a.base) a (fun b => .slice b off l c z e) = _
    rw [cutN, if_pos hn.1]; show AVal.slice (a.to a.base) off l c z e = _; rw [to_self rfl]
  · intro a x h; cases h with | map _ hn =>
    show named (cutN ρ.n a) .map = _
    rw [cutN, if_pos (show a < ρ.n from hn.1)]; rfl
  · intro f a b iha ihb x h; cases h with | func _ _ _ xs' ys' h1 h2 =>
    show (AVal.func f a b).ren _ = _
    rw [ren_func, iha _ h1, ihb _ h2]
  · intro a x h; cases h with | yield _ hn =>
    show named (cutN ρ.n a) .yield = _
    rw [cutN, if_pos (show a < ρ.n from hn.1)]; rfl
  · intro cs ih x h; cases h with | agg _ xs' h => show (AVal.agg cs).ren _ = _; rw [ren_agg, ih _ h]
  · intro cs ih x h; cases h with | tup _ xs' h => show (AVal.tup cs).ren _ = _; rw [ren_tup, ih _ h]
  · intro l' h; rfl
  · intro v vs ih ihs l' h; cases h with | cons _ x' _ xs' hx hs =>
    rw [renL_cons, ihs _ hs]; have : v.ren (cutN ρ.n) = v := ih _ hx; rw [this]
def Rho.cut (ρ : Rho) (m : Nat) : Rho := ⟨m, ρ.g⟩
theorem cut_hm (ρ : Rho) (m : Nat) : ∀ (a : Nm) b, ρ.has a → cutN m a.base = some b → b < (ρ.cut m).n ∧ (ρ.cut m).g (a.to b) = ρ.g a := fun a b _ h => by
  unfold cutN at h
  split at h
  · cases h; exact ⟨by assumption, by rw [to_self rfl]; rfl⟩
  · cases h
theorem VR.cut {ρ : Rho} {v : AVal} {x : Value} {m : Nat} (h : VR ρ v x) (hw : WFv m v) : VR (ρ.cut m) v x := by
  have := ren_VR (cut_hm ρ m) v x h
  unfold WFv at hw
  rwa [hw] at this
def WFo (lo : Nat) : AObj → Prop
  | .row _ f cs => f = false → ∀ v ∈ cs, WFv lo v
  | .loop _ _ tmps _ _ _ _ => ∀ t, WFv lo (eget tmps t)
  | _ => True
theorem OR.wf {ρ : Rho} {a : Nm} {w : World} {o : AObj} (h : OR C ρ a w o) : WFo ρ.n o := by
  cases o with
  | dead => trivial
  | row rw f cs =>
    intro _ v hv
    obtain ⟨i, hi⟩ := List.getElem?_of_mem hv
    obtain ⟨x, h1, h2, h3⟩ := RowR.cell h i v hi
    exact h3.wf
  | map rw es => trivial
  | loop rw st tmps ps asg body pd =>
    obtain ⟨L, h1, h2⟩ := h
    obtain ⟨N, h3, h4⟩ := h2.tmps
    exact fun t => (h3.2 t).wf
  | mat rw rows => trivial
theorem OR.cut {ρ : Rho} {a : Nm} {w : World} {o : AObj} {m : Nat} (h : OR C ρ a w o) (hw : WFo m o) (ha : a.base < m) : OR C (ρ.cut m) a w o := by
  cases o with
  | dead => trivial
  | row rw f cs =>
    refine ⟨fun i v hv => ?_, RowR.flat h, RowR.rw h, RowR.nil h⟩
    obtain ⟨x, h1, h2, h3⟩ := RowR.cell h i v hv
    refine ⟨x, h1, h2, ?_⟩
    cases f with
    | false => exact h3.cut (hw rfl v (List.mem_of_getElem? hv))
    | true => exact flat_VR _ _ ((flatL_iff cs).1 (RowR.flat h rfl) v (List.mem_of_getElem? hv)) h3
  | map rw es =>
    obtain ⟨en, cl, h1, h2⟩ := h
    exact ⟨en, cl, h1, h2.flat⟩
  | loop rw st tmps ps asg body pd =>
    obtain ⟨L, h1, h2⟩ := h
    obtain ⟨N, h3, h4⟩ := h2.tmps
    exact ⟨L, h1, h2.st, ⟨N, ⟨h3.1, fun t => (h3.2 t).cut (hw t)⟩, h4⟩, h2.ps, h2.pd⟩
  | mat rw rows =>
    refine ⟨⟨fun i v hv => ?_, RowR.flat h.1, RowR.rw h.1, RowR.nil h.1⟩, h.2.unset, h.2.flat⟩
    obtain ⟨x, h1, h2, h3⟩ := RowR.cell h.1 i v hv
    refine ⟨x, h1, h2, ?_⟩
    rw [hdrs_get, Nat.zero_add] at hv
    cases hr : rows[i]? with
    | none => rw [hr] at hv; cases hv
    | some r =>
      rw [hr] at hv; cases hv
      cases r with
      | none => cases h3; exact .nilSlice
      | some cs => exact hdr_ren (ρ' := ρ.cut m) h3 ha (by cases h3 with | slice _ _ _ _ _ _ A cap' hn => exact hn.2.1) rfl
theorem hget_lt {H : Heap} {a : Nat} (h : ¬ a < H.length) : hget H a = .dead := hget_out (Nat.le_of_not_lt h)
theorem WFo.see {lo : Nat} {o : AObj} (h : WFo lo o) (x : Nm) : WFo lo (see x o) := by
  cases x with
  | p a => exact h
  | v a i =>
    show WFo lo (inner i o)
    cases o with
    | mat rw rows => rw [inner_mat]; split <;> first | trivial | (intro h; cases h)
    | _ => trivial
theorem SR.part {ρ : Rho} {K V : Heap} {w : World} (hs : SR C ρ K w) (hv : ∀ a, a < V.length → hget V a = .dead ∨ (hget V a = hget K a ∨ hget V a = (hget K a).ro) ∧ WFo V.length (hget K a)) : SR C (ρ.cut V.length) V w := by
  have low : ∀ a : Nm, nget V a = .dead ∨ a.base < V.length ∧ (nget V a = nget K a ∨ nget V a = (nget K a).ro) ∧ WFo V.length (nget K a) := fun a => by
    by_cases h : a.base < V.length
    · rw [nget_see, nget_see K]
      rcases hv a.base h with h1 | ⟨h1 | h1, h2⟩ <;> rw [h1]
      · exact .inl (see_dead a)
      · exact .inr ⟨h, .inl rfl, h2.see a⟩
      · exact .inr ⟨h, .inr (see_ro a _), h2.see a⟩
    · exact .inl (nget_out (Nat.le_of_not_lt h))
  refine ⟨rfl, fun a => ?_, fun a c hac ha hc => ?_⟩
  · rcases low a with h | ⟨hl, h | h, hw⟩ <;> rw [h]
    · trivial
    · exact (hs.obj a).cut hw hl
    · exact ((hs.obj a).cut hw hl).ro
  · have h1 : (nget K a).isRw = true := by
      rcases low a with h | ⟨_, h | h, hw⟩ <;> rw [h] at ha
      · cases ha
      · exact ha
      · simp at ha
    have h2 : (nget K c).live = true := by
      rcases low c with h | ⟨_, h | h, hw⟩ <;> rw [h] at hc
      · cases hc
      · exact hc
      · exact ro_live _ hc
    exact hs.apart a c hac h1 h2
noncomputable def Rho.fill (ρ ρ1 : Rho) (lo hi : Nat) : Rho := ⟨ρ.n, fun a => if lo ≤ a.base ∧ a.base < hi then ρ1.g a else ρ.g a⟩
theorem quiet_step {ρ ρ1 : Rho} {K V H1 K' : Heap} {w w' : World} {k : Nat} (hs : SR C ρ K w) (hlo : V.length ≤ H1.length) (hhi : H1.length ≤ K.length) (hk : k ≤ V.length)
    (hro : ∀ a, (hget V a).isRw = false ∧ (hget V a).wm = false) (hst : Step C V.length (ρ.cut V.length) V w ρ1 H1 w')
    (hlv : ∀ a : Nm, a.base < V.length → (nget V a).live = true → (nget K a).live = true)
    (hgap : ∀ a, V.length ≤ a → a < H1.length → hget K a = .dead ∧ (ρ.g (.p a)).ok = false)
    (hl' : K'.length = K.length) (hK' : ∀ a, hget K' a = if V.length ≤ a ∧ a < H1.length then hget H1 a else hget K a) :
    Step C k ρ K w (ρ.fill ρ1 V.length H1.length) K' w' ∧ Ext ρ (ρ.fill ρ1 V.length H1.length) ∧ Ext ρ1 (ρ.fill ρ1 V.length H1.length) := by
  have hron : ∀ a : Nm, (nget V a).isRw = false := fun a => by
    cases a with
    | p a => exact (hro a).1
    | v a i =>
      rw [nget_v]
      have h1 := (hro a).2
      cases ho : hget V a with
      | mat rw rows =>
        rw [ho] at h1
        have h1 : rw = false := h1
        subst h1
        rw [inner_mat]; split <;> rfl
      | _ => rfl
  have old : ∀ i, i < w.heap.size → w'.heap[i]? = w.heap[i]? := fun i hi => hst.frame i hi fun a ha => by rw [hron a] at ha; cases ha
  have e1 : Ext ρ (ρ.fill ρ1 V.length H1.length) := ⟨Nat.le_refl _, fun a ha => if_neg fun h => by
    have h1 := (hgap a.base h.1 h.2).2; have h2 := ha.2.1; rw [h1] at h2; cases h2⟩
  have gin : ∀ a : Nm, V.length ≤ a.base ∧ a.base < H1.length → (ρ.fill ρ1 V.length H1.length).g a = ρ1.g a := fun a h => if_pos h
  have gout : ∀ a : Nm, ¬ (V.length ≤ a.base ∧ a.base < H1.length) → (ρ.fill ρ1 V.length H1.length).g a = ρ.g a := fun a h => if_neg h
  have glow : ∀ a : Nm, a.base < H1.length → (ρ.fill ρ1 V.length H1.length).g a = ρ1.g a := fun a h => by
    by_cases hl : V.length ≤ a.base
    · exact gin a ⟨hl, h⟩
    · rw [gout a (fun h => hl h.1)]
      cases a with
      | p a => exact (hst.rho a (Nat.lt_of_not_le hl)).symm
      | v a i => exact (hst.virt a (Nat.lt_of_not_le hl) (hro a).2 i).symm
  have e2 : Ext ρ1 (ρ.fill ρ1 V.length H1.length) := ⟨by rw [hst.sr.n]; show _ ≤ ρ.n; rw [hs.n]; exact hhi, fun a ha => glow a (by have := ha.1; rwa [hst.sr.n] at this)⟩
  have kin : ∀ a : Nm, V.length ≤ a.base ∧ a.base < H1.length → nget K' a = nget H1 a := fun a h => by rw [nget_see, hK', if_pos h, ← nget_see]
  have kout : ∀ a : Nm, ¬ (V.length ≤ a.base ∧ a.base < H1.length) → nget K' a = nget K a := fun a h => by rw [nget_see, hK', if_neg h, ← nget_see]
  have newb : ∀ a : Nm, V.length ≤ a.base ∧ a.base < H1.length → (nget H1 a).live = true → w.heap.size ≤ (ρ1.g a).b := fun a h hl => by
    rcases hst.fresh a hl with ⟨h1, _⟩ | h1 | ⟨c, hc | hc, _⟩
    · omega
    · exact h1
    · rw [hron c] at hc; cases hc
    · have := nget_live (live_ne hc.2)
      omega
  have sameIn : ∀ a : Nm, V.length ≤ a.base ∧ a.base < H1.length → SameV ρ1 (ρ.fill ρ1 V.length H1.length) a := fun a h => .of fun x hx => gin x (by rw [hx]; exact h)
  have sameOut : ∀ a : Nm, ¬ (V.length ≤ a.base ∧ a.base < H1.length) → SameV ρ (ρ.fill ρ1 V.length H1.length) a := fun a h => .of fun x hx => gout x (by rw [hx]; exact h)
  refine ⟨⟨fun a ha => gout (.p a) (by rw [base_p]; omega), fun a ha _ => gout a (by omega), fun a ha _ i => gout (.v a i) (by rw [base_v]; omega), fun a ha hw => by rw [hK', if_neg (by omega)] at hw; exact hw, ⟨by show ρ.n = _; rw [hs.n, hl'], fun a => ?_, fun a c hac ha hc => ?_⟩, hst.os, hst.tape, hst.output, hst.size, fun i hi _ => old i hi, fun a ha => ?_, fun a hl => ?_⟩, e1, e2⟩
  · by_cases h : V.length ≤ a.base ∧ a.base < H1.length
    · rw [kin a h]; exact (hst.sr.obj a).keep e2 (sameIn a h) fun _ => rfl
    · rw [kout a h]; exact (hs.obj a).keep e1 (sameOut a h) fun hb => old _ hb
  · by_cases h : V.length ≤ a.base ∧ a.base < H1.length
    · rw [kin a h] at ha; rw [gin a h]
      by_cases h' : V.length ≤ c.base ∧ c.base < H1.length
      · rw [kin c h'] at hc; rw [gin c h']; exact hst.sr.apart a c hac ha hc
      · rw [kout c h'] at hc; rw [gout c h']
        have h1 := newb a h (isRw_live ha); have h2 := (hs.obj c).live_lt hc
        omega
    · rw [kout a h] at ha; rw [gout a h]
      by_cases h' : V.length ≤ c.base ∧ c.base < H1.length
      · rw [kin c h'] at hc; rw [gin c h']
        have h1 := newb c h' hc; have h2 := (hs.obj a).rw_lt ha
        omega
      · rw [kout c h'] at hc; rw [gout c h']; exact hs.apart a c hac ha hc
  · by_cases h : V.length ≤ a.base ∧ a.base < H1.length
    · rw [kin a h] at ha; rw [gin a h]; exact .inl (newb a h (isRw_live ha))
    · rw [kout a h] at ha; rw [gout a h]; exact .inr ⟨a, ha, rfl⟩
  · by_cases h : V.length ≤ a.base ∧ a.base < H1.length
    · rw [kin a h] at hl; rw [gin a h]; exact .inr (.inl (newb a h hl))
    · rw [kout a h] at hl; rw [gout a h]
      rcases Nat.lt_or_ge a.base k with h1 | h1
      · exact .inl ⟨h1, hl, rfl⟩
      · exact .inr (.inr ⟨a, .inr ⟨h1, hl⟩, rfl⟩)
theorem loud_step {ρ ρ1 : Rho} {K H H1 K' : Heap} {w w' : World} {k : Nat} (hs : SR C ρ K w) (hlo : H.length ≤ H1.length) (hhi : H1.length ≤ K.length) (hk : k ≤ H.length)
    (hKH : ∀ a, hget K a = hget H a) (hst : Step C H.length (ρ.cut H.length) H w ρ1 H1 w')
    (hgap : ∀ a, H.length ≤ a → a < H1.length → (ρ.g (.p a)).ok = false)
    (hl' : K'.length = K.length) (hK' : ∀ a, hget K' a = hget H1 a) :
    Step C k ρ K w (ρ.fill ρ1 0 H1.length) K' w' ∧ Ext ρ (ρ.fill ρ1 0 H1.length) ∧ Ext ρ1 (ρ.fill ρ1 0 H1.length) := by
  have nKH : ∀ a : Nm, nget K a = nget H a := fun a => by rw [nget_see, hKH, ← nget_see]
  have nK' : ∀ a : Nm, nget K' a = nget H1 a := fun a => by rw [nget_see, hK', ← nget_see]
  have glow : ∀ a : Nm, a.base < H1.length → (ρ.fill ρ1 0 H1.length).g a = ρ1.g a := fun a h => if_pos ⟨Nat.zero_le _, h⟩
  have gout : ∀ a : Nm, ¬ a.base < H1.length → (ρ.fill ρ1 0 H1.length).g a = ρ.g a := fun a h => if_neg fun h' => h h'.2
  have gok : ∀ a : Nm, a.base < H.length → (ρ.g a).ok = true → (ρ.fill ρ1 0 H1.length).g a = ρ.g a := fun a h ho => by
    rw [glow a (by omega)]; exact hst.rhoV a h ho
  have e1 : Ext ρ (ρ.fill ρ1 0 H1.length) := ⟨Nat.le_refl _, fun a ha => by
    by_cases h : a.base < H1.length
    · by_cases h' : a.base < H.length
      · exact gok a h' ha.2.2
      · have h1 := hgap a.base (by omega) h; have h2 := ha.2.1; rw [h1] at h2; cases h2
    · exact gout a h⟩
  have e2 : Ext ρ1 (ρ.fill ρ1 0 H1.length) := ⟨by rw [hst.sr.n]; show _ ≤ ρ.n; rw [hs.n]; exact hhi, fun a ha => glow a (by have := ha.1; rwa [hst.sr.n] at this)⟩
  have low : ∀ a : Nm, (nget H1 a).live = true → a.base < H1.length := fun a h => nget_live (live_ne h)
  refine ⟨⟨fun a ha => by rw [glow (.p a) (by rw [base_p]; omega)]; exact hst.rho a (by omega), fun a ha ho => gok a (by omega) ho, fun a ha hw i => by rw [glow (.v a i) (by rw [base_v]; omega)]; exact hst.virt a (by omega) (by rw [← hKH]; exact hw) i, fun a ha hw => by rw [hKH]; rw [hK'] at hw; exact hst.wm a (by omega) hw, ⟨by show ρ.n = _; rw [hs.n, hl'], fun a => ?_, fun a c hac ha hc => ?_⟩, hst.os, hst.tape, hst.output, hst.size, fun i hi hn => hst.frame i hi fun a ha => hn a (by rw [nKH]; exact ha), fun a ha => ?_, fun a hl => ?_⟩, e1, e2⟩
  · rw [nK']
    by_cases h : a.base < H1.length
    · exact (hst.sr.obj a).keep e2 (.of fun x hx => glow x (by rw [hx]; exact h)) fun _ => rfl
    · rw [nget_out (Nat.le_of_not_lt h)]; trivial
  · rw [nK'] at ha hc
    rw [glow a (low a (isRw_live ha)), glow c (low c hc)]
    exact hst.sr.apart a c hac ha hc
  · rw [nK'] at ha
    rw [glow a (low a (isRw_live ha))]
    rcases hst.own a ha with h | ⟨c, hc, he⟩
    · exact .inl h
    · exact .inr ⟨c, by rw [nKH]; exact hc, he⟩
  · rw [nK'] at hl
    rw [glow a (low a hl)]
    rcases (hst.mono hk).fresh a hl with ⟨h1, h2, h3⟩ | h | ⟨c, hc, he⟩
    · exact .inl ⟨h1, by rw [nKH]; exact h2, h3⟩
    · exact .inr (.inl h)
    · exact .inr (.inr ⟨c, by rw [nKH]; exact hc, he⟩)
end
end Go.AI
