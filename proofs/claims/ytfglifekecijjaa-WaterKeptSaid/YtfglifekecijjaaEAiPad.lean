/-
  HEAPS WITH GAPS: names that no operation has made yet; steps that are taken in a part of such a heap.
-/
import Derived.Test.YtfglifekecijjaaEAiReg
set_option linter.unusedVariables false
set_option linter.unusedSimpArgs false
namespace Go.AI
section
variable {C : ACode → Code → Nat → Prop} {P : Program}
/-! ### only names below a number -/
def cutN (lo a : Nat) : Option Nat := if a < lo then some a else none
def WFv (lo : Nat) (v : AVal) : Prop := v.ren (cutN lo) = v
theorem VR.wf {ρ : Rho} (v : AVal) : ∀ x, VR ρ v x → WFv ρ.n v := by
  refine AVal.rec (motive_1 := fun v => ∀ x, VR ρ v x → WFv ρ.n v) (motive_2 := fun l => ∀ l', VRL ρ l l' → AVal.renL (cutN ρ.n) l = l)
    ?_ ?_ ?_ ?_ ?_ ?_ ?_ ?_ ?_ ?_ ?_ ?_ ?_ ?_ ?_ ?_ ?_ ?_ v
  · intro x _; rfl
  · intro b x h; rfl
  · intro k n x h; rfl
  · intro s x h; rfl
  · intro x h; rfl
  · intro x h; rfl
  · intro x h; rfl
  · intro x h; rfl
  · intro x h; rfl
  · intro a off x h; cases h with | ptr _ _ hn =>
    show named (cutN ρ.n a) (fun b => .ptr b off) = _
    rw [cutN, if_pos hn.1]; rfl
  · intro a off l c z e x h; cases h with | slice _ _ _ _ _ _ A cap' hn h1 h2 h3 h4 h5 =>
    show named (cutN ρ.n a) (fun b => .slice b off l c z e) = _
    rw [cutN, if_pos hn.1]; rfl
  · intro a x h; cases h with | map _ hn =>
    show named (cutN ρ.n a) .map = _
    rw [cutN, if_pos hn.1]; rfl
  · intro f a b iha ihb x h; cases h with | func _ _ _ xs' ys' h1 h2 =>
    show (AVal.func f a b).ren _ = _
    rw [ren_func, iha _ h1, ihb _ h2]
  · intro a x h; cases h with | yield _ hn =>
    show named (cutN ρ.n a) .yield = _
    rw [cutN, if_pos hn.1]; rfl
  · intro cs ih x h; cases h with | agg _ xs' h => show (AVal.agg cs).ren _ = _; rw [ren_agg, ih _ h]
  · intro cs ih x h; cases h with | tup _ xs' h => show (AVal.tup cs).ren _ = _; rw [ren_tup, ih _ h]
  · intro l' h; rfl
  · intro v vs ih ihs l' h; cases h with | cons _ x' _ xs' hx hs =>
    rw [renL_cons, ihs _ hs]; have : v.ren (cutN ρ.n) = v := ih _ hx; rw [this]
def Rho.cut (ρ : Rho) (m : Nat) : Rho := ⟨m, ρ.g⟩
theorem cut_hm (ρ : Rho) (m : Nat) : ∀ a b, ρ.has a → cutN m a = some b → b < (ρ.cut m).n ∧ (ρ.cut m).g b = ρ.g a := fun a b _ h => by
  unfold cutN at h
  split at h
  · cases h; exact ⟨by assumption, rfl⟩
  · cases h
theorem VR.cut {ρ : Rho} {v : AVal} {x : Value} {m : Nat} (h : VR ρ v x) (hw : WFv m v) : VR (ρ.cut m) v x := by
  have := ren_VR (cut_hm ρ m) v x h
  unfold WFv at hw
  rwa [hw] at this
def WFo (lo : Nat) : AObj → Prop
  | .row _ f cs => ∀ v ∈ cs, WFv lo v
  | .loop _ _ tmps _ _ _ _ => ∀ t, WFv lo (eget tmps t)
  | _ => True
theorem OR.wf {ρ : Rho} {a : Nat} {w : World} {o : AObj} (h : OR C ρ a w o) : WFo ρ.n o := by
  cases o with
  | dead => trivial
  | row rw f cs =>
    intro v hv
    obtain ⟨i, hi⟩ := List.getElem?_of_mem hv
    obtain ⟨x, h1, h2, h3⟩ := RowR.cell h i v hi
    exact h3.wf
  | map rw es => trivial
  | loop rw st tmps ps asg body pd =>
    obtain ⟨L, h1, h2⟩ := h
    obtain ⟨N, h3, h4⟩ := h2.tmps
    exact fun t => (h3.2 t).wf
theorem OR.cut {ρ : Rho} {a : Nat} {w : World} {o : AObj} {m : Nat} (h : OR C ρ a w o) (hw : WFo m o) : OR C (ρ.cut m) a w o := by
  cases o with
  | dead => trivial
  | row rw f cs =>
    refine ⟨fun i v hv => ?_, RowR.flat h, RowR.rw h, RowR.nil h⟩
    obtain ⟨x, h1, h2, h3⟩ := RowR.cell h i v hv
    exact ⟨x, h1, h2, h3.cut (hw v (List.mem_of_getElem? hv))⟩
  | map rw es =>
    obtain ⟨en, cl, h1, h2⟩ := h
    exact ⟨en, cl, h1, h2.flat⟩
  | loop rw st tmps ps asg body pd =>
    obtain ⟨L, h1, h2⟩ := h
    obtain ⟨N, h3, h4⟩ := h2.tmps
    exact ⟨L, h1, h2.st, ⟨N, ⟨h3.1, fun t => (h3.2 t).cut (hw t)⟩, h4⟩, h2.ps, h2.pd⟩
theorem hget_lt {H : Heap} {a : Nat} (h : ¬ a < H.length) : hget H a = .dead := hget_out (Nat.le_of_not_lt h)
theorem SR.part {ρ : Rho} {K V : Heap} {w : World} (hs : SR C ρ K w) (hv : ∀ a, a < V.length → hget V a = .dead ∨ (hget V a = hget K a ∨ hget V a = (hget K a).ro) ∧ WFo V.length (hget K a)) : SR C (ρ.cut V.length) V w := by
  have low : ∀ a, hget V a = .dead ∨ (hget V a = hget K a ∨ hget V a = (hget K a).ro) ∧ WFo V.length (hget K a) := fun a => by
    by_cases h : a < V.length
    · exact hv a h
    · exact .inl (hget_lt h)
  refine ⟨rfl, fun a => ?_, fun a c hac ha hc => ?_⟩
  · rcases low a with h | ⟨h | h, hw⟩ <;> rw [h]
    · trivial
    · exact (hs.obj a).cut hw
    · exact ((hs.obj a).cut hw).ro
  · have h1 : (hget K a).isRw = true := by
      rcases low a with h | ⟨h | h, hw⟩ <;> rw [h] at ha
      · cases ha
      · exact ha
      · simp at ha
    have h2 : (hget K c).live = true := by
      rcases low c with h | ⟨h | h, hw⟩ <;> rw [h] at hc
      · cases hc
      · exact hc
      · exact ro_live _ hc
    exact hs.apart a c hac h1 h2
def Rho.fill (ρ ρ1 : Rho) (lo hi : Nat) : Rho := ⟨ρ.n, fun a => if lo ≤ a ∧ a < hi then ρ1.g a else ρ.g a⟩
theorem quiet_step {ρ ρ1 : Rho} {K V H1 K' : Heap} {w w' : World} {k : Nat} (hs : SR C ρ K w) (hlo : V.length ≤ H1.length) (hhi : H1.length ≤ K.length) (hk : k ≤ V.length)
    (hro : ∀ a, (hget V a).isRw = false) (hst : Step C V.length (ρ.cut V.length) V w ρ1 H1 w')
    (hlv : ∀ a, a < V.length → (hget V a).live = true → (hget K a).live = true)
    (hgap : ∀ a, V.length ≤ a → a < H1.length → hget K a = .dead ∧ (ρ.g a).ok = false)
    (hl' : K'.length = K.length) (hK' : ∀ a, hget K' a = if V.length ≤ a ∧ a < H1.length then hget H1 a else hget K a) :
    Step C k ρ K w (ρ.fill ρ1 V.length H1.length) K' w' ∧ Ext ρ (ρ.fill ρ1 V.length H1.length) ∧ Ext ρ1 (ρ.fill ρ1 V.length H1.length) := by
  have old : ∀ i, i < w.heap.size → w'.heap[i]? = w.heap[i]? := fun i hi => hst.frame i hi fun a ha => by rw [hro a] at ha; cases ha
  have e1 : Ext ρ (ρ.fill ρ1 V.length H1.length) := ⟨Nat.le_refl _, fun a ha => if_neg fun h => by
    have h1 := (hgap a h.1 h.2).2; have h2 := ha.2; rw [h1] at h2; cases h2⟩
  have gin : ∀ a, V.length ≤ a ∧ a < H1.length → (ρ.fill ρ1 V.length H1.length).g a = ρ1.g a := fun a h => if_pos h
  have gout : ∀ a, ¬ (V.length ≤ a ∧ a < H1.length) → (ρ.fill ρ1 V.length H1.length).g a = ρ.g a := fun a h => if_neg h
  have glow : ∀ a, a < H1.length → (ρ.fill ρ1 V.length H1.length).g a = ρ1.g a := fun a h => by
    by_cases hl : V.length ≤ a
    · exact gin a ⟨hl, h⟩
    · rw [gout a (fun h => hl h.1), hst.rho a (by omega)]; rfl
  have e2 : Ext ρ1 (ρ.fill ρ1 V.length H1.length) := ⟨by rw [hst.sr.n]; show _ ≤ ρ.n; rw [hs.n]; exact hhi, fun a ha => glow a (by have := ha.1; rwa [hst.sr.n] at this)⟩
  have kin : ∀ a, V.length ≤ a ∧ a < H1.length → hget K' a = hget H1 a := fun a h => by rw [hK', if_pos h]
  have kout : ∀ a, ¬ (V.length ≤ a ∧ a < H1.length) → hget K' a = hget K a := fun a h => by rw [hK', if_neg h]
  have newb : ∀ a, V.length ≤ a ∧ a < H1.length → (hget H1 a).live = true → w.heap.size ≤ (ρ1.g a).b := fun a h hl => by
    rcases hst.fresh a h.1 hl with h1 | ⟨c, hc | hc, _⟩
    · exact h1
    · rw [hro c] at hc; cases hc
    · have := hget_live (H := V) (a := c) (by intro h; rw [h] at hc; cases hc.2)
      omega
  refine ⟨⟨fun a ha => gout a (by omega), ⟨by show ρ.n = _; rw [hs.n, hl'], fun a => ?_, fun a c hac ha hc => ?_⟩, hst.os, hst.tape, hst.output, hst.size, fun i hi _ => old i hi, fun a ha => ?_, fun a ha hl => ?_, fun a ha hl => ?_⟩, e1, e2⟩
  · by_cases h : V.length ≤ a ∧ a < H1.length
    · rw [kin a h]; exact (hst.sr.obj a).keep e2 (gin a h) fun _ => rfl
    · rw [kout a h]; exact (hs.obj a).keep e1 (gout a h) fun hb => old _ hb
  · by_cases h : V.length ≤ a ∧ a < H1.length
    · rw [kin a h] at ha; rw [gin a h]
      by_cases h' : V.length ≤ c ∧ c < H1.length
      · rw [kin c h'] at hc; rw [gin c h']; exact hst.sr.apart a c hac ha hc
      · rw [kout c h'] at hc; rw [gout c h']
        have h1 := newb a h (isRw_live ha); have h2 := (hs.obj c).live_lt hc
        omega
    · rw [kout a h] at ha; rw [gout a h]
      by_cases h' : V.length ≤ c ∧ c < H1.length
      · rw [kin c h'] at hc; rw [gin c h']
        have h1 := newb c h' hc; have h2 := (hs.obj a).rw_lt ha
        omega
      · rw [kout c h'] at hc; rw [gout c h']; exact hs.apart a c hac ha hc
  · by_cases h : V.length ≤ a ∧ a < H1.length
    · rw [kin a h] at ha; rw [gin a h]; exact .inl (newb a h (isRw_live ha))
    · rw [kout a h] at ha; rw [gout a h]; exact .inr ⟨a, ha, rfl⟩
  · rw [kout a (by omega)] at hl; exact hl
  · by_cases h : V.length ≤ a ∧ a < H1.length
    · rw [kin a h] at hl; rw [gin a h]; exact .inl (newb a h hl)
    · rw [kout a h] at hl; rw [gout a h]; exact .inr ⟨a, .inr ⟨ha, hl⟩, rfl⟩
theorem loud_step {ρ ρ1 : Rho} {K H H1 K' : Heap} {w w' : World} {k : Nat} (hs : SR C ρ K w) (hlo : H.length ≤ H1.length) (hhi : H1.length ≤ K.length) (hk : k ≤ H.length)
    (hKH : ∀ a, hget K a = hget H a) (hst : Step C H.length (ρ.cut H.length) H w ρ1 H1 w')
    (hgap : ∀ a, H.length ≤ a → a < H1.length → (ρ.g a).ok = false)
    (hl' : K'.length = K.length) (hK' : ∀ a, hget K' a = hget H1 a) :
    Step C k ρ K w (ρ.fill ρ1 H.length H1.length) K' w' ∧ Ext ρ (ρ.fill ρ1 H.length H1.length) ∧ Ext ρ1 (ρ.fill ρ1 H.length H1.length) := by
  have e1 : Ext ρ (ρ.fill ρ1 H.length H1.length) := ⟨Nat.le_refl _, fun a ha => if_neg fun h => by
    have h1 := hgap a h.1 h.2; have h2 := ha.2; rw [h1] at h2; cases h2⟩
  have gout : ∀ a, ¬ (H.length ≤ a ∧ a < H1.length) → (ρ.fill ρ1 H.length H1.length).g a = ρ.g a := fun a h => if_neg h
  have glow : ∀ a, a < H1.length → (ρ.fill ρ1 H.length H1.length).g a = ρ1.g a := fun a h => by
    by_cases hl : H.length ≤ a
    · exact if_pos ⟨hl, h⟩
    · rw [gout a (fun h => hl h.1), hst.rho a (by omega)]; rfl
  have e2 : Ext ρ1 (ρ.fill ρ1 H.length H1.length) := ⟨by rw [hst.sr.n]; show _ ≤ ρ.n; rw [hs.n]; exact hhi, fun a ha => glow a (by have := ha.1; rwa [hst.sr.n] at this)⟩
  have low : ∀ a, (hget H1 a).live = true → a < H1.length := fun a h => hget_live (by intro h'; rw [h'] at h; cases h)
  refine ⟨⟨fun a ha => gout a (by omega), ⟨by show ρ.n = _; rw [hs.n, hl'], fun a => ?_, fun a c hac ha hc => ?_⟩, hst.os, hst.tape, hst.output, hst.size, fun i hi hn => hst.frame i hi fun a ha => hn a (by rw [hKH]; exact ha), fun a ha => ?_, fun a ha hl => ?_, fun a ha hl => ?_⟩, e1, e2⟩
  · rw [hK']
    by_cases h : a < H1.length
    · exact (hst.sr.obj a).keep e2 (glow a h) fun _ => rfl
    · rw [hget_lt h]; trivial
  · rw [hK'] at ha hc
    rw [glow a (low a (isRw_live ha)), glow c (low c hc)]
    exact hst.sr.apart a c hac ha hc
  · rw [hK'] at ha
    rw [glow a (low a (isRw_live ha))]
    rcases hst.own a ha with h | ⟨c, hc, he⟩
    · exact .inl h
    · exact .inr ⟨c, by rw [hKH]; exact hc, he⟩
  · rw [hK'] at hl; rw [hKH]; exact hst.live a (by omega) hl
  · rw [hK'] at hl
    rw [glow a (low a hl)]
    rcases (hst.mono hk).fresh a ha hl with h | ⟨c, hc, he⟩
    · exact .inl h
    · exact .inr ⟨c, by rw [hKH]; exact hc, he⟩
end
end Go.AI
