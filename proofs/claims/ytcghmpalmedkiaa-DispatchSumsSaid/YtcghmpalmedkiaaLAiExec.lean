/-
  CODE: what the interpreter makes of a piece of code, the machine's walk of it comes to.
-/
import Derived.Test.YtcghmpalmedkiaaLAiDrawD
set_option linter.unusedVariables false
set_option linter.unusedSimpArgs false
namespace Go.AI
noncomputable def cok (P : Program) (rnd : Bool) : ACode → Code → Nat → Bool
  | .skip, .skip, _ => true
  | .region d l, .region _ ops d', N => d == d' && (if d then drawOk P N ops l else opersOk P N ops l ops.toList)
  | .seq a b, .seq x y, N => cok P rnd a x N && cok P rnd b y N
  | .cond c a b, .cond c' x y, N => opndOk c c' && cok P rnd a x N && cok P rnd b y N
  | .block id a, .block id' x, N => id == id' && cok P rnd a x N
  | .loop _ _ a, .loop x, N => cok P rnd a x N
  | .exit id, .exit id', _ => id == id'
  | .ret, .ret, _ => true
  | .rangeFunc _ g ps asg body, .rangeFunc g' ps' asg' body', N => !rnd && opndOk g g' && decide (ps = ps'.toList) && ps.all (fun q => decide (q < N)) && cok P true asg asg' N && cok P true body body' N
  | _, _, _ => false
def CR (P : Program) (a : ACode) (c : Code) (N : Nat) : Prop := cok P true a c N = true
section
variable {C : ACode → Code → Nat → Prop} {P : Program} {p : Ex} {N : Nat}
/-! ### the loop's head -/
theorem gcKeep_nodup (b : Nat) (e1 : Env) (H : Heap) : (gcKeep b e1 H).Nodup := by
  unfold gcKeep
  rw [apd_eq, List.nodup_append]
  refine ⟨by rw [upto_eq]; exact List.nodup_range', fromOn_nodup (reach_nodup (by simp)), fun x hx y hy hxy => ?_⟩
  rw [upto_eq, List.mem_range'_1] at hx
  have := (mem_fromOn hy).2
  omega
theorem gcKeep_low (b : Nat) (e1 : Env) (H : Heap) {a : Nat} (h : a < b) : (gcKeep b e1 H)[a]? = some a := by
  unfold gcKeep
  rw [apd_eq, upto_eq, List.getElem?_append_left (by simpa using h), List.getElem?_range' (by simpa using h)]
  simp
theorem gcKeep_high (b : Nat) (e1 : Env) (H : Heap) {i a : Nat} (h : b ≤ i) (hi : (gcKeep b e1 H)[i]? = some a) : b ≤ a := by
  unfold gcKeep at hi
  rw [apd_eq, upto_eq, List.getElem?_append_right (by simpa using h)] at hi
  exact (mem_fromOn (List.mem_of_getElem? hi)).2
theorem gcKeep_length (b : Nat) (e1 : Env) (H : Heap) : b ≤ (gcKeep b e1 H).length := by
  unfold gcKeep; rw [apd_eq, List.length_append, upto_eq, List.length_range']; omega
theorem unexE_get (e : Env) (t : Nat) : eget (unexE e) t = (eget e t).unex := by
  induction e with
  | nil => rfl
  | cons p e ih =>
    obtain ⟨s, v⟩ := p
    show eget ((s, v.unex) :: unexE e) t = _
    rw [eget_cons, eget_cons, ih]; split <;> rfl
theorem ER.unex {ρ : Rho} {N : Nat} {e : Env} {tmps : Array Value} (h : ER ρ N e tmps) : ER ρ N (unexE e) tmps := ⟨h.1, fun t => by rw [unexE_get]; exact unex_VR _ _ (h.2 t)⟩
theorem gc_step {ρ : Rho} {H : Heap} {w : World} {b : Nat} {e1 : Env} {tmps : Array Value} (hs : SR C ρ H w) (he : ER ρ N e1 tmps) :
    Step C b ρ H w (rhoIn ρ (gcKeep b e1 H)) (gcH (gcKeep b e1 H) H) w ∧ ER (rhoIn ρ (gcKeep b e1 H)) N (gcE (gcKeep b e1 H) e1) tmps ∧ b ≤ (gcH (gcKeep b e1 H) H).length := by
  have hget' := npick_get H (mapIn (gcKeep b e1 H)) (gcKeep b e1 H)
  have hsr : SR C (rhoIn ρ (gcKeep b e1 H)) (gcH (gcKeep b e1 H) H) w := hs.pick (gcKeep_nodup b e1 H) _ (pick_length _ _ _) fun i => .inl (hget' i)
  have rw_ : ∀ i : Nm, (nget (gcH (gcKeep b e1 H) H) i).isRw = true → ∃ a, (gcKeep b e1 H)[i.base]? = some a ∧ (nget H (i.to a)).isRw = true := fun i h => by
    unfold gcH at h
    rw [hget' i] at h
    split at h
    · exact ⟨_, by assumption, by simpa using h⟩
    · cases h
  have lv : ∀ i : Nm, (nget (gcH (gcKeep b e1 H) H) i).live = true → ∃ a, (gcKeep b e1 H)[i.base]? = some a ∧ (nget H (i.to a)).live = true := fun i h => by
    unfold gcH at h
    rw [hget' i] at h
    split at h
    · exact ⟨_, by assumption, by simpa using h⟩
    · cases h
  have gk : ∀ (i : Nm) a, (gcKeep b e1 H)[i.base]? = some a → (rhoIn ρ (gcKeep b e1 H)).g i = ρ.g (i.to a) := fun i a h => rhoIn_at h
  have glow : ∀ i : Nm, i.base < b → (rhoIn ρ (gcKeep b e1 H)).g i = ρ.g i := fun i h => by rw [gk i i.base (gcKeep_low b e1 H h), to_self rfl]
  refine ⟨⟨fun a ha => glow (.p a) ha, fun a ha _ => glow a ha, fun a ha _ i => glow (.v a i) ha, fun a ha hw => ?_, hsr, rfl, rfl, rfl, Nat.le_refl _, fun _ _ _ => rfl, fun i hi => ?_, fun i hl => ?_⟩, he.ren (rhoIn_m ρ _), by
    unfold gcH; rw [pick_length]; exact gcKeep_length b e1 H⟩
  · unfold gcH at hw
    rw [pick_get, gcKeep_low b e1 H ha] at hw
    simpa using hw
  · obtain ⟨a, ha, hr⟩ := rw_ i hi
    exact .inr ⟨i.to a, hr, by rw [gk i a ha]⟩
  · obtain ⟨a, ha, hl'⟩ := lv i hl
    rcases Nat.lt_or_ge i.base b with h | h
    · rw [gcKeep_low b e1 H h] at ha; cases ha
      rw [to_self rfl] at hl'
      exact .inl ⟨h, hl', glow i h⟩
    · exact .inr (.inr ⟨i.to a, .inr ⟨by rw [to_base]; exact gcKeep_high b e1 H h ha, hl'⟩, by rw [gk i a ha]⟩)
/-! ### marks of loops over functions among the deferred calls -/
def markOf (r : Nat) : Deferred := { target := .collected r, args := #[] }
def DR (s0 : Nat) (ρ : Rho) (H : Heap) (w : World) (ds : List Deferred) : Prop :=
  s0 ≤ w.heap.size ∧ ∃ rs : List Nat, ds = rs.map markOf ∧ rs.Nodup ∧ ∀ r ∈ rs, s0 ≤ r ∧ w.heap[r]? = some (.deferred (some [])) ∧ ∀ a, (nget H a).isRw = true → (ρ.g a).b ≠ r
theorem DR.step {s0 k : Nat} {ρ ρ' : Rho} {H H' : Heap} {w w' : World} {ds : List Deferred} (h : DR s0 ρ H w ds) (hst : Step C k ρ H w ρ' H' w') : DR s0 ρ' H' w' ds := by
  obtain ⟨h0, rs, h1, h2, h3⟩ := h
  refine ⟨Nat.le_trans h0 hst.size, rs, h1, h2, fun r hr => ?_⟩
  obtain ⟨h4, h5, h6⟩ := h3 r hr
  have hlt : r < w.heap.size := (Array.getElem?_eq_some_iff.1 h5).1
  refine ⟨h4, (hst.frame r hlt h6).trans h5, fun a ha => ?_⟩
  rcases hst.own a ha with h | ⟨c, hc, he⟩
  · omega
  · rw [← he]; exact h6 c hc
def exitOf : AExit → Exit
  | .normal => .normal
  | .exit i => .exit i
  | .ret => .ret
def Ends (C : ACode → Code → Nat → Prop) (Q : Exit → Act → World → Prop) (N s0 b : Nat) (ρ : Rho) (H : Heap) (w : World) (out : AExit) (e' : Env) (H' : Heap) : Prop :=
  ∀ a' w' ρ', Step C b ρ H w ρ' H' w' → ER ρ' N e' a'.tmps → DR s0 ρ' H' w' a'.defers → b ≤ H'.length → Q (exitOf out) a' w'
def LoopSound (C : ACode → Code → Nat → Prop) (P : Program) (p : Ex) (m : Nat) : Prop :=
  ∀ rnd ro N s0 b lv ou x code e H out e' H' ρ w a Q, (rnd = false → ro = none) → cok P rnd x code N = true → p.exec b (.loop lv ou x) e H = some (out, e', H') → SR C ρ H w → ER ρ N e a.tmps → DR s0 ρ H w a.defers → b ≤ H.length →
    Ends C Q N s0 b ρ H w out e' H' → Code.roundsIn (Fr ro) 0 P code Q m a w
structure ExOK (C : ACode → Code → Nat → Prop) (P : Program) (p : Ex) (m : Nat) : Prop where
  calls : CallsOK C P p
  loops : LoopSound C P p m
def Sound (C : ACode → Code → Nat → Prop) (P : Program) (p : Ex) (x : ACode) : Prop :=
  ∀ rnd ro N s0 b code e H out e' H' ρ w a Q, (rnd = false → ro = none) → cok P rnd x code N = true → exec1 x p b e H = some (out, e', H') → SR C ρ H w → ER ρ N e a.tmps → DR s0 ρ H w a.defers → b ≤ H.length →
    Ends C Q N s0 b ρ H w out e' H' → code.wpIn (Fr ro) 0 P Q a w
theorem round_sound {x : ACode} {lv ou : List Nat} {m : Nat} (hx : Sound C P p x) (hl : LoopSound C P p m) {rnd : Bool} {ro : Option Nat} {N s0 b : Nat} {code : Code} {e e' : Env} {H H' : Heap} {out : AExit} {ρ : Rho} {w : World} {a : Act} {Q : Exit → Act → World → Prop}
    (hro : rnd = false → ro = none) (hc : cok P rnd x code N = true) (hrun : exec1 (.loop lv ou x) p b e H = some (out, e', H')) (hs : SR C ρ H w) (he : ER ρ N e a.tmps) (hd : DR s0 ρ H w a.defers) (hb : b ≤ H.length)
    (hQ : Ends C Q N s0 b ρ H w out e' H') : Code.roundsIn (Fr ro) 0 P code Q (m + 1) a w := by
  have hrun : thenL ou b (loopN (exec1 x p b) b (restr e lv) H (gcKeep b (restr e lv) H)) (p.exec b (.loop lv ou x)) = some (out, e', H') := hrun
  obtain ⟨⟨o1, e1, H1⟩, h1, h2⟩ := ob_eq hrun
  obtain ⟨g1, g2, g3⟩ := gc_step (b := b) hs (he.restr lv)
  rw [roundsIn_succ]
  refine hx rnd ro N s0 b code _ _ o1 e1 H1 _ w a _ hro hc (by exact h1) g1.sr g2.unex (hd.step g1) g3 fun a' w' ρ' k1 k2 k3 k4 => ?_
  cases o1 with
  | normal =>
    exact hl rnd ro N s0 b lv ou x code e1 H1 out e' H' ρ' w' a' Q hro hc (by exact h2) k1.sr k2 k3 k4 fun a2 w2 ρ2 j1 j2 j3 j4 => hQ a2 w2 ρ2 ((g1.trans k1).trans j1) j2 j3 j4
  | exit i =>
    obtain ⟨j1, j2, j3⟩ := gc_step (b := b) k1.sr (k2.restr ou)
    cases h2; exact hQ a' w' _ ((g1.trans k1).trans j1) j2.unex (k3.step j1) j3
  | ret =>
    obtain ⟨j1, j2, j3⟩ := gc_step (b := b) k1.sr (k2.restr ou)
    cases h2; exact hQ a' w' _ ((g1.trans k1).trans j1) j2.unex (k3.step j1) j3
def RangeSound (C : ACode → Code → Nat → Prop) (P : Program) (p : Ex) : Prop := ∀ lv g ps asg body, Sound C P p (.rangeFunc lv g ps asg body)
theorem exec_sound {m : Nat} (hp : ExOK C P p m) (hm : P.follows .mixedOrders = true) (hr : RangeSound C P p) : ∀ x, Sound C P p x := by
  intro x
  induction x with
  | skip =>
    intro rnd ro N s0 b code e H out e' H' ρ w a Q hro hc hrun hs he hd hb hQ
    cases code <;> first | (cases hc; done) | skip
    cases hrun
    exact wpIn_skip (hQ a w ρ (Step.refl hs) he hd hb)
  | region d l =>
    intro rnd ro N s0 b code e H out e' H' ρ w a Q hro hc hrun hs he hd hb hQ
    cases code <;> first | (cases hc; done) | skip
    rename_i id ops d'
    unfold cok at hc
    simp only [Bool.and_eq_true, beq_iff_eq] at hc
    obtain ⟨rfl, hc⟩ := hc
    obtain ⟨q, hq, hrun⟩ := ob_eq (hrun : normalN (ite' d (aopsD p l [] e H) (aops p l e H)) = _)
    cases hrun
    cases d with
    | true =>
      simp only [if_true] at hc
      exact draw_sound hp.calls hm hc hs he hb (by exact hq) fun a' w' ρ' h1 h2 h3 h4 => hQ a' w' ρ' h1 h2 (by rw [h3]; exact hd.step h1) (Nat.le_trans hb h4)
    | false =>
      simp only [Bool.false_eq_true, if_false] at hc
      refine wpIn_region ?_
      rw [List.range_eq_range']
      have := text_sound (ro := ro) (Q := Q) (i := 0) hp.calls hc (by simp) hs he (by exact hq) fun a' w' ρ' h1 h2 h3 h4 => hQ a' w' ρ' (h1.mono hb) h2 (by rw [h3]; exact hd.step h1) (Nat.le_trans hb h4)
      simpa using this
  | seq x y ihx ihy =>
    intro rnd ro N s0 b code e H out e' H' ρ w a Q hro hc hrun hs he hd hb hQ
    cases code <;> first | (cases hc; done) | skip
    unfold cok at hc
    simp only [Bool.and_eq_true] at hc
    obtain ⟨⟨o1, e1, H1⟩, h1, h2⟩ := ob_eq (hrun : thenN (exec1 x p b e H) (exec1 y p b) = _)
    refine wpIn_seq (ihx rnd ro N s0 b _ e H o1 e1 H1 ρ w a _ hro hc.1 h1 hs he hd hb fun a' w' ρ' k1 k2 k3 k4 => ?_)
    cases o1 with
    | normal => exact ihy rnd ro N s0 b _ e1 H1 out e' H' ρ' w' a' Q hro hc.2 h2 k1.sr k2 k3 k4 fun a2 w2 ρ2 j1 j2 j3 j4 => hQ a2 w2 ρ2 (k1.trans j1) j2 j3 j4
    | exit i => cases h2; exact hQ a' w' ρ' k1 k2 k3 k4
    | ret => cases h2; exact hQ a' w' ρ' k1 k2 k3 k4
  | cond c x y ihx ihy =>
    intro rnd ro N s0 b code e H out e' H' ρ w a Q hro hc hrun hs he hd hb hQ
    cases code <;> first | (cases hc; done) | skip
    rename_i c' _ _
    unfold cok at hc
    simp only [Bool.and_eq_true] at hc
    obtain ⟨t, ht, h2⟩ := ob_eq (hrun : ob (asBool (c.ev e)) _ = _)
    have hv := opnd_VR (ρ := ρ) hc.1.1 he
    rw [asBool_some ht] at hv
    have hev : a.eval c' = .bool t := by
      generalize a.eval c' = q at hv
      cases hv; rfl
    refine wpIn_cond hev ?_
    cases t with
    | true => exact ihx rnd ro N s0 b _ e H out e' H' ρ w a Q hro hc.1.2 h2 hs he hd hb hQ
    | false => exact ihy rnd ro N s0 b _ e H out e' H' ρ w a Q hro hc.2 h2 hs he hd hb hQ
  | block id x ih =>
    intro rnd ro N s0 b code e H out e' H' ρ w a Q hro hc hrun hs he hd hb hQ
    cases code <;> first | (cases hc; done) | skip
    unfold cok at hc
    simp only [Bool.and_eq_true, beq_iff_eq] at hc
    obtain ⟨rfl, hc⟩ := hc
    obtain ⟨⟨o1, e1, H1⟩, h1, h2⟩ := ob_eq (hrun : blockN id (exec1 x p b e H) = _)
    refine wpIn_block (ih rnd ro N s0 b _ e H o1 e1 H1 ρ w a _ hro hc h1 hs he hd hb fun a' w' ρ' k1 k2 k3 k4 => ?_)
    cases o1 with
    | normal => cases h2; exact hQ a' w' ρ' k1 k2 k3 k4
    | exit i =>
      have h2 : ite' (Nat.beq i id) (some (.normal, e1, H1)) (some (.exit i, e1, H1)) = some (out, e', H') := h2
      show (if i = id then Q .normal a' w' else Q (.exit i) a' w')
      by_cases hi : i = id
      · subst hi
        simp only [Nat.beq_eq_true_eq, Nat.beq_refl, ite'_true] at h2
        rw [if_pos rfl]
        cases h2; exact hQ a' w' ρ' k1 k2 k3 k4
      · have : Nat.beq i id = false := by
          cases hb : Nat.beq i id with
          | false => rfl
          | true => exact absurd (Nat.eq_of_beq_eq_true hb) hi
        rw [this] at h2
        rw [if_neg hi]
        cases h2; exact hQ a' w' ρ' k1 k2 k3 k4
    | ret => cases h2; exact hQ a' w' ρ' k1 k2 k3 k4
  | loop lv ou x ih =>
    intro rnd ro N s0 b code e H out e' H' ρ w a Q hro hc hrun hs he hd hb hQ
    cases code <;> first | (cases hc; done) | skip
    unfold cok at hc
    exact wpIn_loop_rounds (m + 1) (round_sound ih hp.loops hro hc hrun hs he hd hb hQ)
  | exit id =>
    intro rnd ro N s0 b code e H out e' H' ρ w a Q hro hc hrun hs he hd hb hQ
    cases code <;> first | (cases hc; done) | skip
    unfold cok at hc
    simp only [beq_iff_eq] at hc
    subst hc
    cases hrun
    exact wpIn_exit (hQ a w ρ (Step.refl hs) he hd hb)
  | ret =>
    intro rnd ro N s0 b code e H out e' H' ρ w a Q hro hc hrun hs he hd hb hQ
    cases code <;> first | (cases hc; done) | skip
    cases hrun
    exact wpIn_ret (hQ a w ρ (Step.refl hs) he hd hb)
  | rangeFunc lv g ps asg body _ _ => exact hr lv g ps asg body
end
end Go.AI
