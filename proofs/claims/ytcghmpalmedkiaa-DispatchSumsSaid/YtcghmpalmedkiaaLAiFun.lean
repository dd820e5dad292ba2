/-
  FUNCTIONS AND ROUNDS: what the interpreter computes of a function, the machine's call comes to.
-/
import Derived.Test.YtcghmpalmedkiaaLAiExec
set_option linter.unusedVariables false
set_option linter.unusedSimpArgs false
namespace Go.AI
section
variable {P : Program} {p : Ex} {N : Nat}
theorem step_end {C : ACode → Code → Nat → Prop} {ρ : Rho} {H : Heap} {w w' : World} (hs : SR C ρ H w) (h1 : w'.os = w.os) (h2 : w'.tape = w.tape) (h3 : w'.output = w.output) (h4 : w'.heap.size = w.heap.size)
    (a : Nat) (ha : (hget H a).isRw = true) (hf : ∀ i, i ≠ (ρ.g (.p a)).b → w'.heap[i]? = w.heap[i]?) : Step C H.length ρ H w ρ (H.set a .dead) w' := by
  have hal : a < H.length := hget_live (live_ne (isRw_live ha))
  have lv : ∀ c : Nm, (nget (H.set a .dead) c).live = true → c.base ≠ a ∧ nget (H.set a .dead) c = nget H c := fun c h => by
    rw [nget_set hal] at h ⊢
    split at h
    · rw [see_dead] at h; cases h
    · rename_i hc; exact ⟨hc, if_neg hc⟩
  refine ⟨fun _ _ => rfl, fun _ _ _ => rfl, fun _ _ _ _ => rfl, fun c _ hw => ?_, ⟨by simp [hs.n], fun c => ?_, fun c d hcd hc hd => ?_⟩, h1, h2, h3, by omega, fun i hi hn => hf i fun e => hn (.p a) ha e.symm, fun c hc => ?_, fun c hl => ?_⟩
  · rw [hget_set hal] at hw; split at hw
    · cases hw
    · exact hw
  · rw [nget_set hal]; split
    · rw [see_dead]; trivial
    · rename_i h
      by_cases hlv : (nget H c).live = true
      · exact (hs.obj c).keep (Ext.refl ρ) (.refl ρ c) fun _ => hf _ fun e => hs.apart (.p a) c (fun e' => h (by rw [← e']; rfl)) ha hlv e.symm
      · exact (hs.obj c).dull (by simpa using hlv) rfl
  · have h5 := lv c (isRw_live hc); have h6 := lv d hd
    rw [h5.2] at hc; rw [h6.2] at hd
    exact hs.apart c d hcd hc hd
  · have h5 := lv c (isRw_live hc)
    rw [h5.2] at hc; exact .inr ⟨c, hc, rfl⟩
  · have h5 := lv c hl
    rw [h5.2] at hl
    exact .inl ⟨nget_live (live_ne hl), hl, rfl⟩
/-! ### a loop over a function -/
theorem stNo_eq {s : LoopState} : stNo s = 1 ↔ s = .busy := by cases s <;> simp [stNo]
theorem stNo_ready {s : LoopState} : stNo s = 0 ↔ s = .ready := by cases s <;> simp [stNo]
theorem range_sound (hp : CallsOK (CR P) P p) : RangeSound (CR P) P p := by
  intro lv g ps asg body rnd ro N s0 b code e H out e' H' ρ w a Q hro hc hrun hs he hd hb hQ
  cases code <;> first | (cases hc; done) | skip
  rename_i g' ps' asg' body'
  unfold cok at hc
  simp only [Bool.and_eq_true, Bool.not_eq_true', decide_eq_true_eq, List.all_eq_true] at hc
  obtain ⟨⟨⟨⟨⟨hr, hg⟩, hps⟩, hpN⟩, hca⟩, hcb⟩ := hc
  have hro := hro hr
  subst hro
  replace hrun : rangeN p (restr e lv) H ps asg body (g.ev e) = some (out, e', H') := hrun
  have hv := opnd_VR (ρ := ρ) hg he
  generalize hgv : g.ev e = gv at hrun hv
  clear hgv
  have he1 := he.restr lv
  clear he
  generalize restr e lv = e1 at hrun he1
  clear e
  revert e1
  intro e hrun he
  cases gv with
  | func f first cap =>
    have hrun : ob (callOn (p.call f) false (apd first (.yield (len H) :: cap)) (apd H [.loop true .ready e ps asg body .normal])) (fun r =>
      ob (loopOf (hget r.2 (len H))) fun o => ite' (andB o.rw (notB (Nat.beq (stNo o.st) 1))) (some (o.pd, e, upd r.2 (len H) .dead)) none) = some (out, e', H') := hrun
    obtain ⟨⟨v, H2⟩, hcall, hrun⟩ := ob_eq hrun
    obtain ⟨o, ho, hrun⟩ := ob_eq hrun
    obtain ⟨hcnd, hrun⟩ := ite'_some hrun
    rw [apd_eq, apd_eq, len_eq] at hcall
    have hrun : some (o.pd, e, upd H2 (len H) .dead) = some (out, e', H') := hrun
    rw [len_eq, upd_eq] at hrun
    have ho : loopOf (hget H2 (len H)) = some o := ho
    rw [len_eq] at ho
    cases hrun
    generalize hgx : a.eval g' = gx at hv
    cases hv with | func _ _ _ fi ca hf1 hf2 =>
    have hent : Enter P f := by
      unfold callOn at hcall
      obtain ⟨r, hr, _⟩ := ob_eq hcall
      exact (hp.call f _ _ _ _ (by exact hr)).1
    refine wpIn_rangeFunc fun fn _ => ?_
    let L0 : Loop := { state := .ready, pending := none, fn := fn, tmps := a.tmps, params := ps', assign := asg', body := body', defers := w.heap.size }
    let w1 := (w.alloc (.deferred (some []))).alloc (.loop L0)
    let geo : Geo := ⟨w.heap.size + 1, 0, 0, true, true⟩
    have hw1s : w1.heap.size = w.heap.size + 2 := by simp [w1]
    have hw1old : ∀ i, i < w.heap.size → w1.heap[i]? = w.heap[i]? := fun i hi => by
      exact (heap_alloc_old (w.alloc (.deferred (some []))) (.loop L0) i (by simp; omega)).trans (heap_alloc_old w _ i hi)
    have hw1d : w1.heap[w.heap.size]? = some (.deferred (some [])) := by
      exact (heap_alloc_old (w.alloc (.deferred (some []))) (.loop L0) w.heap.size (by simp)).trans (heap_alloc_new w _)
    have hw1l : w1.heap[w.heap.size + 1]? = some (.loop L0) := by
      have h5 := heap_alloc_new (w.alloc (.deferred (some []))) (.loop L0)
      have h6 : (w.alloc (.deferred (some []))).heap.size = w.heap.size + 1 := by simp
      rw [h6] at h5; exact h5
    have hst1 : Step (CR P) H.length ρ H w (ρ.push geo) (H ++ [.loop true .ready e' ps asg body .normal]) w1 := by
      refine step_push (w' := w1) hs rfl rfl rfl (by rw [hw1s]; omega) hw1old geo _ (Nat.le_succ _) ?_
      refine ⟨L0, by rw [Rho.push_new]; exact hw1l, rfl, ⟨N, he.ext (ρ.ext_push geo), fun q hq => hpN q hq, hca, hcb⟩, by rw [hps], rfl⟩
    have hd1 : DR s0 (ρ.push geo) (H ++ [.loop true .ready e' ps asg body .normal]) w1 ([{ target := .collected w.heap.size, args := #[] }] ++ a.defers) := by
      obtain ⟨h0, rs, h2, h3, h4⟩ := hd.step hst1
      have hs0 : s0 ≤ w.heap.size := hd.1
      refine ⟨h0, w.heap.size :: rs, by rw [h2]; rfl, List.nodup_cons.2 ⟨fun hm => ?_, h3⟩, fun r hr => ?_⟩
      · obtain ⟨_, rs', h2', _, h4'⟩ := hd
        have : rs = rs' := by
          have h5 := h2.symm.trans h2'
          exact (List.map_inj_right (fun x y h => by simp [markOf] at h; exact h)).1 h5
        subst this
        have h6 := (h4' _ hm).2.1
        have := (Array.getElem?_eq_some_iff.1 h6).1
        omega
      · rcases List.mem_cons.1 hr with rfl | hr
        · refine ⟨hs0, hw1d, fun c hc => ?_⟩
          rcases Nat.lt_or_ge c.base H.length with hlt | hge
          · rw [nget_append_old hlt] at hc
            rw [Rho.push_old ρ geo (by rw [hs.n]; omega)]
            have := (hs.obj c).rw_lt hc; omega
          · rw [nget_append_new hge] at hc
            split at hc
            · rename_i hcH
              cases c with
              | p c => rw [base_p] at hcH; subst hcH; rw [← hs.n, Rho.push_new]; show w.heap.size + 1 ≠ _; omega
              | v c i => cases hc
            · cases hc
        · exact h4 r hr
    have hy : VR (ρ.push geo) (.yield H.length) (.func (.yield (w.heap.size + 1)) #[] #[]) := by
      have := VR.yield (ρ := ρ.push geo) H.length (push_ok hs)
      rwa [← hs.n, Rho.push_new, hs.n] at this
    have hargs : VRL (ρ.push geo) (first ++ (.yield H.length :: cap)) (fi ++ (.func (.yield (w.heap.size + 1)) #[] #[] :: ca)) :=
      (hf1.ext (ρ.ext_push geo)).append (.cons _ _ _ _ hy (hf2.ext (ρ.ext_push geo)))
    refine ⟨w.heap.size + 1, [{ target := .collected w.heap.size, args := #[] }], w1, { target := .fn (.func f) ca.toArray, args := fi.toArray ++ #[.func (.yield (w.heap.size + 1)) #[] #[]] }, w1, f, (fi ++ (.func (.yield (w.heap.size + 1)) #[] #[] :: ca)).toArray, w1,
      run_enterLoop_outer _ _ _ _ _, ?_, fun _ _ => trivial, ?_, (fun h => by cases h), callsIn_Fr ?_⟩
    · simp only [resolve, rangeCall, hgx, Deferred.ofValue, Sem.run_pure]
      simp [Act.eval]
    · simp only [invoke]
      have e1 : (fi.toArray ++ #[Value.func (.yield (w.heap.size + 1)) #[] #[]] ++ ca.toArray) = (fi ++ (.func (.yield (w.heap.size + 1)) #[] #[] :: ca)).toArray := by simp
      rw [e1]; exact run_enter hent
    · have hrunok := callOn_sound (fun args H v H' h => (hp.call f args H v H' h).2) hcall (ρ.push geo) w1 _ hargs hst1.sr
      refine hrunok.mono ?_
      rintro en w3 ⟨x, ρ2, rfl, h1, h2, h3⟩
      have hlo := loopOf_some ho
      have hob := h2.sr.obj (.p H.length)
      rw [nget_p, hlo] at hob
      obtain ⟨L, hL, hLok⟩ := hob
      have hgeo : (ρ2.g (.p H.length)) = geo := by
        rw [h2.rho H.length (by simp), ← hs.n, Rho.push_new]
      rw [hgeo] at hL
      have hL : w3.heap[w.heap.size + 1]? = some (.loop L) := hL
      simp only [andB_eq, notB_eq, Bool.and_eq_true, Bool.not_eq_true'] at hcnd
      have hnb : L.state ≠ .busy := by
        rw [hLok.st]
        intro h
        have h5 := stNo_eq.2 h
        rw [h5] at hcnd; exact absurd hcnd.2 (by decide)
      have hend := run_endLoop (P := P) (w := w3) hL hnb
      have hlt3 : w.heap.size + 1 < w3.heap.size := (Array.getElem?_eq_some_iff.1 hL).1
      refine ⟨exitCode o.pd, w3.putObj (w.heap.size + 1) (.loop { L with state := .exhausted }), by rw [← hLok.pd]; exact hend, ?_⟩
      have hst3 : Step (CR P) H2.length ρ2 H2 w3 ρ2 (H2.set H.length .dead) (w3.putObj (w.heap.size + 1) (.loop { L with state := .exhausted })) :=
        step_end (w' := w3.putObj (w.heap.size + 1) (.loop { L with state := .exhausted })) h2.sr rfl rfl rfl (by simp) H.length (by rw [hlo]; exact hcnd.1) (fun i hi => World.putObj_heap_other (by rw [hgeo] at hi; exact hi))
      have hl1 : (H ++ [AObj.loop true .ready e' ps asg body .normal]).length = H.length + 1 := by simp
      have hall : Step (CR P) b ρ H w ρ2 (H2.set H.length .dead) (w3.putObj (w.heap.size + 1) (.loop { L with state := .exhausted })) :=
        ((hst1.mono hb).trans (h2.mono (by rw [hl1]; omega))).trans (hst3.mono (by rw [hl1] at h3; omega))
      have hER : ER ρ2 N e' a.tmps := (he.ext (ρ.ext_push geo)).ext (h2.ext hst1.sr h3)
      have hDR := (hd1.step h2).step hst3
      have hfin : Q (exitOf o.pd) { a with defers := [{ target := .collected w.heap.size, args := #[] }] ++ a.defers } (w3.putObj (w.heap.size + 1) (.loop { L with state := .exhausted })) :=
        hQ _ _ ρ2 hall hER hDR (by rw [List.length_set]; rw [hl1] at h3; omega)
      cases hpd : o.pd with
      | normal => rw [hpd] at hfin; exact hfin
      | exit i => rw [hpd] at hfin; exact wpIn_exit hfin
      | ret => rw [hpd] at hfin; exact wpIn_ret hfin
  | _ => cases hrun
/-! ### a round -/
theorem params_ER {ρ : Rho} : ∀ {ps : List Nat} {args : List AVal} {xs : List Value} {e : Env} {t : Array Value}, ER ρ N e t → (∀ q ∈ ps, q < N) → VRL ρ args xs → args.length = ps.length →
    ER ρ N (setParams ps args e) ((ps.zip xs).foldl (fun tmps (q : Tmp × Value) => tmps.setIfInBounds q.1 q.2) t) := by
  intro ps
  induction ps with
  | nil => intro args xs e t h _ _ _; exact h
  | cons q ps ih =>
    intro args xs e t h hq hv hl
    cases args with
    | nil => simp at hl
    | cons v vs =>
      cases hv with | cons _ x _ xs h1 h2 =>
      exact ih (h.put q (hq q (.head _)) h1) (fun r hr => hq r (.tail _ hr)) h2 (by simpa using hl)
theorem yield_sound {m : Nat} (hp : ExOK (CR P) P p m) (hm : P.follows .mixedOrders = true) {a : Nat} {args : List AVal} {H : Heap} {v : AVal} {H' : Heap} (h : yield1 p a args H = some (v, H')) : YieldOK (CR P) P a args H v H' := by
  intro ρ w xs hx hs
  obtain ⟨o, ho, h⟩ := ob_eq h
  obtain ⟨hc, h⟩ := ite'_some h
  obtain ⟨⟨o1, e1, H1⟩, h1, h⟩ := ob_eq h
  obtain ⟨hn, h⟩ := ite'_some h
  obtain ⟨o2, ho2, h⟩ := ob_eq h
  obtain ⟨hc2, h⟩ := ite'_some h
  obtain ⟨⟨o3, e3, H3⟩, h3, h⟩ := ob_eq h
  obtain ⟨o4, ho4, h⟩ := ob_eq h
  obtain ⟨hc4, h⟩ := ite'_some h
  cases h
  simp only [andB_eq, Bool.and_eq_true, len_eq] at hc hc2 hc4
  obtain ⟨⟨hrw, hst⟩, hlen⟩ := hc
  have hlen := Nat.eq_of_beq_eq_true hlen
  have hst := stNo_ready.1 (Nat.eq_of_beq_eq_true hst)
  have hlo := loopOf_some ho
  have hal : a < H.length := hget_live (by rw [hlo]; intro h; cases h)
  have hob := hs.obj (.p a)
  rw [nget_p, hlo] at hob
  obtain ⟨L, hL, hLok⟩ := hob
  obtain ⟨N, hER, hpN, hCa, hCb⟩ := hLok.tmps
  have hn1 : o1 = .normal := by cases o1 <;> first | rfl | (cases hn; done)
  subst hn1
  refine ⟨L, hL, by rw [hLok.ps]; simp [← hx.length, hlen], ?_⟩
  have hsound := exec_sound hp hm (range_sound hp.calls)
  refine roundIn_of_wpIn trivial ?_
  have hER1 : ER ρ N (setParams o.ps args o.tmps) ((L.params.zip xs.toArray).foldl (fun tmps (q : Tmp × Value) => tmps.setIfInBounds q.1 q.2) L.tmps) := by
    have := params_ER hER hpN hx hlen
    rw [← Array.foldl_toList, hLok.ps, Array.toList_zip]
    exact this
  have hD0 : ∀ (ρ : Rho) (H : Heap) (w : World), DR 0 ρ H w [] := fun ρ H w => ⟨Nat.zero_le _, [], rfl, List.nodup_nil, by simp⟩
  rw [len_eq] at h1 h3
  refine hsound o.asg true (some (ρ.g (.p a)).b) N 0 H.length L.assign _ H .normal e1 H1 ρ w { tmps := _, defers := [] } _ (by simp) hCa (by exact h1) hs hER1 (hD0 _ _ _) (Nat.le_refl _) ?_
  intro a1 w1 ρ1 g1 g2 g3 g4
  have hds1 : ∀ {s0 ρ H w ds}, DR s0 ρ H w ds → True := fun _ => trivial
  -- the record, before the body
  have hlo2 := loopOf_some ho2
  have hob2 := g1.sr.obj (.p a)
  have hlo2 : hget H1 a = _ := hlo2
  rw [nget_p, hlo2] at hob2
  obtain ⟨L2, hL2, hLok2⟩ := hob2
  rw [g1.rho a hal] at hL2
  obtain ⟨hrw2, hst2⟩ := hc2
  have hst2 := stNo_ready.1 (Nat.eq_of_beq_eq_true hst2)
  refine ⟨_, run_beginRound hL2 (by rw [hLok2.st, hst2]), ?_⟩
  have hlt2 : (ρ.g (.p a)).b < w1.heap.size := (Array.getElem?_eq_some_iff.1 hL2).1
  let w2 := w1.putObj (ρ.g (.p a)).b (.loop { L2 with state := .busy })
  have hstep2 : Step (CR P) H1.length ρ1 H1 w1 ρ1 (H1.set a (.loop true .busy o2.tmps o2.ps o2.asg o2.body o2.pd)) w2 := by
    refine step_setP (w' := w2) g1.sr rfl rfl rfl (by simp [w2]) a (by rw [hlo2]; exact hrw2) (fun i hi => World.putObj_heap_other (by rw [g1.rho a hal] at hi; exact hi)) _ ?_ rfl (by intro i; rw [hlo2]; rfl)
    exact ⟨{ L2 with state := .busy }, by rw [g1.rho a hal]; exact World.putObj_heap_same hlt2, rfl, hLok2.tmps, hLok2.ps, hLok2.pd⟩
  rw [upd_eq] at h3
  refine hsound o.body true (some (ρ.g (.p a)).b) N 0 H.length L.body e1 _ o3 e3 H3 ρ1 w2 a1 _ (by simp) hCb (by exact h3) hstep2.sr g2 (g3.step hstep2) (by rw [List.length_set]; exact g4) ?_
  intro a3 w3 ρ3 k1 k2 k3 k4
  have hlo4 := loopOf_some ho4
  have hlo4 : hget H3 a = _ := hlo4
  have hob4 := k1.sr.obj (.p a)
  rw [nget_p, hlo4] at hob4
  obtain ⟨L4, hL4, hLok4⟩ := hob4
  have hg3 : ρ3.g (.p a) = ρ.g (.p a) := by rw [k1.rho a hal, g1.rho a hal]
  rw [hg3] at hL4
  obtain ⟨hrw4, hst4⟩ := hc4
  have hlt4 : (ρ.g (.p a)).b < w3.heap.size := (Array.getElem?_eq_some_iff.1 hL4).1
  have endR : ∀ (jump : Option Code), jump = exitCode o3 → ∃ v w', (Instr.endRound (ρ.g (.p a)).b jump).run P w3 = .ok v w' ∧
      EndOK (CR P) ρ H w (.bool o3.isNormal) (upd H3 a (.loop true (ite' o3.isNormal .ready .done) o4.tmps o4.ps o4.asg o4.body o3)) (.returned v) w' := fun jump hj => by
    have hin : jump.isNone = o3.isNormal := by subst hj; cases o3 <;> rfl
    let w4 := w3.putObj (ρ.g (.p a)).b (.loop { L4 with state := if jump.isNone then .ready else .done, pending := jump })
    have hstep4 : Step (CR P) H3.length ρ3 H3 w3 ρ3 (H3.set a (.loop true (ite' o3.isNormal .ready .done) o4.tmps o4.ps o4.asg o4.body o3)) w4 := by
      refine step_setP (w' := w4) k1.sr rfl rfl rfl (by simp [w4]) a (by rw [hlo4]; exact hrw4) (fun i hi => World.putObj_heap_other (by rw [hg3] at hi; exact hi)) _ ?_ rfl (by intro i; rw [hlo4]; rfl)
      refine ⟨{ L4 with state := if jump.isNone then .ready else .done, pending := jump }, by rw [hg3]; exact World.putObj_heap_same hlt4, ?_, hLok4.tmps, hLok4.ps, hj⟩
      rw [hin]; cases o3.isNormal <;> rfl
    have hH1 : H.length ≤ H1.length := g4
    refine ⟨_, w4, run_endRound jump hL4, .bool jump.isNone, ρ3, rfl, by rw [hin]; exact .bool _, ?_, by rw [upd_eq, List.length_set]; exact k4⟩
    rw [upd_eq]
    exact ((g1.trans (hstep2.mono hH1)).trans k1).trans (hstep4.mono k4)
  cases o3 with
  | normal => exact endR none rfl
  | exit i => exact endR (some (.exit i)) rfl
  | ret => exact endR (some .ret) rfl
/-! ### a function -/
def resOk (P : Program) : List ARes → List ResultVar → Bool
  | [], [] => true
  | .tmp t :: l, .tmp t' :: k => t == t' && resOk P l k
  | .cell t sz ag :: l, .cell t' ty :: k => t == t' && sizeIs P ty sz && aggIs P ty ag && resOk P l k
  | _, _ => false
noncomputable def fnOk (P : Program) (f : FuncId) (fn : AFunc) : Bool := match P.funcs[f]? with
  | some F => F.name != "runtime.NumGoroutine" && (match F.body with | some c => cok P false fn.body c F.ntmps | none => false) && resOk P fn.results F.results.toList
  | none => false
def resRead (tmps : Array Value) : ResultVar → Sem Value
  | .tmp t => pure (tmps.getD t undef)
  | .cell a t => do loadVar t (← asAddr (tmps.getD a undef))
theorem ares_run {C : ACode → Code → Nat → Prop} {ρ : Rho} {H : Heap} {w : World} {e : Env} {tmps : Array Value} (hs : SR C ρ H w) (he : ER ρ N e tmps) : ∀ {l : List ARes} {k : List ResultVar} {vs : List AVal}, resOk P l k = true → ares e H l = some vs →
    ∃ xs : List Value, VRL ρ vs xs ∧ (k.mapM (m := Sem) (resRead tmps)).run P w = .ok xs w := by
  intro l
  induction l with
  | nil =>
    intro k vs hr h
    cases k with
    | nil => cases h; exact ⟨[], .nil, rfl⟩
    | cons _ _ => cases hr
  | cons r l ih =>
    intro k vs hr h
    cases k with
    | nil => cases r <;> cases hr
    | cons q k =>
      obtain ⟨v, hv, h⟩ := ob_eq h
      obtain ⟨us, hus, h⟩ := ob_eq h
      cases h
      have one : ∃ y, VR ρ v y ∧ resOk P l k = true ∧ (resRead tmps q).run P w = .ok y w := by
        cases r with
        | tmp t => cases q with
          | cell _ _ => cases hr
          | tmp t' =>
            unfold resOk at hr
            simp only [Bool.and_eq_true, beq_iff_eq] at hr
            obtain ⟨rfl, hr2⟩ := hr
            cases hv
            exact ⟨_, he.2 t, hr2, rfl⟩
        | cell t sz ag => cases q with
          | tmp _ => cases hr
          | cell t' ty =>
            unfold resOk at hr
            simp only [Bool.and_eq_true, beq_iff_eq] at hr
            obtain ⟨⟨⟨rfl, h1⟩, h2⟩, hr2⟩ := hr
            obtain ⟨y, hy, hvr⟩ := load_run (P := P) h1 h2 hs (he.2 t) hv
            refine ⟨y, hvr, hr2, ?_⟩
            show (do loadVar ty (← asAddr (tmps.getD t undef)) : Sem Value).run P w = _
            obtain ⟨pt, hpt, _⟩ := ob_eq (hv : ob (asPtr (eget e t)) _ = some v)
            have hvt := he.2 t
            rw [asPtr_some hpt] at hvt
            generalize tmps.getD t undef = q at hvt hy
            cases hvt with | ptr _ _ hn =>
            simpa [Instr.loadAt, Instr.sureAddr, asAddr, Sem.run_bind] using hy
      obtain ⟨y, hy, hr', hrun⟩ := one
      obtain ⟨ys, hys, hrun2⟩ := ih hr' hus
      refine ⟨y :: ys, .cons _ _ _ _ hy hys, ?_⟩
      simp only [List.mapM_cons, Sem.run_bind]
      rw [hrun]; simp only [Result.andThen_ok]
      rw [hrun2]; rfl
theorem tupOf_VR {ρ : Rho} {vs : List AVal} {xs : List Value} (h : VRL ρ vs xs) : VR ρ (tupOf vs) (if h : xs.toArray.size = 1 then xs.toArray[0] else .tuple xs.toArray) := by
  cases h with
  | nil => exact .tup [] [] .nil
  | cons v x vs xs h hs =>
    cases hs with
    | nil => exact h
    | cons u y us ys h2 hs =>
      rw [dif_neg (by simp)]
      exact .tup _ _ (.cons _ _ _ _ h (.cons _ _ _ _ h2 hs))
theorem argEnv_get (l : List AVal) (i t : Nat) : eget (argEnv l i) t = if i ≤ t then (l[t - i]?).getD .undef else .undef := by
  induction l generalizing i with
  | nil => show AVal.undef = _; simp
  | cons v l ih =>
    show eget ((i, v) :: argEnv l (i + 1)) t = _
    rw [eget_cons, ih]
    by_cases h : i = t
    · subst h; simp
    · rw [if_neg h]
      by_cases h2 : i ≤ t
      · rw [if_pos (by omega), if_pos h2, show t - i = (t - (i + 1)) + 1 from by omega]; simp
      · rw [if_neg (by omega), if_neg h2]
theorem args_ER {ρ : Rho} {args : List AVal} {xs : List Value} (n : Nat) (h : VRL ρ args xs) : ER ρ n (argEnv args 0) (xs.toArray ++ Array.replicate (n - xs.toArray.size) undef) := by
  refine ⟨by simp; omega, fun t => ?_⟩
  rw [argEnv_get, if_pos (Nat.zero_le _), Nat.sub_zero]
  cases ht : args[t]? with
  | none => exact .undef _
  | some v =>
    obtain ⟨x, hx, hr⟩ := h.get ht
    have : t < xs.length := (List.getElem?_eq_some_iff.1 hx).1
    have e1 : (xs.toArray ++ Array.replicate (n - xs.toArray.size) undef).getD t undef = x := by
      rw [Array.getD_eq_getD_getElem?, Array.getElem?_append_left (by simpa using this)]
      simp [hx]
    rw [e1]; exact hr
theorem marks_leave {C : ACode → Code → Nat → Prop} {fn : Func} {tmps : Array Value} {R : Ending → World → Prop} {k s0 : Nat} {ρ0 ρ : Rho} {H0 H : Heap} {w0 : World} (hs0 : w0.heap.size ≤ s0)
    (fin : ∀ w, Step C k ρ0 H0 w0 ρ H w → ∃ v, (results fn tmps).run P w = .ok v w ∧ R (.returned v) w) : ∀ (ds : List Deferred) (w : World), Step C k ρ0 H0 w0 ρ H w → DR s0 ρ H w ds → LeavesInM Fence.wide 0 P fn tmps R ds .returning w := by
  intro ds
  induction ds with
  | nil => intro w hst _; exact fin w hst
  | cons d ds ih =>
    intro w hst hd
    obtain ⟨h0, rs, h1, h2, h3⟩ := hd
    cases rs with
    | nil => cases h1
    | cons r rs =>
      simp only [List.map_cons, List.cons.injEq] at h1
      obtain ⟨rfl, rfl⟩ := h1
      rw [List.nodup_cons] at h2
      obtain ⟨g1, g2, g3⟩ := h3 r (.head _)
      have hlt : r < w.heap.size := (Array.getElem?_eq_some_iff.1 g2).1
      have hlive : ∀ c, (nget H c).live = true → (ρ.g c).b ≠ r := fun c hc he => by
        have hob := hst.sr.obj c
        generalize nget H c = oc at hc hob
        cases oc with
        | dead => cases hc
        | row rw f cs =>
          cases cs with
          | nil => cases hc
          | cons v cs =>
            obtain ⟨x, hx, _⟩ := RowR.cell hob 0 v rfl
            unfold World.cell? at hx
            simp only [he, g2] at hx; cases hx
        | map rw es => obtain ⟨en, cl, hm, _⟩ := hob; rw [he, g2] at hm; cases hm
        | loop rw st tmps ps asg body pd => obtain ⟨L, hm, _⟩ := hob; rw [he, g2] at hm; cases hm
        | mat rw rows =>
          cases rows with
          | nil => cases hc
          | cons v cs =>
            obtain ⟨x, hx, _⟩ := RowR.cell hob.1 0 _ rfl
            unfold World.cell? at hx
            simp only [he, g2] at hx; cases hx
      let w' := w.putObj r (.deferred none)
      have hsz : w'.heap.size = w.heap.size := by simp [w']
      have hother : ∀ i, i ≠ r → w'.heap[i]? = w.heap[i]? := fun i hi => World.putObj_heap_other hi
      have hsr : SR C ρ H w' := ⟨hst.sr.n, fun c => by
        by_cases hc : (nget H c).live = true
        · exact (hst.sr.obj c).keep (Ext.refl ρ) (.refl ρ c) fun _ => hother _ (hlive c hc)
        · exact (hst.sr.obj c).dull (by simpa using hc) rfl, hst.sr.apart⟩
      have hst' : Step C k ρ0 H0 w0 ρ H w' := ⟨hst.rho, hst.rhoV, hst.virt, hst.wm, hsr, hst.os, hst.tape, hst.output, by rw [hsz]; exact hst.size, fun i hi hn => (hother i (by omega)).trans (hst.frame i hi hn), hst.own, hst.fresh⟩
      refine ⟨by simp, .inl ⟨r, w', rfl, run_takeDeferred g2, ih w' hst' ⟨by rw [hsz]; exact h0, rs, rfl, h2.2, fun q hq => ?_⟩⟩⟩
      obtain ⟨q1, q2, q3⟩ := h3 q (.tail _ hq)
      exact ⟨q1, (hother q (fun h => by subst h; exact h2.1 hq)).trans q2, q3⟩
theorem call_sound {m : Nat} {tab : Nat → Option AFunc} (ht : ∀ f fn, tab f = some fn → fnOk P f fn = true) (hp : ExOK (CR P) P p m) (hm : P.follows .mixedOrders = true) {f : FuncId} {args : List AVal} {H : Heap} {v : AVal} {H' : Heap}
    (h : call1 tab p f args H = some (v, H')) : Enter P f ∧ RunOK (CR P) P f args H v H' := by
  obtain ⟨fn, hfn, h⟩ := ob_eq h
  obtain ⟨⟨v0, H0⟩, h, hgc⟩ := ob_eq h
  obtain ⟨⟨o1, e1, H1⟩, h1, h⟩ := ob_eq h
  obtain ⟨hne, h⟩ := ite'_none h
  obtain ⟨vs, hvs, h⟩ := ob_eq h
  cases h
  cases hgc
  have hok := ht f fn hfn
  unfold fnOk at hok
  split at hok
  · rename_i F hF
    simp only [Bool.and_eq_true] at hok
    obtain ⟨⟨hname, hbody⟩, hres⟩ := hok
    split at hbody
    · rename_i c hc
      have hname : F.name ≠ "runtime.NumGoroutine" := by simpa using hname
      refine ⟨⟨F, hF, by rw [hc]; rfl, hname⟩, fun ρ w xs hx hs => ?_⟩
      rw [len_eq]
      refine CallsIn.mono (R := fun e w' => ∃ x ρ', e = .returned x ∧ VR ρ' (tupOf vs) x ∧ Step (CR P) H.length ρ H w ρ' H1 w' ∧ H.length ≤ H1.length) ?_ ?_
      rotate_left
      · rintro e w' ⟨x, ρ', rfl, k1, k2, k3⟩
        have hER : ER ρ' 1 [(0, tupOf vs)] #[x] := ⟨by simp, fun t => by
          rw [eget_cons]; split
          · rename_i h; subst h; exact k1
          · exact .undef _⟩
        obtain ⟨g1, g2, g3⟩ := gc_step (b := H.length) k2.sr hER
        refine ⟨x, _, rfl, ?_, k2.trans g1, g3⟩
        have := g2.2 0
        exact this
      refine callsIn_of_wp_marks hF hc trivial ?_
      have hsound := exec_sound hp hm (range_sound hp.calls)
      rw [len_eq] at h1
      refine hsound fn.body false none F.ntmps w.heap.size H.length c (argEnv args 0) H o1 e1 H1 ρ w { tmps := _, defers := [] } _ (by simp) hbody (by exact h1) hs (args_ER F.ntmps hx) ⟨Nat.le_refl _, [], rfl, List.nodup_nil, by simp⟩ (Nat.le_refl _) ?_
      intro a1 w1 ρ1 g1 g2 g3 g4
      have key : LeavesInM Fence.wide 0 P F a1.tmps (fun e w' => ∃ x ρ', e = .returned x ∧ VR ρ' (tupOf vs) x ∧ Step (CR P) H.length ρ H w ρ' H1 w' ∧ H.length ≤ H1.length) a1.defers .returning w1 := by
        refine marks_leave (Nat.le_refl _) (fun w2 hw2 => ?_) a1.defers w1 g1 g3
        obtain ⟨ys, hys, hrun⟩ := ares_run (P := P) hw2.sr g2 hres hvs
        refine ⟨if h : ys.toArray.size = 1 then ys.toArray[0] else .tuple ys.toArray, ?_, _, ρ1, rfl, tupOf_VR hys, hw2, g4⟩
        have e1 : results F a1.tmps = (do
            let vs ← F.results.mapM (resRead a1.tmps)
            pure (if h : vs.size = 1 then vs[0] else .tuple vs)) := by
          unfold results
          congr 1
        rw [e1, Array.mapM_eq_mapM_toList]
        simp only [Sem.run_bind, Sem.run_map]
        rw [hrun]; rfl
      cases o1 with
      | normal => exact key
      | ret => exact key
      | exit i => cases hne
    · cases hbody
  · cases hok
theorem ex_ok {tab : Nat → Option AFunc} (ht : ∀ f fn, tab f = some fn → fnOk P f fn = true) (hm : P.follows .mixedOrders = true) : ∀ n, ExOK (CR P) P (ex tab n) n := by
  intro n
  induction n with
  | zero => exact ⟨⟨(fun f args H v H' h => by cases h), (fun a args H v H' h => by cases h)⟩, (fun rnd ro N s0 b lv ou x code e H out e' H' ρ w a Q _ _ h => by cases h)⟩
  | succ n ih =>
    exact ⟨⟨fun f args H v H' h => call_sound ht ih hm h, fun a args H v H' h => yield_sound ih hm h⟩,
      fun rnd ro N s0 b lv ou x code e H out e' H' ρ w a Q hro hc h hs he hd hb hQ => round_sound (exec_sound ih hm (range_sound ih.calls) x) ih.loops hro hc h hs he hd hb hQ⟩
theorem acall_sound {tab : Nat → Option AFunc} (ht : ∀ f fn, tab f = some fn → fnOk P f fn = true) (hm : P.follows .mixedOrders = true) {n : Nat} {f : FuncId} {args : List AVal} {H : Heap} {v : AVal} {H' : Heap}
    (h : acall tab n f args H = some (v, H')) : RunOK (CR P) P f args H v H' := ((ex_ok ht hm n).calls.call f args H v H' h).2
end
end Go.AI
