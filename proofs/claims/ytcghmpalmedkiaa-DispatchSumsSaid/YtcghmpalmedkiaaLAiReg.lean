/-
  A REGION IN ITS TEXT's ORDER, calls and all.
-/
import Derived.Test.YtcghmpalmedkiaaLAiCall
import Derived.RangeFuncRecord
set_option linter.unusedVariables false
set_option linter.unusedSimpArgs false
namespace Go.AI
section
variable {C : ACode → Code → Nat → Prop} {P : Program}
def Fr (ro : Option Nat) : Fence := { Fence.wide with round := ro }
theorem callsIn_Fr {ro : Option Nat} {f : FuncId} {args : Array Value} {w : World} {R : Ending → World → Prop} (h : CallsIn Fence.wide 0 P f args w R) : CallsIn (Fr ro) 0 P f args w R := h
theorem roundIn_Fr {ro : Option Nat} {l : Nat} {f : FuncId} {tmps : Array Value} {x y : Code} {w : World} {R : Ending → World → Prop} (h : RoundIn Fence.wide 0 P l f tmps x y w R) : RoundIn (Fr ro) 0 P l f tmps x y w R := h
def Enter (P : Program) (f : FuncId) : Prop := ∃ fn, P.funcs[f]? = some fn ∧ fn.body.isSome = true ∧ fn.name ≠ "runtime.NumGoroutine"
def EndOK (C : ACode → Code → Nat → Prop) (ρ : Rho) (H : Heap) (w : World) (v : AVal) (H' : Heap) (e : Ending) (w' : World) : Prop :=
  ∃ x ρ', e = .returned x ∧ VR ρ' v x ∧ Step C H.length ρ H w ρ' H' w' ∧ H.length ≤ H'.length
def YieldOK (C : ACode → Code → Nat → Prop) (P : Program) (a : Nat) (args : List AVal) (H : Heap) (v : AVal) (H' : Heap) : Prop :=
  ∀ (ρ : Rho) (w : World) (xs : List Value), VRL ρ args xs → SR C ρ H w →
    ∃ r : Loop, w.heap[(ρ.g (.p a)).b]? = some (.loop r) ∧ xs.toArray.size = r.params.size ∧
      RoundIn Fence.wide 0 P (ρ.g (.p a)).b r.fn ((r.params.zip xs.toArray).foldl (fun tmps (p : Tmp × Value) => tmps.setIfInBounds p.1 p.2) r.tmps) r.assign r.body w (EndOK C ρ H w v H')
structure CallsOK (C : ACode → Code → Nat → Prop) (P : Program) (p : Ex) : Prop where
  call : ∀ f args H v H', p.call f args H = some (v, H') → Enter P f ∧ RunOK C P f args H v H'
  yield : ∀ a args H v H', p.yield a args H = some (v, H') → YieldOK C P a args H v H'

theorem run_enter {f : FuncId} {args : Array Value} {w : World} (h : Enter P f) : (callFunc f args).run P w = .ok (.enter f args) w := by
  obtain ⟨fn, h1, h2, h3⟩ := h
  have h4 : fn.body ≠ none := by intro hb; rw [hb] at h2; cases h2
  simp [callFunc, Sem.run_bind, run_program, Result.andThen, h1, h3, h4]
theorem run_call {o : Oper} {c : Call} {g : Operand} {a : Act} {w : World} {f : FuncId} {first cap : Array Value} (ho : o.op = .call c) (hc : c.callee = .value g) (hg : a.eval g = .func (.func f) first cap) (hf : Enter P f) :
    (execOp a.eval o).run P w = .ok (.enter f (first ++ c.args.map a.eval ++ cap)) w := by
  simp only [execOp, ho, resolve, hc, hg, Deferred.ofValue, Sem.run_bind, Sem.run_pure, Result.andThen_ok, invoke]
  exact run_enter hf
theorem run_callYield {o : Oper} {c : Call} {g : Operand} {a : Act} {w : World} {l : Nat} {r : Loop} (ho : o.op = .call c) (hc : c.callee = .value g) (hg : a.eval g = .func (.yield l) #[] #[]) (hl : w.heap[l]? = some (.loop r))
    (hs : (c.args.map a.eval).size = r.params.size) :
    (execOp a.eval o).run P w = .ok (.round l r.fn ((r.params.zip (c.args.map a.eval)).foldl (fun tmps (p : Tmp × Value) => tmps.setIfInBounds p.1 p.2) r.tmps) r.assign r.body) w := by
  simp only [execOp, ho, resolve, hc, hg, Deferred.ofValue, Sem.run_bind, Sem.run_pure, Result.andThen_ok, invoke]
  rw [show (#[] ++ c.args.map a.eval) = c.args.map a.eval from by simp]
  have : (Instr.yield l (c.args.map a.eval)).run P w = _ := run_yield hl hs
  rw [this]
theorem oper_sound {p : Ex} {ro : Option Nat} {op : AOp} {o : Oper} {ρ : Rho} {H : Heap} {w : World} {N : Nat} {e : Env} {a : Act} {quiet : Bool} (hp : CallsOK C P p) (hs : SR C ρ H w) (he : ER ρ N e a.tmps) (h : opOk P op o.op = true) {v : AVal} {H' : Heap}
    (hr : aoper op p quiet e H = some (v, H')) {next : Act → World → Prop} {Q : Exit → Act → World → Prop}
    (hn : ∀ x ρ' w', VR ρ' v x → Step C H.length ρ H w ρ' H' w' → H.length ≤ H'.length → next (a.put o.dst x) w') : o.wpIn (Fr ro) 0 P a w next Q := by
  have hnd : ∀ c, o.op ≠ .defer c := fun c hc => by rw [hc] at h; unfold opOk at h; split at h <;> first | (rename_i h1; cases h1; done) | (cases h; done) | skip; all_goals (rename_i hh; cases hh)
  refine ⟨fun _ _ => trivial, ?_⟩
  rw [Oper.semAt_eq _ _ _ hnd]
  have plain : ∀ {op : AOp}, opOk P op o.op = true → aop op e H = some (v, H') → o.uponIn (Fr ro) 0 P a next Q ((execOp a.eval o).run P w) := fun h hr => by
    obtain ⟨r, w', x, ρ', h1, h2, h3, h4, h5⟩ := aop_sound (P := P) hs he h hr
    rw [h1]
    rcases h2 with rfl | ⟨rfl, rfl⟩
    · exact hn x ρ' w' h3 h4 h5
    · exact hn _ ρ' w' h3 h4 h5
  have runs : ∀ {c : Call} {g : Operand} {f : FuncId} {args : List AVal} {first cap : Array Value}, o.op = .call c → c.callee = .value g → a.eval g = .func (.func f) first cap →
      callOn (p.call f) quiet args H = some (v, H') → VRL ρ args (first ++ c.args.map a.eval ++ cap).toList → o.uponIn (Fr ro) 0 P a next Q ((execOp a.eval o).run P w) := fun {c g f args first cap} ho hc hg hcall hargs => by
    have hent : Enter P f := by
      unfold callOn at hcall
      obtain ⟨r, hr, _⟩ := ob_eq hcall
      exact (hp.call f _ _ _ _ (by exact hr)).1
    rw [run_call ho hc hg hent]
    refine ⟨(fun h => by cases h), callsIn_Fr ?_⟩
    have := callOn_sound (fun args H v H' h => (hp.call f args H v H' h).2) hcall ρ w _ hargs hs
    refine this.mono ?_
    rintro e w' ⟨x, ρ', rfl, h1, h2, h3⟩
    exact hn x ρ' w' h1 h2 h3
  cases op with
  | call f xs =>
    have hr : callOn (p.call f) quiet (evL e xs) H = some (v, H') := hr
    unfold opOk at h
    split at h <;> first | (cases h; done) | skip
    all_goals rename_i heq1 heq2
    all_goals first | (cases heq1; done) | skip
    cases heq1
    rename_i c
    simp only [Bool.and_eq_true] at h
    obtain ⟨⟨h1, h2⟩, h3⟩ := h
    split at h1
    · rename_i g hc
      simp at h1; subst h1
      refine runs (g := .func f) (first := #[]) (cap := #[]) heq2 hc rfl hr ?_
      have := opnds_VRL (ρ := ρ) h3 he
      simpa using this
    · cases h1
  | callv g xs =>
    have hr : callVal p quiet (evL e xs) H (g.ev e) = some (v, H') := hr
    unfold opOk at h
    split at h <;> first | (cases h; done) | skip
    all_goals rename_i heq1 heq2
    all_goals first | (cases heq1; done) | skip
    cases heq1
    rename_i c
    simp only [Bool.and_eq_true] at h
    obtain ⟨h1, h3⟩ := h
    split at h1
    · rename_i g' hc
      have hv := opnd_VR (ρ := ρ) h1 he
      have hxs := opnds_VRL (ρ := ρ) h3 he
      generalize hgv : g.ev e = gv at hr hv
      generalize hgx : a.eval g' = gx at hv
      cases gv with
      | func f first cap =>
        cases hv with | func _ _ _ fi ca hf1 hf2 =>
        have hr : callOn (p.call f) quiet (apd first (apd (evL e xs) cap)) H = some (v, H') := hr
        refine runs heq2 hc hgx hr ?_
        rw [apd_eq, apd_eq]
        have := hf1.append (hxs.append hf2)
        simpa using this
      | yield l =>
        cases hv with | yield _ hn' =>
        have hr : ite' quiet none (p.yield l (evL e xs) H) = some (v, H') := hr
        obtain ⟨_, hr⟩ := ite'_none hr
        obtain ⟨r, hl, hsz, hround⟩ := hp.yield l _ _ _ _ hr ρ w _ hxs hs
        have e1 : (c.args.toList.map a.eval).toArray = c.args.map a.eval := Array.ext' (by simp)
        rw [e1] at hsz hround
        rw [run_callYield heq2 hc hgx hl hsz]
        refine ⟨(fun h => by cases h), roundIn_Fr ?_⟩
        refine hround.mono ?_
        rintro e w' ⟨x, ρ', rfl, h1, h2, h3⟩
        exact hn x ρ' w' h1 h2 h3
      | _ => cases hr
    · cases h1
  | _ => exact plain h hr
end
end Go.AI
