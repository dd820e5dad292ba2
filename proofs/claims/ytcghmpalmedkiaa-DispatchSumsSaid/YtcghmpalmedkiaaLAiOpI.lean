/-
  AN OPERATION THAT IS NO CALL AND THAT THE CHECK TAKES: what the interpreter computes, the machine does.
-/
import Derived.Test.YtcghmpalmedkiaaLAiOpM
set_option linter.unusedVariables false
set_option linter.unusedSimpArgs false
namespace Go.AI
section
variable {C : ACode → Code → Nat → Prop} {P : Program} {ρ : Rho} {H : Heap} {w : World} {N : Nat} {e : Env} {a : Act}
theorem args1 {xs : Array Operand} {x : Opnd} (h : opndsOk [x] xs.toList = true) : ∃ y, xs = #[y] ∧ opndOk x y = true := by
  obtain ⟨l⟩ := xs
  cases l with
  | nil => cases h
  | cons y l => cases l with
    | nil => simp [opndsOk] at h; exact ⟨y, rfl, h⟩
    | cons _ _ => simp [opndsOk] at h
theorem args2 {xs : Array Operand} {x z : Opnd} (h : opndsOk [x, z] xs.toList = true) : ∃ y u, xs = #[y, u] ∧ opndOk x y = true ∧ opndOk z u = true := by
  obtain ⟨l⟩ := xs
  cases l with
  | nil => cases h
  | cons y l => cases l with
    | nil => simp [opndsOk] at h
    | cons u l => cases l with
      | nil => simp [opndsOk] at h; exact ⟨y, u, rfl, h⟩
      | cons _ _ => simp [opndsOk] at h
theorem types1 {ts : Array TypeId} {t : TypeId} (h : ts[0]? = some t) (h1 : ts.size = 1) : ts = #[t] := by
  obtain ⟨l⟩ := ts
  cases l with
  | nil => cases h
  | cons y l => cases l with
    | nil => simp at h; rw [h]
    | cons _ _ => simp at h1
theorem types2 {ts : Array TypeId} {t u : TypeId} (h : ts[0]? = some t) (h' : ts[1]? = some u) (h1 : ts.size = 2) : ts = #[t, u] := by
  obtain ⟨l⟩ := ts
  cases l with
  | nil => cases h
  | cons y l => cases l with
    | nil => simp at h1
    | cons z l => cases l with
      | nil => simp at h h'; rw [h, h']
      | cons _ _ => simp at h1
theorem types2' {ts : Array TypeId} {t : TypeId} (h : ts[0]? = some t) (h1 : ts.size = 2) : ∃ u, ts = #[t, u] := by
  have : ∃ u, ts[1]? = some u := ⟨ts[1], Array.getElem?_eq_getElem (by omega)⟩
  obtain ⟨u, hu⟩ := this
  exact ⟨u, types2 h hu h1⟩
theorem run_builtin {c : Call} {o : Oper} {b : Builtin} (ho : o.op = .call c) (hc : c.callee = .builtin b) : ∃ k, (execOp a.eval o).run P w = (builtin b c.argTypes o.type k (c.args.map a.eval)).run P w := by
  simp only [execOp, ho, resolve, hc, invoke, Sem.run_bind, Sem.run_pure, Result.andThen_ok]
  exact ⟨_, rfl⟩
def nilGeo (w : World) : Geo := ⟨w.heap.size, 0, 0, true, true⟩
theorem step_nil (hs : SR C ρ H w) : Step C H.length ρ H w (ρ.push (nilGeo w)) (H ++ [nilRow]) w := by
  refine step_push hs rfl rfl rfl (Nat.le_refl _) (fun _ _ => rfl) (nilGeo w) nilRow (Nat.le_refl _) ?_
  show RowR _ ((ρ.push (nilGeo w)).g (.p ρ.n)) true true [] w
  rw [Rho.push_new]
  exact ⟨fun i v hv => by simp at hv, fun _ => rfl, fun _ hne => absurd rfl hne, fun _ _ => ⟨rfl, rfl⟩⟩
theorem nil_VR (hs : SR C ρ H w) (sz : Nat) : VR (ρ.push (nilGeo w)) (.slice (.p H.length) 0 0 0 sz false) (.slice none 0 0) := by
  have hg : (ρ.push (nilGeo w)).g (.p H.length) = nilGeo w := by rw [← hs.n, Rho.push_new]
  exact .slice _ _ _ _ _ _ none 0 (push_ok hs) (Nat.le_refl _) (fun h => by cases h) (fun h => absurd h (by omega)) (fun _ => by rw [hg]; simp [nilGeo]) (Nat.le_refl _)
theorem op_nils {sz : Nat} {x : Opnd} {y : Operand} (hs : SR C ρ H w) (he : ER ρ N e a.tmps) (h : opndOk x y = true) {v : AVal} {H' : Heap} (hr : oNils sz x e H = some (v, H')) :
    OpRun C P (pure (.value (a.eval y))) ρ H w v H' := by
  obtain ⟨hn, hr⟩ := ite'_some hr
  have hv := opnd_VR h he (ρ := ρ)
  rw [isNilS_true hn] at hv
  rw [apd_eq, len_eq] at hr
  cases hr
  refine ⟨_, w, a.eval y, _, rfl, .inl rfl, ?_, step_nil hs, by simp⟩
  generalize a.eval y = q at hv
  cases hv
  exact nil_VR hs sz
theorem denilL_sound : ∀ (szs : List Nat) {cs : List AVal} {xs : List Value} {ρ : Rho} {H : Heap}, SR C ρ H w → VRL ρ cs xs →
    ∃ ρ', VRL ρ' (denilL szs cs H).1 xs ∧ Step C H.length ρ H w ρ' (denilL szs cs H).2 w ∧ H.length ≤ (denilL szs cs H).2.length := by
  intro szs
  induction szs with
  | nil => intro cs xs ρ H hs hv; exact ⟨ρ, hv, Step.refl hs, Nat.le_refl _⟩
  | cons sz szs ih =>
    intro cs xs ρ H hs hv
    cases hv with
    | nil => exact ⟨ρ, .nil, Step.refl hs, Nat.le_refl _⟩
    | cons v x cs xs h1 h2 =>
      have e0 : denilL (sz :: szs) (v :: cs) H = ite' (andB (isNilS v) (notB (Nat.beq sz 0))) (consL (.slice (.p (len H)) 0 0 0 sz false) (denilL szs cs (apd H [nilRow]))) (consL v (denilL szs cs H)) := rfl
      rw [e0]
      cases hb : andB (isNilS v) (notB (Nat.beq sz 0)) with
      | true =>
        simp only [andB_eq, Bool.and_eq_true] at hb
        rw [isNilS_true hb.1] at h1
        have hst := step_nil hs
        have hs' := hst.sr
        have hv' := h2.ext (hst.ext hs (by simp))
        obtain ⟨ρ', g1, g2, g3⟩ := ih hs' hv'
        rw [ite'_true, apd_eq, len_eq]
        refine ⟨ρ', ?_, ?_, ?_⟩
        · have hn := nil_VR hs sz
          cases h1
          exact .cons _ _ _ _ (hn.ext (g2.ext hs' g3)) g1
        · exact hst.trans (g2.mono (by simp))
        · have : (H ++ [nilRow]).length ≤ (denilL szs cs (H ++ [nilRow])).2.length := g3
          have h3 : H.length ≤ (H ++ [nilRow]).length := by simp
          exact Nat.le_trans h3 this
      | false =>
        obtain ⟨ρ', g1, g2, g3⟩ := ih hs h2
        exact ⟨ρ', .cons _ _ _ _ (h1.ext (g2.ext hs g3)) g1, g2, g3⟩
theorem op_nbuild {s : Sem Next} {szs : List Nat} {cs : List AVal} (hs : SR C ρ H w) (h : OpRun C P s ρ H w (.agg cs) H) : OpRun C P s ρ H w (.agg (denilL szs cs H).1) (denilL szs cs H).2 := by
  obtain ⟨r, w', x, ρ', h1, h2, h3, h4, h5⟩ := h
  cases h3 with | agg _ xs hxs =>
  obtain ⟨ρ2, g1, g2, g3⟩ := denilL_sound (w := w') szs h4.sr hxs
  exact ⟨r, w', _, ρ2, h1, h2, .agg _ _ g1, h4.trans g2, g3⟩
theorem op_nalloc {t : TypeId} {szs : List Nat} {z : List AVal} (hs : SR C ρ H w) (hz : zeroIs P t z = true) {v : AVal} {H' : Heap} (hr : oNalloc szs t z e H = some (v, H')) :
    OpRun C P (do pure (.value (← Instr.alloc t true (.tuple #[])))) ρ H w v H' := by
  obtain ⟨h0, hr⟩ := ite'_some hr
  rw [len_eq] at h0
  have hne : z ≠ [] := fun h => by subst h; cases h0
  cases hr
  obtain ⟨r, w', x, ρ1, h1, h2, h3, h4, h5⟩ := op_alloc (P := P) (e := e) hs hz (v := .ptr (.p (len H)) 0) (H' := newRow H z) rfl
  have hH1 : newRow H z = H ++ [.row true (AVal.flatL z) z] := apd_eq _ _
  have hget1 : hget (newRow H z) H.length = .row true (AVal.flatL z) z := by rw [hH1, hget_append_new (Nat.le_refl _), if_pos rfl]
  have hob := h4.sr.obj (.p H.length)
  rw [nget_p, hget1] at hob
  have hob : RowR ρ1 (ρ1.g (.p H.length)) true (AVal.flatL z) z w' := hob
  obtain ⟨xs, k1, k2, k3⟩ := hob.read (n := z.length) (off := 0) (read_all z [])
  obtain ⟨ρ2, g1, g2, g3⟩ := denilL_sound (w := w') szs h4.sr k1
  have hlt : H.length < (newRow H z).length := by rw [hH1]; simp
  have hgeo := g2.rho H.length hlt
  -- the row of the cells as they were still lies there
  have hgl : hget (denilL szs z (newRow H z)).2 H.length = .row true (AVal.flatL z) z := by
    have key : ∀ (szs : List Nat) (cs : List AVal) (K : Heap) (a : Nat), a < K.length → hget (denilL szs cs K).2 a = hget K a := by
      intro szs
      induction szs with
      | nil => intro cs K a _; rfl
      | cons sz szs ih =>
        intro cs K a ha
        cases cs with
        | nil => rfl
        | cons v cs =>
          have e0 : denilL (sz :: szs) (v :: cs) K = ite' (andB (isNilS v) (notB (Nat.beq sz 0))) (consL (.slice (.p (len K)) 0 0 0 sz false) (denilL szs cs (apd K [nilRow]))) (consL v (denilL szs cs K)) := rfl
          rw [e0]
          cases andB (isNilS v) (notB (Nat.beq sz 0)) with
          | true =>
            show hget (denilL szs cs (apd K [nilRow])).2 a = _
            rw [ih cs _ a (by rw [apd_eq]; simp; omega), apd_eq, hget_append_old ha]
          | false => exact ih cs K a ha
    rw [key szs z _ _ hlt, hget1]
  have hlc : (denilL szs z (newRow H z)).1.length = z.length := by rw [g1.length, k1.length]
  have hst3 := step_setP (w' := w') g2.sr rfl rfl rfl rfl H.length (by rw [hgl]; simp [AObj.isRw, hne]) (fun _ _ => rfl) (.row true (AVal.flatL (denilL szs z (newRow H z)).1) (denilL szs z (newRow H z)).1) (by
    show RowR ρ2 (ρ2.g (.p H.length)) true _ _ w'
    have hob2 := g2.sr.obj (.p H.length)
    rw [nget_p, hgl] at hob2
    have hob2 : RowR ρ2 (ρ2.g (.p H.length)) true (AVal.flatL z) z w' := hob2
    refine ⟨fun i u hu => ?_, fun h => h, fun _ _ => ?_, fun _ hn => absurd (by rw [hn] at hlc; exact (List.eq_nil_of_length_eq_zero hlc.symm)) hne⟩
    · obtain ⟨y, hy, hr⟩ := g1.get hu
      have h6 := k3 i y hy
      rw [hgeo]
      refine ⟨y, ?_, h6.2, hr⟩
      have := h6.1
      simpa using this
    · obtain ⟨m1, m2, m3⟩ := hob2.rw rfl hne
      exact ⟨m1, by rw [hlc]; exact m2, m3⟩) (by
    show (!(denilL szs z (newRow H z)).1.isEmpty) = true
    cases hc : (denilL szs z (newRow H z)).1 with
    | nil => rw [hc] at hlc; exact absurd (List.eq_nil_of_length_eq_zero hlc.symm) hne
    | cons _ _ => rfl) (by intro i; rw [hgl]; rfl)
  refine ⟨r, w', x, ρ2, h1, h2, ?_, ?_, ?_⟩
  · have h3' := h3.ext (g2.ext h4.sr g3)
    exact h3'
  · have e1 : upd (denilL szs z (newRow H z)).2 (len H) (AObj.row true (AVal.flatL (denilL szs z (newRow H z)).1) (denilL szs z (newRow H z)).1) = ((denilL szs z (newRow H z)).2).set H.length (.row true (AVal.flatL (denilL szs z (newRow H z)).1) (denilL szs z (newRow H z)).1) := by
      rw [upd_eq, len_eq]
    rw [e1]
    exact (h4.trans (g2.mono (Nat.le_of_lt hlt))).trans (hst3.mono (Nat.le_trans (Nat.le_of_lt hlt) g3))
  · show H.length ≤ (upd _ (len H) _).length
    rw [upd_eq, List.length_set]
    exact Nat.le_trans (Nat.le_of_lt hlt) g3
theorem aop_sound {op : AOp} {o : Oper} (hs : SR C ρ H w) (he : ER ρ N e a.tmps) (h : opOk P op o.op = true) {v : AVal} {H' : Heap} (hr : aop op e H = some (v, H')) : OpRun C P (execOp a.eval o) ρ H w v H' := by
  generalize hop : o.op = oo at h
  unfold opOk at h
  split at h <;> (try simp only [Bool.and_eq_true, decide_eq_true_eq, beq_iff_eq] at h)
  all_goals first
    | (cases h; done)
    | skip
  · simp only [execOp, hop]; exact op_mv (P := P) hs he h hr
  · simp only [execOp, hop]; exact op_mv (P := P) hs he h hr
  · simp only [execOp, hop]; exact op_pick (P := P) hs he h.1.1 h.1.2 h.2 hr
  · obtain ⟨rfl, h⟩ := h
    simp only [execOp, hop]; exact op_alloc (P := P) (e := e) hs h hr
  · obtain ⟨rfl, h⟩ := h
    simp only [execOp, hop]; exact op_box (P := P) hs he h hr
  · obtain ⟨h1, h⟩ := h
    simp only [execOp, hop]; exact op_build (P := P) hs he h1 h hr
  · obtain ⟨⟨⟨⟨⟨⟨h1, h2⟩, h3⟩, rfl⟩, h4⟩, h5⟩, h6⟩ := h
    simp only [execOp, hop]; exact op_bslice (P := P) hs he h1 h2 h3 h4 h5 h6 hr
  · obtain ⟨⟨h1, h2⟩, h3⟩ := h
    simp only [execOp, hop]; exact op_load (P := P) hs he h1 h2 h3 hr
  · obtain ⟨⟨h1, h2⟩, h3⟩ := h
    simp only [execOp, hop]; exact op_store (P := P) hs he h1 h2 h3 hr
  · obtain ⟨⟨rfl, h2⟩, h3⟩ := h
    simp only [execOp, hop]; exact op_bin (P := P) hs he h2 h3 hr
  · obtain ⟨⟨⟨h1, h2⟩, h3⟩, h4⟩ := h
    simp only [execOp, hop]; exact op_eq (P := P) hs he h1 h2 h3 h4 hr
  · obtain ⟨rfl, h2⟩ := h
    simp only [execOp, hop]; exact op_un (P := P) hs he h2 hr
  · obtain ⟨⟨h1, h2⟩, h3⟩ := h
    simp only [execOp, hop]; exact op_conv (P := P) hs he h1 h2 h3 hr
  · obtain ⟨⟨⟨h1, h2⟩, h3⟩, h4⟩ := h
    simp only [execOp, hop]; exact op_bytes (P := P) hs he h1 h2 h3 h4 hr
  · obtain ⟨⟨rfl, h2⟩, h3⟩ := h
    simp only [execOp, hop]; exact op_mkf (P := P) hs he h2 h3 hr
  · simp only [execOp, hop]; exact op_mkmap (P := P) (e := e) hs hr
  · obtain ⟨⟨⟨⟨⟨⟨⟨h1, h2⟩, h3⟩, h4⟩, h5⟩, h6⟩, h7⟩, h8⟩ := h
    simp only [execOp, hop]; exact op_mkslice (P := P) hs he h1 h2 h3 h4 h5 h6 h7 h8 hr
  · obtain ⟨⟨⟨⟨h1, h2⟩, h3⟩, h4⟩, h5⟩ := h
    simp only [execOp, hop]; exact op_slice (P := P) hs he h1 h2 h3 h4 h5 hr
  · obtain ⟨h1, h2⟩ := h
    simp only [execOp, hop]; exact op_faddr (P := P) hs he h1 h2 hr
  · obtain ⟨⟨h1, h2⟩, h3⟩ := h
    simp only [execOp, hop]; exact op_field (P := P) hs he h1 h2 h3 hr
  · obtain ⟨⟨h1, h2⟩, h3⟩ := h
    simp only [execOp, hop]; exact op_iaddr (P := P) hs he h1 h2 h3 hr
  · obtain ⟨⟨h1, h2⟩, h3⟩ := h
    simp only [execOp, hop]; exact op_iarr (P := P) hs he h1 h2 h3 hr
  · obtain ⟨⟨h1, h2⟩, h3⟩ := h
    simp only [execOp, hop]; exact op_index (P := P) hs he h1 h2 h3 hr
  · obtain ⟨⟨h1, h2⟩, h3⟩ := h
    simp only [execOp, hop]; exact op_sindex (P := P) hs he h1 h2 h3 hr
  · obtain ⟨⟨⟨h1, rfl⟩, h2⟩, h3⟩ := h
    simp only [execOp, hop]; exact op_look (P := P) hs he h1 h2 h3 hr
  · obtain ⟨⟨⟨h1, h2⟩, h3⟩, h4⟩ := h
    simp only [execOp, hop]; exact op_mupd (P := P) hs he h1 h2 h3 h4 hr
  · obtain ⟨⟨⟨h1, h2⟩, h3⟩, h4⟩ := h
    simp only [execOp, hop]; exact op_mupd (P := P) hs he h1 h2 h3 h4 hr
  · obtain ⟨rfl, h2⟩ := h
    simp only [execOp, hop]; exact op_ext (P := P) hs he h2 hr
  · -- len
    obtain ⟨⟨⟨⟨h1, h2⟩, h3⟩, h4⟩, h5⟩ := h
    split at h1
    · rename_i c hc
      split at h3
      · rename_i t ht
        obtain ⟨y, hy, h5⟩ := args1 h5
        obtain ⟨z, hz, hv, rfl⟩ := op_len (P := P) (ty := o.type) hs he h3 h5 hr
        refine .pure hs (x := z) ?_ hv
        obtain ⟨k, hk⟩ := run_builtin (P := P) (w := w) (a := a) hop hc
        rw [hk, types1 ht h4, hy]
        refine val_run ?_
        simpa using hz
      · cases h3
    · cases h1
  · -- min, max
    obtain ⟨h1, h2⟩ := h
    obtain ⟨u, hu, hr⟩ := ob_eq hr
    cases hr
    have hv := opnds_VRL (ρ := ρ) h2 he
    rename_i mx x xs c
    generalize hl : c.args.toList.map a.eval = ys at hv
    cases hv with | cons _ y _ ys h3 h4 =>
    obtain ⟨z, hz, hv⟩ := minmaxL_run (P := P) (w := w) hu h3 h4
    refine .pure hs (x := z) ?_ hv
    split at h1
    · rename_i hc
      subst h1
      obtain ⟨k, hk⟩ := run_builtin (P := P) (w := w) (a := a) hop hc
      rw [hk]
      refine val_run ?_
      simp only [Builtin.max_, Array.toList_map, hl]
      simpa using hz
    · rename_i hc
      simp at h1; subst h1
      obtain ⟨k, hk⟩ := run_builtin (P := P) (w := w) (a := a) hop hc
      rw [hk]
      refine val_run ?_
      simp only [Builtin.min_, Array.toList_map, hl]
      simpa using hz
    · cases h1
  · -- append
    obtain ⟨⟨⟨⟨⟨⟨⟨⟨⟨h1, h2⟩, h3⟩, h4⟩, h5⟩, h6⟩, h7⟩, h8⟩, h9⟩, h10⟩ := h
    split at h1
    · rename_i hc
      split at h3
      · rename_i t u ht hu
        simp only [Bool.and_eq_true, decide_eq_true_eq] at h3
        obtain ⟨h3, rfl⟩ := h3
        obtain ⟨y, u, hy, h11, h12⟩ := args2 h10
        obtain ⟨r, w', x, ρ', k1, k2⟩ := op_app (P := P) (ty := o.type) hs h3 h5 h6 h7 h8 h9 (opnd_VR h11 he) (opnd_VR h12 he) hr
        refine ⟨r, w', x, ρ', ?_, k2⟩
        obtain ⟨k, hk⟩ := run_builtin (P := P) (w := w) (a := a) hop hc
        rw [hk, types2 ht hu h4, hy]
        simpa [builtin] using k1
      · cases h3
    · cases h1
  · cases hr
  · simp only [execOp, hop]; exact op_nils (P := P) hs he h hr
  · simp only [execOp, hop]; exact op_nils (P := P) hs he h hr
  · obtain ⟨h1, h⟩ := h
    obtain ⟨cs, hcs, hr⟩ := ob_eq hr
    cases hr
    simp only [execOp, hop]
    exact op_nbuild hs (op_build (P := P) hs he h1 h (by unfold oBuild; rw [hcs]; rfl))
  · obtain ⟨rfl, h⟩ := h
    simp only [execOp, hop]; exact op_nalloc (P := P) (e := e) hs h hr
  · simp only [execOp, hop]; exact op_nilm (P := P) hs he h hr
  · simp only [execOp, hop]; exact op_nilm (P := P) hs he h hr
  · obtain ⟨⟨⟨⟨⟨⟨h1, h2⟩, h3⟩, h4⟩, h5⟩, h6⟩, h7⟩ := h
    simp only [execOp, hop]; exact op_mkmat (P := P) hs he h1 h2 h3 h4 h5 h6 h7 hr
  · obtain ⟨⟨h1, h2⟩, h3⟩ := h
    simp only [execOp, hop]; exact op_storem (P := P) hs he h1 h2 h3 hr
  · -- append of a row
    obtain ⟨⟨⟨⟨⟨⟨⟨⟨h1, h2⟩, h3⟩, h4⟩, h5⟩, h6⟩, h7⟩, h8⟩, h10⟩ := h
    split at h1
    · rename_i hc
      split at h3
      · rename_i t u ht hu
        simp only [Bool.and_eq_true, decide_eq_true_eq] at h3
        obtain ⟨h3, rfl⟩ := h3
        obtain ⟨y, u, hy, h11, h12⟩ := args2 h10
        obtain ⟨r, w', x, ρ', k1, k2⟩ := op_appm (P := P) (ty := o.type) hs h3 h5 h6 h7 h8 (opnd_VR h11 he) (opnd_VR h12 he) hr
        refine ⟨r, w', x, ρ', ?_, k2⟩
        obtain ⟨k, hk⟩ := run_builtin (P := P) (w := w) (a := a) hop hc
        rw [hk, types2 ht hu h4, hy]
        simpa [builtin] using k1
      · cases h3
    · cases h1
  · cases hr
  · cases hr
  · exact op_nilck (P := P) hs he hop h hr
  · -- cap
    obtain ⟨⟨⟨⟨h1, h2⟩, h3⟩, h4⟩, h5⟩ := h
    split at h1
    · rename_i c hc
      split at h3
      · rename_i t ht
        obtain ⟨y, hy, h5⟩ := args1 h5
        obtain ⟨z, hz, hv, rfl⟩ := op_cap (P := P) (ty := o.type) hs he h3 h5 hr
        refine .pure hs (x := z) ?_ hv
        obtain ⟨k, hk⟩ := run_builtin (P := P) (w := w) (a := a) hop hc
        rw [hk, types1 ht h4, hy]
        refine val_run ?_
        simpa using hz
      · cases h3
    · cases h1
  · -- copy
    obtain ⟨⟨⟨⟨⟨h1, h2⟩, h3⟩, h4⟩, h5⟩, h10⟩ := h
    split at h1
    · rename_i hc
      split at h3
      · rename_i t ht
        obtain ⟨y, u, hy, h11, h12⟩ := args2 h10
        obtain ⟨u', hu'⟩ := types2' ht h4
        obtain ⟨r, w', x, ρ', k1, k2⟩ := op_copy (P := P) (ty := o.type) (u := u') hs h3 h5 (opnd_VR h11 he) (opnd_VR h12 he) hr
        refine ⟨r, w', x, ρ', ?_, k2⟩
        obtain ⟨k, hk⟩ := run_builtin (P := P) (w := w) (a := a) hop hc
        rw [hk, hu', hy]
        simpa [builtin] using k1
      · cases h3
    · cases h1
  · -- clear
    obtain ⟨⟨⟨⟨⟨⟨⟨h1, h2⟩, h3⟩, h4⟩, h5⟩, h6⟩, h7⟩, h10⟩ := h
    split at h1
    · rename_i hc
      split at h3
      · rename_i t ht
        obtain ⟨y, hy, h11⟩ := args1 h10
        obtain ⟨r, w', x, ρ', k1, k2⟩ := op_clear (P := P) (ty := o.type) hs h3 h5 h6 h7 (opnd_VR h11 he) hr
        refine ⟨r, w', x, ρ', ?_, k2⟩
        obtain ⟨k, hk⟩ := run_builtin (P := P) (w := w) (a := a) hop hc
        rw [hk, types1 ht h4, hy]
        simpa [builtin] using k1
      · cases h3
    · cases h1
  · cases hr
end
end Go.AI
