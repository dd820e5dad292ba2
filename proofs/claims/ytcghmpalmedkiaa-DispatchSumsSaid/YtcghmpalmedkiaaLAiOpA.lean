/-
  OPERATIONS, ONE BY ONE (first part).
-/
import Derived.Test.YtcghmpalmedkiaaLAiOps
set_option linter.unusedVariables false
set_option linter.unusedSimpArgs false
namespace Go.AI
section
variable {C : ACode → Code → Nat → Prop} {P : Program} {ρ : Rho} {H : Heap} {w : World} {N : Nat} {e : Env} {a : Act}

theorem zeroIs_run {t : TypeId} {z : List AVal} (h : zeroIs P t z = true) : ∃ i v, P.info? t = some i ∧ i.zero = some v ∧ constL z v.cells.toList = true ∧ v.cells.size = i.size := by
  unfold zeroIs at h
  split at h
  · rename_i i hi
    split at h
    · rename_i v hv; simp at h; exact ⟨i, v, hi, hv, h.1, h.2⟩
    · cases h
  · cases h
theorem run_zeroValue' {t : TypeId} {i : TypeInfo} {v : Value} (hi : P.info? t = some i) (hv : i.zero = some v) : (zeroValue t).run P w = .ok v w := by
  simp [zeroValue, typeInfo, hi, hv]
theorem sizeIs_run {t : TypeId} {n : Nat} (h : sizeIs P t n = true) : ∃ i, P.info? t = some i ∧ i.size = n := by
  unfold sizeIs at h; split at h
  · exact ⟨_, by assumption, by simpa using h⟩
  · cases h
theorem run_sizeOf' {t : TypeId} {i : TypeInfo} (hi : P.info? t = some i) : (sizeOf t).run P w = .ok i.size w := by simp [sizeOf, typeInfo, hi]
theorem run_newRow' (t : TypeId) (cs : Array Value) : (Go.newRow t cs).run P w = .ok ⟨w.heap.size, 0, none⟩ (w.alloc (.cells cs t)) := by
  simp [Go.newRow]
theorem rowR_alloc {cs : List AVal} {xs : List Value} {f : Bool} (hv : VRL ρ cs xs) (h1 : ∀ u ∈ xs, u.oneCell' = true) (hf : f = true → AVal.flatL cs = true) (more : Array Value) (hm : xs = [] → more.size = 0) (t : TypeId) (w0 : World) (hw : w0.heap.size = w.heap.size) :
    RowR ρ ⟨w.heap.size, 0, xs.length + more.size, true, true⟩ true f cs (w0.alloc (.cells (xs.toArray ++ more) t)) := by
  refine ⟨fun i v hi => ?_, hf, fun _ _ => ⟨rfl, by rw [hv.length]; exact Nat.le_add_right _ _, xs.toArray ++ more, t, ?_, by simp⟩, fun _ hn => ⟨rfl, by
    have hx : xs = [] := by subst hn; cases hv; rfl
    show xs.length + more.size = 0
    rw [hm hx, hx]; rfl⟩⟩
  · obtain ⟨x, hx, hr⟩ := hv.get hi
    have hlt : i < xs.length := (List.getElem?_eq_some_iff.1 hx).1
    refine ⟨x, ?_, h1 x (List.mem_of_getElem? hx), hr⟩
    rw [← hw]
    simp only [Nat.zero_add]
    rw [World.cell?_alloc_new, Array.getElem?_append_left (by simpa using hlt)]
    simpa using hx
  · rw [← hw]; exact heap_alloc_new w0 _
theorem op_newRow {s : Sem Next} {cs : List AVal} {xs : List Value} {f : Bool} (hs : SR C ρ H w) (hv : VRL ρ cs xs) (h1 : ∀ u ∈ xs, u.oneCell' = true) (hf : f = true → AVal.flatL cs = true) (more : Array Value) (hm : xs = [] → more.size = 0) (t : TypeId)
    (w0 : World) (hw : w0.heap = w.heap) (ho : w0.os = w.os) (ht : w0.tape = w.tape) (hu : w0.output = w.output)
    {r : Next} {v : AVal} {x : Value} (hr : s.run P w = .ok r (w0.alloc (.cells (xs.toArray ++ more) t))) (hrx : r = .value x)
    (hvx : VR (ρ.push ⟨w.heap.size, 0, xs.length + more.size, true, true⟩) v x) : OpRun C P s ρ H w v (H ++ [.row true f cs]) := by
  refine ⟨r, _, x, ρ.push ⟨w.heap.size, 0, xs.length + more.size, true, true⟩, hr, .inl hrx, hvx, ?_, by simp⟩
  refine step_push (w' := w0.alloc (.cells (xs.toArray ++ more) t)) hs (by exact ho) (by exact ht) (by exact hu) (by simp [hw]) (fun i hi => ?_) ⟨w.heap.size, 0, xs.length + more.size, true, true⟩ (.row true f cs) (Nat.le_refl _) ?_
  · show (w0.heap.push _)[i]? = _
    rw [hw, Array.getElem?_push, if_neg (by omega)]
  · show RowR _ ((ρ.push _).g (.p ρ.n)) true f cs _
    rw [Rho.push_new]
    have := rowR_alloc (ρ := ρ.push ⟨w.heap.size, 0, xs.length + more.size, true, true⟩) (w := w) (hv.ext (ρ.ext_push _)) h1 hf more hm t w0 (by rw [hw])
    exact this

theorem op_mv {x : Opnd} {y : Operand} (hs : SR C ρ H w) (he : ER ρ N e a.tmps) (h : opndOk x y = true) {v : AVal} {H' : Heap} (hr : oMv x e H = some (v, H')) :
    OpRun C P (pure (.value (a.eval y))) ρ H w v H' := by
  cases hr; exact .pure hs rfl (opnd_VR h he)
theorem op_pick {c x z : Opnd} {c' x' z' : Operand} (hs : SR C ρ H w) (he : ER ρ N e a.tmps) (h1 : opndOk c c' = true) (h2 : opndOk x x' = true) (h3 : opndOk z z' = true) {v : AVal} {H' : Heap} (hr : oPick c x z e H = some (v, H')) :
    OpRun C P (do pure (.value (if ← Go.asBool (a.eval c') then a.eval x' else a.eval z'))) ρ H w v H' := by
  obtain ⟨t, ht, hr⟩ := ob_eq hr
  have hc := opnd_VR h1 he; rw [asBool_some ht] at hc
  cases hr
  generalize a.eval c' = q at hc
  cases hc
  refine .pure hs (x := if t then a.eval x' else a.eval z') (by simp [Go.asBool]) ?_
  cases t
  · exact opnd_VR h3 he
  · exact opnd_VR h2 he
theorem op_alloc {t : TypeId} {z : List AVal} (hs : SR C ρ H w) (hz : zeroIs P t z = true) {v : AVal} {H' : Heap} (hr : oAlloc t z e H = some (v, H')) :
    OpRun C P (do pure (.value (← Instr.alloc t true (.tuple #[])))) ρ H w v H' := by
  obtain ⟨i, zv, hi, hv, hc, _⟩ := zeroIs_run hz
  obtain ⟨h1, h2, h3⟩ := constL_VRL (ρ := ρ) hc
  have h4 : ∀ u ∈ zv.cells.toList, u.oneCell' = true := by
    intro u hu
    obtain ⟨k, hk⟩ := List.getElem?_of_mem hu
    have hl := h1.length
    have : k < z.length := by rw [hl]; exact (List.getElem?_eq_some_iff.1 hk).1
    obtain ⟨y, hy, hr⟩ := h1.get (List.getElem?_eq_getElem this)
    rw [hk] at hy; cases hy
    exact (hr.one ((oneL_iff z).1 h3 _ (List.getElem_mem this))).1
  cases hr
  have := op_newRow (s := do pure (.value (← Instr.alloc t true (.tuple #[])))) (P := P) (f := AVal.flatL z) hs h1 h4 (fun h => h) #[] (fun _ => rfl) t w rfl rfl rfl rfl (r := .value (.pointer (some ⟨w.heap.size, 0, none⟩))) (v := .ptr (.p H.length) 0)
    (x := .pointer (some ⟨w.heap.size, 0, none⟩)) (val_run (by simp [Instr.alloc, run_zeroValue' hi hv, newVar, run_newRow'])) rfl ?_
  · simpa [newRow] using this
  · have := VR.ptr (ρ := ρ.push ⟨w.heap.size, 0, zv.cells.toList.length + 0, true, true⟩) (.p H.length) 0 (push_ok hs)
    rw [← hs.n, Rho.push_new] at this; rw [← hs.n]; exact this
theorem op_box {t : TypeId} {x : Opnd} {y : Operand} (hs : SR C ρ H w) (he : ER ρ N e a.tmps) (h : opndOk x y = true) {v : AVal} {H' : Heap} (hr : oBox t x e H = some (v, H')) :
    OpRun C P (do pure (.value (← Instr.box t (a.eval y)))) ρ H w v H' := by
  obtain ⟨ho, hr⟩ := ite'_some hr
  obtain ⟨h1, h2⟩ := (opnd_VR h he).cells ho
  cases hr
  have := op_newRow (s := do pure (.value (← Instr.box t (a.eval y)))) (P := P) (f := AVal.flatL (x.ev e).cells) hs h1 h2 (fun h => h) #[] (fun _ => rfl) t w rfl rfl rfl rfl (r := .value (.pointer (some ⟨w.heap.size, 0, none⟩))) (v := .ptr (.p H.length) 0)
    (x := .pointer (some ⟨w.heap.size, 0, none⟩)) (val_run (by simp [Instr.box, newVar, run_newRow'])) rfl ?_
  · simpa [newRow] using this
  · have := VR.ptr (ρ := ρ.push ⟨w.heap.size, 0, (a.eval y).cells.toList.length + 0, true, true⟩) (.p H.length) 0 (push_ok hs)
    rw [← hs.n, Rho.push_new] at this; rw [← hs.n]; exact this
end
end Go.AI
