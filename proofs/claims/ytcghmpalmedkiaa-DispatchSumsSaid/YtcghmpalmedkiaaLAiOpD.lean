/-
  OPERATIONS, ONE BY ONE (fourth part).
-/
import Derived.Test.YtcghmpalmedkiaaLAiOpC
import Derived.MapKept
import Derived.ChangeKeysEq
set_option linter.unusedVariables false
set_option linter.unusedSimpArgs false
namespace Go.AI
section
variable {C : ACode → Code → Nat → Prop} {P : Program} {ρ : Rho} {H : Heap} {w : World} {N : Nat} {e : Env} {a : Act}
theorem op_bin {op : BinOp} {t : TypeId} {x y : Opnd} {x' y' : Operand} (hs : SR C ρ H w) (he : ER ρ N e a.tmps) (h1 : opndOk x x' = true) (h2 : opndOk y y' = true) {v : AVal} {H' : Heap}
    (hr : oBin op x y e H = some (v, H')) : OpRun C P (do pure (.value (← (do eqGuard op t x' y' (a.eval x') (a.eval y'); binOp op t (a.eval x') (a.eval y'))))) ρ H w v H' := by
  obtain ⟨u, hu, hr⟩ := ob_eq hr
  cases hr
  obtain ⟨z, hz, hv⟩ := abin_run (P := P) (w := w) hu (opnd_VR h1 he) (opnd_VR h2 he) t x' y'
  exact .pure hs (val_run hz) (hv ρ)
theorem op_un {op : UnOp} {x : Opnd} {x' : Operand} (hs : SR C ρ H w) (he : ER ρ N e a.tmps) (h1 : opndOk x x' = true) {v : AVal} {H' : Heap}
    (hr : oUn op x e H = some (v, H')) : OpRun C P (do pure (.value (← Op.unary op (a.eval x')))) ρ H w v H' := by
  obtain ⟨u, hu, hr⟩ := ob_eq hr
  cases hr
  obtain ⟨z, hz, hv⟩ := aun_run (P := P) (w := w) hu (opnd_VR h1 he)
  exact .pure hs (val_run hz) (hv ρ)
theorem op_conv {k : IntKind} {s t : TypeId} {x : Opnd} {x' : Operand} (hs : SR C ρ H w) (he : ER ρ N e a.tmps) (hsrc : (P.underlying s).isSome = true)
    (ht : (match P.underlying t with | some (.int k') => decide (k = k') | _ => false) = true) (h1 : opndOk x x' = true) {v : AVal} {H' : Heap}
    (hr : oConv k x e H = some (v, H')) : OpRun C P (do pure (.value (← Go.convert s t (a.eval x')))) ρ H w v H' := by
  obtain ⟨p, hp, hr⟩ := ob_eq hr
  cases hr
  have hx := opnd_VR h1 he (ρ := ρ)
  rw [asInt_some hp] at hx
  generalize a.eval x' = q at hx
  cases hx
  have hu : P.underlying t = some (.int k) := by
    split at ht
    · rename_i k' hk; simp at ht; rw [hk, ht]
    · cases ht
  obtain ⟨d, hd⟩ := Option.isSome_iff_exists.1 hsrc
  refine .pure hs (x := .int k (k.wrap p.2)) (val_run ?_) (by rw [aw_eq]; exact .int _ _)
  simp only [Go.convert, Sem.run_bind, run_underlying hd, run_underlying hu, Result.andThen_ok]
  cases d <;> rfl
theorem op_mkf {f : Nat} {xs ys : List Opnd} {xs' ys' : Array Operand} (hs : SR C ρ H w) (he : ER ρ N e a.tmps) (h1 : opndsOk xs xs'.toList = true) (h2 : opndsOk ys ys'.toList = true) {v : AVal} {H' : Heap}
    (hr : oMkf f xs ys e H = some (v, H')) : OpRun C P (do pure (.value (← Instr.makeFunc (.func f) (xs'.map a.eval) (ys'.map a.eval)))) ρ H w v H' := by
  cases hr
  refine .pure hs (x := .func (.func f) (xs'.map a.eval) (ys'.map a.eval)) (val_run rfl) ?_
  have := VR.func (ρ := ρ) f _ _ _ _ (opnds_VRL h1 he) (opnds_VRL h2 he)
  rw [show (xs'.toList.map a.eval).toArray = xs'.map a.eval from Array.ext' (by simp), show (ys'.toList.map a.eval).toArray = ys'.map a.eval from Array.ext' (by simp)] at this
  exact this
theorem op_mkmap {t : TypeId} (hs : SR C ρ H w) {v : AVal} {H' : Heap} (hr : oMkmap e H = some (v, H')) :
    OpRun C P (do pure (.value (← Instr.makeMap t none))) ρ H w v H' := by
  cases hr
  refine ⟨.value (.map (some w.heap.size)), w.alloc (.map #[] 0), .map (some w.heap.size), ρ.push ⟨w.heap.size, 0, 0, true, true⟩, val_run (by simp [Instr.makeMap]), .inl rfl, ?_, ?_, by simp⟩
  · have := VR.map (ρ := ρ.push ⟨w.heap.size, 0, 0, true, true⟩) H.length (push_ok hs)
    rw [len_eq]; rw [← hs.n, Rho.push_new] at this; rw [← hs.n]; exact this
  · rw [apd_eq]
    refine step_push (w' := w.alloc (.map #[] 0)) hs rfl rfl rfl (by simp) (fun i hi => heap_alloc_old w _ i hi) ⟨w.heap.size, 0, 0, true, true⟩ (.map true []) (Nat.le_refl _) ?_
    exact ⟨#[], 0, by rw [Rho.push_new]; exact heap_alloc_new w _, .nil⟩
theorem bytesIs_run {t : TypeId} {n : Nat} {i : TypeInfo} (hi : P.info? t = some i) (h : bytesIs P t n = true) : i.bytes = n := by
  unfold bytesIs at h; rw [hi] at h; simpa using h
theorem op_mkslice {t el : TypeId} {sz b : Nat} {z : List AVal} {l c : Opnd} {l' c' : Operand} (hs : SR C ρ H w) (he : ER ρ N e a.tmps) (ht : sliceOf P t el = true) (hsz : sizeIs P el sz = true) (hb : bytesIs P el b = true)
    (hz : zeroIs P el z = true) (hb0 : 0 < b) (h0 : 0 < sz) (h1 : opndOk l l' = true) (h2 : opndOk c c' = true) {v : AVal} {H' : Heap} (hr : oMkslice el sz b z l c e H = some (v, H')) :
    OpRun C P (do pure (.value (← Instr.makeSlice t (a.eval l') (a.eval c')))) ρ H w v H' := by
  obtain ⟨p, hp, hr⟩ := ob_eq hr
  obtain ⟨q, hq, hr⟩ := ob_eq hr
  obtain ⟨n, hn, hr⟩ := ob_eq hr
  obtain ⟨hc, hr⟩ := ite'_some hr
  cases hr
  simp at hc
  obtain ⟨⟨hk1, hk2⟩, hpq, hfit⟩ := hc
  have hl := opnd_VR h1 he (ρ := ρ); have hcc := opnd_VR h2 he (ρ := ρ)
  rw [asInt_some hp] at hl; rw [asInt_some hq] at hcc
  generalize a.eval l' = X at hl; generalize a.eval c' = Y at hcc
  cases hl; cases hcc
  obtain ⟨hn1, hn2⟩ := inx_some hn
  obtain ⟨it, zv, hi, hzv, hcz, hzs⟩ := zeroIs_run hz
  obtain ⟨it', hi', hsz'⟩ := sizeIs_run hsz
  rw [hi] at hi'; cases hi'
  obtain ⟨g1, g2, g3⟩ := constL_VRL (ρ := ρ) hcz
  have hzs' : zv.cells.size = sz := by rw [hzs, hsz']
  have hbb := bytesIs_run hi hb
  have hu := sliceOf_run ht
  have hfit' : n * b ≤ 140737488355328 := hfit
  have hbnd : (it.bytes : Int) * (n : Int) ≤ 281474976710656 := by
    have h3 : ((it.bytes * n : Nat) : Int) ≤ 281474976710656 := by rw [hbb, Nat.mul_comm]; omega
    rwa [Int.natCast_mul] at h3
  have hn63 : (n : Int) ≤ 9223372036854775807 := by
    have : n ≤ n * b := Nat.le_mul_of_pos_right n hb0
    omega
  have hrun := run_make (P := P) w t el it zv hu hi hzv p.1 q.1 (n : Int) (n : Int) (by omega) (Int.le_refl _) hbnd hn63
  rw [hn1, ← hpq, hn1]
  simp only [Int.toNat_natCast] at hrun
  have hrep := repeat_VRL g1 n
  have e1 : madeCells zv.cells (n * it.size) = (Array.range (n * zv.cells.size)).map (zv.cells[· % zv.cells.size]!) := by rw [← hzs]; rfl
  have hx1 := one_of_VRL hrep (by
    rw [oneL_iff]
    intro u hu
    obtain ⟨k, hk⟩ := List.getElem?_of_mem hu
    have hkl : k < n * z.length := by rw [← repeatL_length]; exact (List.getElem?_eq_some_iff.1 hk).1
    rw [repeatL_get z n k hkl] at hk
    exact (oneL_iff z).1 g3 u (List.mem_of_getElem? hk))
  have hfl : AVal.flatL z = true → AVal.flatL (repeatL z n) = true := fun hz => by
    rw [flatL_iff] at hz ⊢
    intro u hu
    obtain ⟨k, hk⟩ := List.getElem?_of_mem hu
    have hkl : k < n * z.length := by rw [← repeatL_length]; exact (List.getElem?_eq_some_iff.1 hk).1
    rw [repeatL_get z n k hkl] at hk
    exact hz u (List.mem_of_getElem? hk)
  have := op_newRow (P := P) (s := do pure (.value (← Instr.makeSlice t (.int p.1 n) (.int q.1 n)))) (f := AVal.flatL z) hs hrep hx1 hfl #[] (fun _ => rfl) el w rfl rfl rfl rfl
    (r := .value (.slice (some ⟨w.heap.size, 0, none⟩) n n)) (v := .slice (.p H.length) 0 n n sz true) (x := .slice (some ⟨w.heap.size, 0, none⟩) n n) (val_run (by rw [hrun, e1, Array.toArray_toList, Array.append_empty])) rfl ?_
  · simpa using this
  · have hcl : ((Array.range (n * zv.cells.size)).map (zv.cells[· % zv.cells.size]!)).toList.length = n * sz := by simp [hzs']
    have := VR.slice (ρ := ρ.push ⟨w.heap.size, 0, ((Array.range (n * zv.cells.size)).map (zv.cells[· % zv.cells.size]!)).toList.length + 0, true, true⟩) (.p H.length) 0 n n sz true (some ⟨w.heap.size, 0, none⟩) n (push_ok hs) (Nat.le_refl _) (fun _ => rfl)
      (fun _ => by rw [← hs.n, Rho.push_new]) (fun _ => by rw [← hs.n, Rho.push_new, hcl]; simp) (Nat.le_refl _)
    rw [← hs.n] at this ⊢; exact this
theorem op_faddr {t : TypeId} {off i : Nat} {x : Opnd} {x' : Operand} (hs : SR C ρ H w) (he : ER ρ N e a.tmps) (hf : faddrOk P t i off = true) (h1 : opndOk x x' = true) {v : AVal} {H' : Heap}
    (hr : oFaddr off x e H = some (v, H')) : OpRun C P (do pure (.value (← Instr.fieldAt t (a.eval x') i))) ρ H w v H' := by
  obtain ⟨p, hp, hr⟩ := ob_eq hr
  cases hr
  have hx := opnd_VR h1 he (ρ := ρ)
  rw [asPtr_some hp] at hx
  generalize a.eval x' = q at hx
  cases hx with | ptr _ _ hn =>
  unfold faddrOk at hf
  split at hf
  · rename_i fs hu
    split at hf
    · rename_i f hfi
      simp at hf
      obtain ⟨rfl, hf⟩ := hf
      split at hf
      · rename_i inf hinf
        simp at hf
        refine .pure hs (x := .pointer (some ⟨(ρ.g p.1).b, (ρ.g p.1).o + p.2 + f.offset, none⟩)) (val_run ?_) ?_
        · simp [Instr.fieldAt, run_underlying hu, hfi, Instr.sureAddr, fieldPlace, run_sizeOf' hinf, hf, add_none]
        · have := VR.ptr (ρ := ρ) p.1 (p.2 + f.offset) hn
          rwa [← Nat.add_assoc] at this
      · cases hf
    · cases hf
  · cases hf
theorem readCells_part {t : TypeId} {sz off : Nat} {ag : Bool} {cs : List AVal} {xs : List Value} {v : AVal} (h1 : sizeIs P t sz = true) (h2 : aggIs P t ag = true) (hc : VRL ρ cs xs) (h : readCells ag sz cs off = some v) :
    ∃ y, (part t xs.toArray off).run P w = .ok y w ∧ VR ρ v y := by
  obtain ⟨i, hi, hsz⟩ := sizeIs_run h1
  cases ag with
  | true =>
    obtain ⟨vs, hvs, h⟩ := ob_eq h
    cases h
    obtain ⟨g1, g2⟩ := readAt_get hvs
    refine ⟨.agg ((xs.toArray).extract off (off + i.size)), by simp [part, aggIs_run h2, run_sizeOf' hi], ?_⟩
    have hv : VRL ρ vs ((xs.toArray).extract off (off + i.size)).toList := by
      refine VRL.of_get ?_ fun j x y hx hy => ?_
      · simp [g1, ← hc.length, hsz]
        rcases Nat.eq_zero_or_pos sz with h0 | h0
        · omega
        · have := g2 (sz - 1) (by omega)
          have h4 : (sz - 1) < vs.length := by omega
          rw [List.getElem?_eq_getElem h4] at this
          have := (List.getElem?_eq_some_iff.1 this.symm).1
          omega
      · have hj : j < sz := by rw [← g1]; exact (List.getElem?_eq_some_iff.1 hx).1
        rw [g2 j hj] at hx
        obtain ⟨z, hz, hr⟩ := hc.get hx
        rw [Array.getElem?_toList, Array.getElem?_extract] at hy
        split at hy
        · rw [List.getElem?_toArray, hz] at hy; cases hy; exact hr
        · cases hy
    simpa using VR.agg _ _ hv
  | false =>
    obtain ⟨hb, h⟩ := ite'_some h
    rw [nth_eq] at h
    obtain ⟨y, hy, hr⟩ := hc.get h
    exact ⟨y, by simp [part, aggIs_run h2, hy], hr⟩
theorem op_field {t : TypeId} {off sz i : Nat} {ag : Bool} {x : Opnd} {x' : Operand} (hs : SR C ρ H w) (he : ER ρ N e a.tmps) (hf : fieldOff P t i off = true)
    (hu : (match fieldTy P t i with | some u => sizeIs P u sz && aggIs P u ag | none => false) = true) (h1 : opndOk x x' = true) {v : AVal} {H' : Heap}
    (hr : oField off sz ag x e H = some (v, H')) : OpRun C P (do pure (.value (← Instr.field t (a.eval x') i))) ρ H w v H' := by
  obtain ⟨u, hu', hr⟩ := ob_eq hr
  cases hr
  obtain ⟨cs, hcs, hrd⟩ := ob_eq hu'
  have hx := opnd_VR h1 he (ρ := ρ)
  rw [asAgg_some hcs] at hx
  generalize a.eval x' = q at hx
  cases hx with | agg _ xs hc =>
  unfold fieldOff at hf
  unfold fieldTy at hu
  split at hf
  · rename_i fs hd
    rw [hd] at hu
    split at hf
    · rename_i f hfi
      simp at hf; subst hf
      simp [hfi] at hu
      obtain ⟨y, hy, hr⟩ := readCells_part (P := P) (w := w) hu.1 hu.2 hc hrd
      exact .pure hs (val_run (by simp [Instr.field, run_underlying hd, hfi, Go.asAgg, hy])) hr
    · cases hf
  · cases hf
theorem op_iaddr {t : TypeId} {sz : Nat} {x i : Opnd} {x' i' : Operand} (hs : SR C ρ H w) (he : ER ρ N e a.tmps) (ht : (match P.underlying t with | some (.slice el) => sizeIs P el sz | _ => false) = true)
    (h1 : opndOk x x' = true) (h2 : opndOk i i' = true) {v : AVal} {H' : Heap} (hr : oIaddr sz x i e H = some (v, H')) : OpRun C P (do pure (.value (← Instr.indexAt t (a.eval x') (a.eval i')))) ρ H w v H' := by
  obtain ⟨s, hsl, hr⟩ := ob_eq hr
  obtain ⟨p, hp, hr⟩ := ob_eq hr
  obtain ⟨j, hj, hr⟩ := ob_eq hr
  cases hr
  have hx := opnd_VR h1 he (ρ := ρ); have hi := opnd_VR h2 he (ρ := ρ)
  rw [asSl_some hsl] at hx; rw [asInt_some hp] at hi
  generalize a.eval x' = X at hx; generalize a.eval i' = I at hi
  cases hi
  obtain ⟨hj1, hj2⟩ := inx_some hj
  cases hx with | slice _ _ _ _ _ _ A cap' hn g1 g2 g3 g4 g5 =>
  have hA := g3 (by omega)
  split at ht
  · rename_i el hu
    obtain ⟨it, hi, hsz⟩ := sizeIs_run ht
    refine .pure hs (x := .pointer (some ⟨(ρ.g s.a).b, (ρ.g s.a).o + s.off + j * sz, none⟩)) (val_run ?_) ?_
    · have e1 : P.elem t = el := by simp [Program.elem, hu]
      rw [hA, run_indexAt_slice w t _ _ _ _ _ (by rw [e1]; exact hu), if_pos (by rw [hj1]; omega), e1, run_sizeOf' hi, hsz, hj1]
      simp [Result.andThen, add_none]
    · have := VR.ptr (ρ := ρ) s.a (s.off + j * sz) hn
      rwa [← Nat.add_assoc] at this
  · cases ht
theorem op_iarr {t : TypeId} {sz l : Nat} {x i : Opnd} {x' i' : Operand} (hs : SR C ρ H w) (he : ER ρ N e a.tmps) (ht : (match P.underlying t with | some (.array l' el) => l == l' && sizeIs P el sz | _ => false) = true)
    (h1 : opndOk x x' = true) (h2 : opndOk i i' = true) {v : AVal} {H' : Heap} (hr : oIarr sz l x i e H = some (v, H')) : OpRun C P (do pure (.value (← Instr.indexAt t (a.eval x') (a.eval i')))) ρ H w v H' := by
  obtain ⟨q, hq, hr⟩ := ob_eq hr
  obtain ⟨p, hp, hr⟩ := ob_eq hr
  obtain ⟨j, hj, hr⟩ := ob_eq hr
  cases hr
  have hx := opnd_VR h1 he (ρ := ρ); have hi := opnd_VR h2 he (ρ := ρ)
  rw [asPtr_some hq] at hx; rw [asInt_some hp] at hi
  generalize a.eval x' = X at hx; generalize a.eval i' = I at hi
  cases hi
  obtain ⟨hj1, hj2⟩ := inx_some hj
  cases hx with | ptr _ _ hn =>
  split at ht
  · rename_i l' el hu
    simp at ht
    obtain ⟨rfl, ht⟩ := ht
    obtain ⟨it, hi, hsz⟩ := sizeIs_run ht
    refine .pure hs (x := .pointer (some ⟨(ρ.g q.1).b, (ρ.g q.1).o + q.2 + j * sz, none⟩)) (val_run ?_) ?_
    · have h3 : (0 : Int) ≤ p.2 ∧ p.2 < (l : Int) := by omega
      simp [Instr.indexAt, Go.asIntOf, run_underlying hu, Instr.sureAddr, h3, run_sizeOf' hi, hsz]
      rw [hj1]; simp [add_none]
    · have := VR.ptr (ρ := ρ) q.1 (q.2 + j * sz) hn
      rwa [← Nat.add_assoc] at this
  · cases ht
theorem op_index {t : TypeId} {sz l : Nat} {ag : Bool} {x i : Opnd} {x' i' : Operand} (hs : SR C ρ H w) (he : ER ρ N e a.tmps) (ht : (match P.underlying t with | some (.array l' el) => l == l' && sizeIs P el sz && aggIs P el ag | _ => false) = true)
    (h1 : opndOk x x' = true) (h2 : opndOk i i' = true) {v : AVal} {H' : Heap} (hr : oIndex sz l ag x i e H = some (v, H')) : OpRun C P (do pure (.value (← Instr.index t (a.eval x') (a.eval i')))) ρ H w v H' := by
  obtain ⟨u, hu', hr⟩ := ob_eq hr
  cases hr
  obtain ⟨cs, hcs, hu'⟩ := ob_eq hu'
  obtain ⟨p, hp, hu'⟩ := ob_eq hu'
  obtain ⟨j, hj, hrd⟩ := ob_eq hu'
  have hx := opnd_VR h1 he (ρ := ρ); have hi := opnd_VR h2 he (ρ := ρ)
  rw [asAgg_some hcs] at hx; rw [asInt_some hp] at hi
  generalize a.eval x' = X at hx; generalize a.eval i' = I at hi
  cases hi
  obtain ⟨hj1, hj2⟩ := inx_some hj
  cases hx with | agg _ xs hc =>
  split at ht
  · rename_i l' el hu
    simp at ht
    obtain ⟨⟨rfl, ht1⟩, ht2⟩ := ht
    obtain ⟨it, hi, hsz⟩ := sizeIs_run ht1
    obtain ⟨y, hy, hr⟩ := readCells_part (P := P) (w := w) ht1 ht2 hc hrd
    refine .pure hs (x := y) (val_run ?_) hr
    have h3 : (0 : Int) ≤ p.2 ∧ p.2 < (l : Int) := by omega
    have hy' : (part el xs.toArray (p.2.toNat * sz)).run P w = .ok y w := by rw [hj1]; exact hy
    simp [Instr.index, Go.asIntOf, run_underlying hu, h3, run_sizeOf' hi, hsz, hy']
  · cases ht
theorem op_sindex {t : TypeId} {x i : Opnd} {x' i' : Operand} (hs : SR C ρ H w) (he : ER ρ N e a.tmps) (ht : (match P.underlying t with | some .string => true | _ => false) = true)
    (h1 : opndOk x x' = true) (h2 : opndOk i i' = true) {v : AVal} {H' : Heap} (hr : oSindex x i e H = some (v, H')) : OpRun C P (do pure (.value (← Instr.index t (a.eval x') (a.eval i')))) ρ H w v H' := by
  obtain ⟨u, hu', hr⟩ := ob_eq hr
  cases hr
  obtain ⟨s, hcs, hu'⟩ := ob_eq hu'
  obtain ⟨p, hp, hu'⟩ := ob_eq hu'
  obtain ⟨j, hj, hu'⟩ := ob_eq hu'
  obtain ⟨b, hb, hu'⟩ := ob_eq hu'
  cases hu'
  have hx := opnd_VR h1 he (ρ := ρ); have hi := opnd_VR h2 he (ρ := ρ)
  rw [asStr_some hcs] at hx; rw [asInt_some hp] at hi
  generalize a.eval x' = X at hx; generalize a.eval i' = I at hi
  cases hi; cases hx
  obtain ⟨hj1, hj2⟩ := inx_some hj
  rw [nth_eq] at hb
  split at ht
  · rename_i hu
    refine .pure hs (x := .int .u8 b.toNat) (val_run ?_) (.int _ _)
    have h3 : (0 : Int) ≤ p.2 := by omega
    have hb' : s[p.2.toNat]? = some b := by
      rw [hj1]; simp only [Int.toNat_natCast]
      rw [Array.getElem?_toList] at hb
      have hlt : j < s.size := hj2
      rw [getElem?_pos s j hlt]
      rw [getElem?_pos s.data j hlt] at hb
      exact hb
    simp [Instr.index, Go.asIntOf, run_underlying hu, h3, hb']
  · cases ht
theorem op_ext {x : Opnd} {x' : Operand} {i : Nat} (hs : SR C ρ H w) (he : ER ρ N e a.tmps) (h1 : opndOk x x' = true) {v : AVal} {H' : Heap}
    (hr : oExt x i e H = some (v, H')) : OpRun C P (do pure (.value (← Instr.extract (a.eval x') i))) ρ H w v H' := by
  obtain ⟨u, hu', hr⟩ := ob_eq hr
  cases hr
  obtain ⟨vs, hvs, hn⟩ := ob_eq hu'
  have hx := opnd_VR h1 he (ρ := ρ)
  rw [asTup_some hvs] at hx
  generalize a.eval x' = q at hx
  cases hx with | tup _ xs hc =>
  rw [nth_eq] at hn
  obtain ⟨y, hy, hr⟩ := hc.get hn
  exact .pure hs (x := y) (val_run (by simp [Instr.extract, hy])) hr
end
end Go.AI
