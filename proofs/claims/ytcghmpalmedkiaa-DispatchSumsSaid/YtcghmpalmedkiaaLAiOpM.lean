/-
  OPERATIONS, ONE BY ONE: rows of slices; copying, clearing.
-/
import Derived.Test.YtcghmpalmedkiaaLAiOpH
import Derived.Laws.CopyRow
set_option linter.unusedVariables false
set_option linter.unusedSimpArgs false
namespace Go.AI
section
variable {C : ACode → Code → Nat → Prop} {P : Program} {ρ : Rho} {H : Heap} {w : World} {N : Nat} {e : Env} {a : Act}
theorem op_nilm {x : Opnd} {y : Operand} (hs : SR C ρ H w) (he : ER ρ N e a.tmps) (h : opndOk x y = true) {v : AVal} {H' : Heap} (hr : oNilm x e H = some (v, H')) :
    OpRun C P (pure (.value (a.eval y))) ρ H w v H' := by
  obtain ⟨hn, hr⟩ := ite'_some hr
  have hv := opnd_VR h he (ρ := ρ)
  rw [isNilS_true hn] at hv
  rw [apd_eq, len_eq] at hr
  cases hr
  let g : Geo := ⟨w.heap.size, 0, 0, true, true⟩
  refine ⟨_, w, a.eval y, ρ.push g, rfl, .inl rfl, ?_, ?_, by simp⟩
  · generalize a.eval y = q at hv
    cases hv
    have hg : (ρ.push g).g (.p H.length) = g := by rw [← hs.n, Rho.push_new]
    exact .slice _ _ _ _ _ _ none 0 (push_ok hs) (Nat.le_refl _) (fun h => by cases h) (fun h => absurd h (by omega)) (fun _ => by rw [hg]; simp [g]) (Nat.le_refl _)
  · refine step_push hs rfl rfl rfl (Nat.le_refl _) (fun _ _ => rfl) g (.mat true []) (Nat.le_refl _) ?_
    show RowR _ ((ρ.push g).g (.p ρ.n)) true false [] w ∧ MatR _ _ []
    rw [Rho.push_new]
    exact ⟨⟨fun i v hv => by simp at hv, (fun h => by cases h), fun _ hne => absurd rfl hne, fun _ _ => ⟨rfl, rfl⟩⟩, fun i hi => by simp at hi, fun i cs hi => by simp at hi⟩
theorem hdrs_nones (b : Nat) : ∀ (n i : Nat), hdrs b i (nonesL n) = repeatL [.nilSlice] n := by
  intro n
  induction n with
  | zero => intro i; rfl
  | succ n ih => intro i; rw [repeatL_succ]; show hdr b i none :: hdrs b (i + 1) (nonesL n) = _; rw [ih]; rfl
theorem nones_get (n i : Nat) : (nonesL n)[i]? = if i < n then some none else none := by
  induction n generalizing i with
  | zero => rfl
  | succ n ih => cases i with
    | zero => rfl
    | succ i =>
      show (nonesL n)[i]? = _
      rw [ih]; by_cases h : i < n <;> simp [h]
theorem nones_inner (n i : Nat) : inner i (.mat true (nonesL n)) = .dead := by
  rw [inner_mat, nones_get]
  split
  · rename_i h; split at h <;> cases h
  · rfl
theorem op_mkmat {t el : TypeId} {b : Nat} {l c : Opnd} {l' c' : Operand} (hs : SR C ρ H w) (he : ER ρ N e a.tmps) (ht : sliceOf P t el = true) (hsz : sizeIs P el 1 = true) (hb : bytesIs P el b = true)
    (hz : zeroIs P el [.nilSlice] = true) (hb0 : 0 < b) (h1 : opndOk l l' = true) (h2 : opndOk c c' = true) {v : AVal} {H' : Heap} (hr : oMkmat el b l c e H = some (v, H')) :
    OpRun C P (do pure (.value (← Instr.makeSlice t (a.eval l') (a.eval c')))) ρ H w v H' := by
  obtain ⟨p, hp, hr⟩ := ob_eq hr
  obtain ⟨q, hq, hr⟩ := ob_eq hr
  obtain ⟨n, hn, hr⟩ := ob_eq hr
  obtain ⟨hc, hr⟩ := ite'_some hr
  cases hr
  simp at hc
  obtain ⟨⟨hk1, hk2⟩, hpq, hfit⟩ := hc
  have hl := opnd_VR h1 he (ρ := ρ); have hcc := opnd_VR h2 he (ρ := ρ)
  rw [asInt_some hp] at hl; rw [asInt_some hq] at hcc
  generalize a.eval l' = X at hl; generalize a.eval c' = Y at hcc
  cases hl; cases hcc
  obtain ⟨hn1, hn2⟩ := inx_some hn
  obtain ⟨it, zv, hi, hzv, hcz, hzs⟩ := zeroIs_run hz
  obtain ⟨it', hi', hsz'⟩ := sizeIs_run hsz
  rw [hi] at hi'; cases hi'
  have hzs' : zv.cells.size = 1 := by rw [hzs, hsz']
  have hbb := bytesIs_run hi hb
  have hu := sliceOf_run ht
  have hfit' : n * b ≤ 140737488355328 := hfit
  have hbnd : (it.bytes : Int) * (n : Int) ≤ 281474976710656 := by
    have h3 : ((it.bytes * n : Nat) : Int) ≤ 281474976710656 := by rw [hbb, Nat.mul_comm]; omega
    rwa [Int.natCast_mul] at h3
  have hn63 : (n : Int) ≤ 9223372036854775807 := by
    have : n ≤ n * b := Nat.le_mul_of_pos_right n hb0
    omega
  have hrun := run_make (P := P) w t el it zv hu hi hzv p.1 q.1 (n : Int) (n : Int) (by omega) (Int.le_refl _) hbnd hn63
  rw [hn1, ← hpq, hn1]
  simp only [Int.toNat_natCast] at hrun
  let g : Geo := ⟨w.heap.size, 0, ((Array.range (n * zv.cells.size)).map (zv.cells[· % zv.cells.size]!)).toList.length + 0, true, true⟩
  obtain ⟨g1, g2, g3⟩ := constL_VRL (ρ := ρ.push g) hcz
  have hrep := repeat_VRL g1 n
  have e1 : madeCells zv.cells (n * it.size) = (Array.range (n * zv.cells.size)).map (zv.cells[· % zv.cells.size]!) := by rw [← hzs]; rfl
  have hx1 := one_of_VRL hrep (by
    rw [oneL_iff]
    intro u hu
    obtain ⟨k, hk⟩ := List.getElem?_of_mem hu
    have hkl : k < n * 1 := by have := (List.getElem?_eq_some_iff.1 hk).1; rw [repeatL_length] at this; exact this
    rw [repeatL_get [.nilSlice] n k hkl] at hk
    exact (oneL_iff [AVal.nilSlice]).1 g3 u (List.mem_of_getElem? hk))
  have hcl : ((Array.range (n * zv.cells.size)).map (zv.cells[· % zv.cells.size]!)).toList.length = n := by simp [hzs']
  refine ⟨_, w.alloc (.cells ((Array.range (n * zv.cells.size)).map (zv.cells[· % zv.cells.size]!)) el), .slice (some ⟨w.heap.size, 0, none⟩) n n, ρ.push g, val_run (by rw [hrun, e1]), .inl rfl, ?_, ?_, by simp⟩
  · have := VR.slice (ρ := ρ.push g) (.p H.length) 0 n n 1 true (some ⟨w.heap.size, 0, none⟩) n (push_ok hs) (Nat.le_refl _) (fun _ => rfl)
      (fun _ => by rw [← hs.n, Rho.push_new]) (fun _ => by rw [← hs.n, Rho.push_new]; show 0 + n * 1 ≤ _ + 0; rw [hcl]; omega) (Nat.le_refl _)
    rw [len_eq]; exact this
  · rw [apd_eq]
    refine step_push (w' := w.alloc _) hs rfl rfl rfl (by simp) (fun i hi => heap_alloc_old w _ i hi) g (.mat true (nonesL n)) (Nat.le_refl _) ?_ (nones_inner n)
    show RowR _ ((ρ.push g).g (.p ρ.n)) true false (hdrs ρ.n 0 (nonesL n)) _ ∧ MatR _ ρ.n _
    rw [Rho.push_new, hdrs_nones]
    refine ⟨?_, fun i hi => ?_, fun i cs hi => ?_⟩
    · have := rowR_alloc (ρ := ρ.push g) (w := w) (f := false) hrep hx1 (fun h => by cases h) #[] (fun _ => rfl) el w rfl
      rw [Array.append_empty, Array.toArray_toList] at this
      exact this
    · show (if ρ.n = ρ.n then noGeo else _).ok = false
      rw [if_pos rfl]; rfl
    · rw [nones_get] at hi; split at hi <;> cases hi
theorem op_nilck {x : Opnd} {y : Operand} (hs : SR C ρ H w) (he : ER ρ N e a.tmps) {o : Oper} (ho : o.op = .nilCheck y) (h : opndOk x y = true) {v : AVal} {H' : Heap} (hr : oNilck x e H = some (v, H')) :
    OpRun C P (execOp a.eval o) ρ H w v H' := by
  have hv := opnd_VR h he (ρ := ρ)
  cases hp : asPtr (x.ev e) with
  | some p =>
    have hr : ite' (isSome' (asPtr (x.ev e))) (some (x.ev e, H)) (ite' (isFn (x.ev e)) (some (x.ev e, H)) none) = some (v, H') := hr
    rw [hp] at hr
    cases hr
    rw [asPtr_some hp] at hv ⊢
    refine .pure hs (x := a.eval y) ?_ hv
    generalize hq : a.eval y = q at hv
    cases hv
    simp [execOp, ho, hq]
  | none =>
    have hr : ite' (isSome' (asPtr (x.ev e))) (some (x.ev e, H)) (ite' (isFn (x.ev e)) (some (x.ev e, H)) none) = some (v, H') := hr
    rw [hp] at hr
    obtain ⟨hf, hr⟩ := ite'_some (by exact hr : ite' (isFn (x.ev e)) (some (x.ev e, H)) none = some (v, H'))
    cases hr
    refine .pure hs (x := a.eval y) ?_ hv
    generalize hq : a.eval y = q at hv
    generalize hz : x.ev e = z at hv hf
    cases hv with
    | func => simp [execOp, ho, hq]
    | _ => cases hf
theorem lenSl_run {x : AVal} {X : Value} {n : Nat} (hx : VR ρ x X) (h : lenSl x = some n) : ∃ A c, X = .slice A n c := by
  unfold lenSl at h
  cases hsl : asSl x with
  | none =>
    rw [hsl] at h
    obtain ⟨hn, h⟩ := ite'_some (by exact h : ite' (isNilS x) (some 0) none = some n)
    cases h
    rw [isNilS_true hn] at hx; cases hx; exact ⟨_, _, rfl⟩
  | some s =>
    rw [hsl] at h
    have h : some s.len = some n := h
    cases h
    rw [asSl_some hsl] at hx; cases hx; exact ⟨_, _, rfl⟩
theorem op_cap {t ty : TypeId} {x : Opnd} {y : Operand} (hs : SR C ρ H w) (he : ER ρ N e a.tmps) (ht : lenTy P t false = true) (h : opndOk x y = true) {v : AVal} {H' : Heap} (hr : oCap x e H = some (v, H')) :
    ∃ z, (Builtin.cap_ #[t] ty #[a.eval y]).run P w = .ok z w ∧ VR ρ v z ∧ H' = H := by
  have hv := opnd_VR h he (ρ := ρ)
  have hu : ∃ el, P.underlying t = some (.slice el) := by
    unfold lenTy at ht; split at ht
    · cases ht
    · rename_i el hu; exact ⟨el, hu⟩
    · cases ht
  obtain ⟨el, hu⟩ := hu
  have hr : ite' (isNilS (x.ev e)) (some (.int .i64 0, H)) (ob (asSl (x.ev e)) fun s => ite' s.ex (some (.int .i64 (Int.ofNat s.cap), H)) none) = some (v, H') := hr
  cases hn : isNilS (x.ev e) with
  | true =>
    rw [hn] at hr; cases hr
    rw [isNilS_true hn] at hv
    generalize a.eval y = q at hv; cases hv
    exact ⟨goInt 0, by simp [Builtin.cap_, run_underlying hu], .int _ _, rfl⟩
  | false =>
    rw [hn] at hr
    obtain ⟨s, hsl, hr⟩ := ob_eq (by exact hr : ob (asSl (x.ev e)) (fun s => ite' s.ex (some (.int .i64 (Int.ofNat s.cap), H)) none) = some (v, H'))
    obtain ⟨hex, hr⟩ := ite'_some hr
    cases hr
    rw [asSl_some hsl] at hv
    generalize a.eval y = q at hv
    cases hv with | slice _ _ _ _ _ _ A cap' hn g1 g2 g3 g4 g5 =>
    have := g2 hex
    subst this
    exact ⟨goInt s.cap, by simp [Builtin.cap_, run_underlying hu], .int _ _, rfl⟩
theorem op_copy {t u ty el : TypeId} {d s : AVal} {D S : Value} (hs : SR C ρ H w) (ht : sliceOf P t el = true) (hsz : sizeIs P el 1 = true) (hD : VR ρ d D) (hS : VR ρ s S) {v : AVal} {H' : Heap} (hr : acopy H d s = some (v, H')) :
    OpRun C P (do pure (.value (← Builtin.copy_ #[t, u] ty #[D, S]))) ρ H w v H' := by
  obtain ⟨ld, hld, hr⟩ := ob_eq hr
  obtain ⟨ls, hls, hr⟩ := ob_eq hr
  have hu := sliceOf_run ht
  obtain ⟨it, hi, hsz'⟩ := sizeIs_run hsz
  have h1s : (P.info? el).map (·.size) = some 1 := by rw [hi]; simp [hsz']
  cases h0 : orB (Nat.beq ld 0) (Nat.beq ls 0) with
  | true =>
    rw [h0] at hr; cases hr
    obtain ⟨A, c, rfl⟩ := lenSl_run hD hld
    obtain ⟨B, c', rfl⟩ := lenSl_run hS hls
    refine .pure hs (val_run (run_copy_none (P := P) w t u ty el A B ld c ls c' hu h1s ?_)) (.int _ _)
    cases hb : Nat.beq ld 0 with
    | true => have := Nat.eq_of_beq_eq_true hb; subst this; exact Nat.min_zero _
    | false =>
      rw [hb] at h0
      have h0 : Nat.beq ls 0 = true := h0
      have := Nat.eq_of_beq_eq_true h0; subst this; exact Nat.zero_min _
  | false =>
    rw [h0] at hr
    obtain ⟨td, htd, hr⟩ := ob_eq (by exact hr : ob (asSl d) _ = some (v, H'))
    obtain ⟨us, hus, hr⟩ := ob_eq hr
    obtain ⟨r, hrow, hr⟩ := ob_eq hr
    obtain ⟨vs, hvs, hr⟩ := ob_eq hr
    obtain ⟨K, hput, hr⟩ := ob_eq hr
    cases hr
    have eld : td.len = ld := by unfold lenSl at hld; rw [htd] at hld; exact Option.some.inj hld
    have els : us.len = ls := by unfold lenSl at hls; rw [hus] at hls; exact Option.some.inj hls
    rw [asSl_some htd] at hD; rw [asSl_some hus] at hS
    cases hD with | slice _ _ _ _ _ _ A cd hnd a1 a2 a3 a4 a5 =>
    cases hS with | slice _ _ _ _ _ _ B cs hns b1 b2 b3 b4 b5 =>
    have hne0 : ¬ ld = 0 ∧ ¬ ls = 0 := by
      constructor <;> intro h <;> subst h
      · cases h0
      · cases hb : Nat.beq ld 0 <;> rw [hb] at h0 <;> cases h0
    have hmin : ite' (Nat.ble ld ls) ld ls = Nat.min ls ld := by
      cases hb : Nat.ble ld ls with
      | true => have := Nat.le_of_ble_eq_true hb; simp only [ite'_true]; exact (Nat.min_eq_right this).symm
      | false =>
        have : ¬ ld ≤ ls := fun h => by rw [Nat.ble_eq_true_of_le h] at hb; cases hb
        simp only [ite'_false]; exact (Nat.min_eq_left (by omega)).symm
    rw [hmin] at hvs ⊢
    have hob := hs.obj us.a
    rw [rowOf_some hrow] at hob
    have hob : RowR ρ (ρ.g us.a) r.1 r.2.1 r.2.2 w := hob
    obtain ⟨xs, x1, x2, x3⟩ := hob.read hvs
    have hvl : vs.length = Nat.min ls ld := (readAt_get hvs).1
    have hpos : 0 < Nat.min ls ld := by have : Nat.min ls ld = min ls ld := rfl; omega
    obtain ⟨cur, el', hcur, hfit, hx1, hst, hlen⟩ := putRow_run hs x1 hput (fun h => by rw [h] at hvl; simp at hvl; omega)
    have hA := a3 (by omega)
    have hB := b3 (by omega)
    subst hA; subst hB
    have hrun := run_copy_row (P := P) w t u ty el (ρ.g td.a).b ((ρ.g td.a).o + td.off) td.len cd ⟨(ρ.g us.a).b, (ρ.g us.a).o + us.off, none⟩ us.len cs cur el' xs hu h1s hcur (by rw [x2, els, eld])
      (fun j y hj => by rw [add_none]; exact (x3 j y hj).1) hfit hx1
    refine ⟨_, _, _, ρ, val_run hrun, .inl rfl, ?_, hst, by omega⟩
    rw [x2]; exact .int _ _
theorem op_clear {t ty el : TypeId} {sz : Nat} {z : List AVal} {x : AVal} {X : Value} (hs : SR C ρ H w) (ht : sliceOf P t el = true) (hsz : sizeIs P el sz = true) (hz : zeroIs P el z = true) (h0 : 0 < sz) (hX : VR ρ x X) {v : AVal} {H' : Heap} (hr : aclear H z x = some (v, H')) :
    OpRun C P (do pure (.value (← Builtin.clear_ #[t] ty #[X]))) ρ H w v H' := by
  obtain ⟨n, hn, hr⟩ := ob_eq hr
  have hu := sliceOf_run ht
  cases hb : Nat.beq n 0 with
  | true =>
    rw [hb] at hr; cases hr
    obtain ⟨A, c, rfl⟩ := lenSl_run hX hn
    have := Nat.eq_of_beq_eq_true hb; subst this
    refine .pure hs (x := .tuple #[]) (val_run ?_) (.tup [] [] .nil)
    cases A <;> simp [Builtin.clear_, run_underlying hu]
  | false =>
    rw [hb] at hr
    obtain ⟨s, hsl, hr⟩ := ob_eq (by exact hr : ob (asSl x) _ = some (v, H'))
    obtain ⟨K, hput, hr⟩ := ob_eq hr
    cases hr
    have eln : s.len = n := by unfold lenSl at hn; rw [hsl] at hn; exact Option.some.inj hn
    have hn0 : ¬ n = 0 := fun h => by subst h; cases hb
    rw [asSl_some hsl] at hX
    cases hX with | slice _ _ _ _ _ _ A cap' hnm g1 g2 g3 g4 g5 =>
    obtain ⟨it, zv, hi, hzv, hcz, hzs⟩ := zeroIs_run hz
    obtain ⟨it', hi', hsz'⟩ := sizeIs_run hsz
    rw [hi] at hi'; cases hi'
    obtain ⟨z1, z2, z3⟩ := constL_VRL (ρ := ρ) hcz
    have hrep : VRL ρ (repeatL z n) (Builtin.zeroCells zv.cells n).toList := repeat_VRL z1 n
    generalize hY : (Builtin.zeroCells zv.cells n).toList = ys at hrep
    have hzl : z.length = sz := by have := z1.length; simp only [Array.length_toList] at this; rw [this, hzs, hsz']
    obtain ⟨cur, el', hcur, hfit, hx1, hst, hlen⟩ := putRow_run hs hrep hput (fun h => by
      have := repeatL_length z n
      rw [h, hzl] at this
      have h2 : 0 < n * sz := Nat.mul_pos (by omega) h0
      simp only [List.length_nil] at this; omega)
    have hA := g3 (by omega)
    subst hA
    have hrun := run_storeCells_at P (ρ.g s.a).b ((ρ.g s.a).o + s.off) el' ys 0 cur w hcur (by simpa using hfit) hx1
    simp only [Nat.add_zero] at hrun
    refine ⟨_, _, .tuple #[], ρ, val_run (x := .tuple #[]) ?_, .inl rfl, .tup [] [] .nil, hst, by omega⟩
    rw [eln]
    obtain ⟨m, rfl⟩ := Nat.exists_eq_succ_of_ne_zero hn0
    simp [Builtin.clear_, run_underlying hu, run_zeroValue' hi hzv, hY, hrun]
def Rho.put (ρ : Rho) (y : Nm) (g : Geo) : Rho := ⟨ρ.n, fun x => if x = y then g else ρ.g x⟩
theorem wholeRow_some {v : AVal} {u : Nat × List AVal} (h : wholeRow H v = some u) : ∃ cap ex, v = .slice (.p u.1) 0 u.2.length cap 1 ex ∧ hget H u.1 = .row true true u.2 := by
  obtain ⟨s, hs, h⟩ := ob_eq h
  obtain ⟨c, hc, h⟩ := ob_eq h
  obtain ⟨r, hr, h⟩ := ob_eq h
  obtain ⟨hb, h⟩ := ite'_some h
  cases h
  simp at hb
  obtain ⟨h1, h2, h3, h4, h5⟩ := hb
  have h6 := rowOf_some hr
  rw [h1, h2] at h6
  have h7 := asSl_some hs
  rw [plain_some hc, h3, h4, ← h5] at h7
  exact ⟨s.cap, s.ex, h7, h6⟩
theorem op_storem {t : TypeId} {x z : Opnd} {x' z' : Operand} (hs : SR C ρ H w) (he : ER ρ N e a.tmps) (h1 : sizeIs P t 1 = true) (h2 : opndOk x x' = true) (h3 : opndOk z z' = true) {v : AVal} {H' : Heap}
    (hr : oStorem x z e H = some (v, H')) : OpRun C P (do Instr.storeAt t (a.eval x') (a.eval z'); pure .skip) ρ H w v H' := by
  obtain ⟨K, hK, hr⟩ := ob_eq hr
  cases hr
  obtain ⟨q, hq, hK⟩ := ob_eq hK
  obtain ⟨b, hb, hK⟩ := ob_eq hK
  obtain ⟨r, hm, hK⟩ := ob_eq hK
  obtain ⟨o, ho, hK⟩ := ob_eq hK
  obtain ⟨u, hu, hK⟩ := ob_eq hK
  obtain ⟨hc, hK⟩ := ite'_some hK
  cases hK
  obtain ⟨off, hoff⟩ : ∃ off, q.2 = off := ⟨_, rfl⟩
  have hX := opnd_VR h2 he (ρ := ρ)
  have hY := opnd_VR h3 he (ρ := ρ)
  obtain ⟨cap, ex, hz, hcg⟩ := wholeRow_some hu
  obtain ⟨c, cs⟩ := u
  obtain ⟨rw0, rows⟩ := r
  simp only [andB_eq, Bool.and_eq_true] at hc
  obtain ⟨hrw, hnone⟩ := hc
  have hrw : rw0 = true := hrw
  subst hrw
  have hon : o = none := by cases o with
    | none => rfl
    | some _ => cases hnone
  subst hon
  rw [nth_eq, hoff] at ho
  have ho : rows[off]? = some none := ho
  have hmat : hget H b = .mat true rows := matOf_some hm
  rw [asPtr_some hq, plain_some hb, hoff] at hX
  rw [hz] at hY
  generalize a.eval x' = X at hX ⊢
  generalize a.eval z' = Y at hY ⊢
  cases hX with | ptr _ _ hnb =>
  cases hY with | slice _ _ _ _ _ _ A cap' hnc g1 g2 g3 g4 g5 =>
  have hcg : hget H c = .row true true cs := hcg
  have g5 : cs.length ≤ cap' := g5
  have hbl : b < H.length := hget_live (by rw [hmat]; intro h; cases h)
  have hclt : c < H.length := hget_live (by rw [hcg]; intro h; cases h)
  have hbc : b ≠ c := fun h => by subst h; rw [hmat] at hcg; cases hcg
  have hob := hs.obj (.p b)
  rw [nget_p, hmat] at hob
  have hob : RowR ρ (ρ.g (.p b)) true false (hdrs b 0 rows) w ∧ MatR ρ b rows := hob
  have hobc := hs.obj (.p c)
  rw [nget_p, hcg] at hobc
  have hobc : RowR ρ (ρ.g (.p c)) true true cs w := hobc
  have hne : rows ≠ [] := fun h => by subst h; simp at ho
  have hlt : off < rows.length := (List.getElem?_eq_some_iff.1 ho).1
  obtain ⟨hown, hroom, cur, el, hcur, hsize⟩ := hob.1.rw rfl (hdrs_ne hne)
  rw [hdrs_length] at hroom
  have hun := hob.2.unset off ho
  -- the new places
  let ρ' := ρ.put (.v b off) (ρ.g (.p c))
  have gp : ∀ y, y ≠ .v b off → ρ'.g y = ρ.g y := fun y hy => if_neg hy
  have gd : ρ'.g (.v b off) = ρ.g (.p c) := if_pos rfl
  have he' : Ext ρ ρ' := ⟨Nat.le_refl _, fun y hy => gp y fun h => by subst h; have := hy.2.2; rw [hun] at this; cases this⟩
  let Y : Value := .slice A cs.length cap'
  have hYv : VR ρ' (hdr b off (some cs)) Y := by
    show VR ρ' (.slice (.v b off) 0 (len cs) (len cs) 1 false) _
    rw [len_eq]
    refine .slice (.v b off) 0 cs.length cs.length 1 false A cap' ⟨hnb.1, by rw [base_v, gp _ (by intro h; cases h)]; exact hnb.2.1, by rw [gd]; exact hnc.2.2⟩ g5 (fun h => by cases h) (fun h => by rw [gd]; exact g3 h) (fun h => by rw [gd] at h ⊢; exact g4 h) g5
  let w' := w.setRow (ρ.g (.p b)).b (cur.toList.take ((ρ.g (.p b)).o + off) ++ [Y] ++ cur.toList.drop ((ρ.g (.p b)).o + off + [Y].length)).toArray
  have hfit : (ρ.g (.p b)).o + off + [Y].length ≤ cur.size := by simp only [List.length_singleton]; omega
  have hst := run_storeCells_at P (ρ.g (.p b)).b ((ρ.g (.p b)).o + off) el [Y] 0 cur w hcur (by simpa using hfit) (by simp [Y, Value.oneCell'])
  simp only [Nat.add_zero] at hst
  obtain ⟨it, hi, hsz⟩ := sizeIs_run h1
  have g6 := setRow_heap w (ρ.g (.p b)).b cur (cur.toList.take ((ρ.g (.p b)).o + off) ++ [Y] ++ cur.toList.drop ((ρ.g (.p b)).o + off + [Y].length)).toArray el (0, 0) hcur
  have g8 := splice_get cur.toList [Y] ((ρ.g (.p b)).o + off)
  have g7 : (cur.toList.take ((ρ.g (.p b)).o + off) ++ [Y] ++ cur.toList.drop ((ρ.g (.p b)).o + off + [Y].length)).toArray.size = cur.size := by simp; omega
  have hbrw : (nget H (.p b)).isRw = true := by rw [nget_p, hmat]; simpa [AObj.isRw] using hne
  have hsame : ∀ y : Nm, y ≠ .p b → (nget H y).live = true → w'.heap[(ρ.g y).b]? = w.heap[(ρ.g y).b]? := fun y hy hl => setRow_other w _ _ _ fun h => hs.apart (.p b) y (fun h => hy h.symm) hbrw hl h.symm
  -- what is seen now
  have e0 : upd (upd H b (.mat true (upd rows off (some cs)))) c .dead = (H.set b (.mat true (rows.set off (some cs)))).set c .dead := by rw [upd_eq, upd_eq, upd_eq]
  have hH : ∀ y : Nm, nget ((H.set b (.mat true (rows.set off (some cs)))).set c .dead) y = if y = .p b then .mat true (rows.set off (some cs)) else if y = .v b off then .row true true cs else if y = .p c then .dead else nget H y := fun y => by
    rw [nget_set (by rw [List.length_set]; exact hclt), nget_set hbl]
    cases y with
    | p d =>
      by_cases h : d = c
      · subst h; simp [Ne.symm hbc]
      · by_cases h' : d = b
        · subst h'; simp [h]
        · simp [h, h']
    | v d j =>
      by_cases h : d = c
      · subst h; simp [hcg, inner, Ne.symm hbc]
      · by_cases h' : d = b
        · subst h'
          by_cases hj : j = off
          · subst hj; simp [h, inner_mat, hlt]
          · have : off ≠ j := fun h => hj h.symm
            simp [h, inner_mat, hj, hmat, List.getElem?_set_ne this]
        · simp [h, h']
  have hτ : ∀ y : Nm, (nget ((H.set b (.mat true (rows.set off (some cs)))).set c .dead) y).live = true → ∃ t, (nget H t).live = true ∧ ((nget ((H.set b (.mat true (rows.set off (some cs)))).set c .dead) y).isRw = true → (nget H t).isRw = true) ∧ ρ'.g y = ρ.g t ∧
      ((y = .v b off ∧ t = .p c) ∨ (y ≠ .v b off ∧ t = y ∧ y ≠ .p c)) := fun y hl => by
    rw [hH] at hl ⊢
    by_cases y1 : y = .p b
    · subst y1
      rw [if_pos rfl] at hl ⊢
      exact ⟨.p b, isRw_live hbrw, fun _ => hbrw, gp _ (by intro h; cases h), .inr ⟨(by intro h; cases h), rfl, fun h => hbc (by cases h; rfl)⟩⟩
    · rw [if_neg y1] at hl ⊢
      by_cases y2 : y = .v b off
      · subst y2
        rw [if_pos rfl] at hl ⊢
        exact ⟨.p c, by rw [nget_p, hcg]; exact hl, fun h => by rw [nget_p, hcg]; exact h, gd, .inl ⟨rfl, rfl⟩⟩
      · rw [if_neg y2] at hl ⊢
        by_cases y3 : y = .p c
        · rw [if_pos y3] at hl; cases hl
        · rw [if_neg y3] at hl ⊢
          exact ⟨y, hl, fun h => h, gp y y2, .inr ⟨y2, rfl, y3⟩⟩
  refine ⟨.skip, w', undef, ρ', unit_run ?_, .inr ⟨rfl, rfl⟩, .tup [] [] .nil, ?_, by rw [hoff]; show H.length ≤ (upd (upd H b _) c _).length; rw [upd_eq, upd_eq]; simp⟩
  · have hyl : Y.cells.size = 1 := rfl
    have hyc : Y.cells.toList = [Y] := rfl
    show (Instr.storeAt t (.pointer (some ⟨(ρ.g (.p b)).b, (ρ.g (.p b)).o + off, none⟩)) Y).run P w = _
    simp [Instr.storeAt, Instr.sureAddr, storeVar, run_sizeOf' hi, hsz, hyl, hyc, hst, w']
  · rw [hoff]
    show Step C H.length ρ H w ρ' (upd (upd H b (.mat true (upd rows off (some cs)))) c .dead) w'
    rw [e0]
    refine ⟨fun d _ => gp _ (by intro h; cases h), fun d _ hd => gp d (fun h => by subst h; rw [hun] at hd; cases hd), fun d hd hw i => gp _ (fun h => by cases h; rw [hmat] at hw; cases hw), fun d hd hw => ?_, ⟨by simp [ρ', Rho.put, hs.n], fun y => ?_, fun y z hyz hy hz => ?_⟩, rfl, rfl, rfl, Nat.le_of_eq (setRow_size ..).symm, fun i hi hn => setRow_other w _ _ _ fun h => hn (.p b) hbrw h.symm, fun y hy => ?_, fun y hy => ?_⟩
    · have := hH (.p d)
      simp only [nget_p] at this
      rw [this] at hw
      by_cases h : d = b
      · subst h; rw [hmat]; rfl
      · by_cases h' : d = c
        · subst h'; simp [h, AObj.wm] at hw
        · simpa [h, h'] using hw
    · rw [hH]
      by_cases y1 : y = .p b
      · subst y1
        rw [if_pos rfl]
        show RowR ρ' (ρ'.g (.p b)) true false (hdrs b 0 (rows.set off (some cs))) w' ∧ MatR ρ' b _
        rw [gp _ (by intro h; cases h)]
        refine ⟨⟨fun k u hk => ?_, (fun h => by cases h), fun _ _ => ⟨hown, by rw [hdrs_length, List.length_set]; exact hroom, _, el, g6, by rw [g7]; exact hsize⟩, fun _ hn => absurd hn (hdrs_ne (fun h => hne (by have := congrArg List.length h; rw [List.length_set] at this; exact List.eq_nil_of_length_eq_zero this)))⟩, fun i hi => ?_, fun i cs' hi => ?_⟩
        · rw [cell_of_row _ _ _ _ el (0, 0) g6]
          simp only [List.getElem?_toArray]
          rw [g8 _ (by simpa using hfit)]
          rw [hdrs_get, Nat.zero_add] at hk
          by_cases hko : off = k
          · subst hko
            rw [List.getElem?_set_self hlt] at hk
            cases hk
            rw [if_pos (by simp)]
            exact ⟨Y, by simp, rfl, hYv⟩
          · rw [List.getElem?_set_ne hko] at hk
            rw [if_neg (by simp only [List.length_singleton]; omega)]
            obtain ⟨z, hz, k1, k2⟩ := hob.1.cell k u (by rw [hdrs_get, Nat.zero_add]; exact hk)
            rw [cell_of_row w _ _ cur el (0, 0) hcur] at hz
            exact ⟨z, by simpa using hz, k1, k2.ext he'⟩
        · by_cases hio : off = i
          · subst hio; rw [List.getElem?_set_self hlt] at hi; cases hi
          · rw [List.getElem?_set_ne hio] at hi
            rw [gp _ (fun h => hio (by cases h; rfl))]
            exact hob.2.unset i hi
        · by_cases hio : off = i
          · subst hio; rw [List.getElem?_set_self hlt] at hi; cases hi; exact hobc.flat rfl
          · rw [List.getElem?_set_ne hio] at hi; exact hob.2.flat i cs' hi
      · rw [if_neg y1]
        by_cases y2 : y = .v b off
        · subst y2
          rw [if_pos rfl]
          have hbl' : (ρ.g (.p c)).b < w.heap.size → w'.heap[(ρ.g (.p c)).b]? = w.heap[(ρ.g (.p c)).b]? ∨ cs = [] := fun _ => by
            by_cases hcs : cs = []
            · exact .inr hcs
            · exact .inl (hsame (.p c) (fun h => hbc (by cases h; rfl)) (by rw [nget_p, hcg]; simpa [AObj.live] using hcs))
          show RowR ρ' (ρ'.g (.v b off)) true true cs w'
          rw [gd]
          by_cases hcs : cs = []
          · subst hcs
            exact ⟨fun i v hv => by simp at hv, fun _ => rfl, fun _ h => absurd rfl h, hobc.nil⟩
          · refine hobc.keep he' fun _ => hsame (.p c) (fun h => hbc (by cases h; rfl)) (by rw [nget_p, hcg]; simpa [AObj.live] using hcs)
        · rw [if_neg y2]
          by_cases y3 : y = .p c
          · rw [if_pos y3]; trivial
          · rw [if_neg y3]
            cases hlv : (nget H y).live with
            | true =>
              by_cases hyb : y.base = b
              · refine (hs.obj y).keepR he' (gp y y2) ?_ fun _ => hsame y y1 hlv
                cases y with
                | p d => exact absurd (by subst hyb; rfl) y1
                | v d j => exact inner_no_mat j _
              · exact (hs.obj y).keep he' ⟨gp y y2, fun i hi => by rw [gp _ (fun h => hyb (by cases h; rfl))]; exact hi⟩ fun _ => hsame y y1 hlv
            | false => exact (hs.obj y).dull hlv (gp y y2)
    · obtain ⟨t1, l1, r1, e1, k1⟩ := hτ y (isRw_live hy)
      obtain ⟨t2, l2, r2, e2, k2⟩ := hτ z hz
      rw [e1, e2]
      refine hs.apart t1 t2 (fun h => hyz ?_) (r1 hy) l2
      rcases k1 with ⟨k1, k1'⟩ | ⟨k1, k1', k1''⟩ <;> rcases k2 with ⟨k2, k2'⟩ | ⟨k2, k2', k2''⟩
      · rw [k1, k2]
      · exact absurd (by rw [← k2', ← h, k1']) k2''
      · exact absurd (by rw [← k1', h, k2']) k1''
      · rw [← k1', ← k2', h]
    · obtain ⟨t1, l1, r1, e1, k1⟩ := hτ y (isRw_live hy)
      exact .inr ⟨t1, r1 hy, by rw [e1]⟩
    · obtain ⟨t1, l1, r1, e1, k1⟩ := hτ y hy
      rcases k1 with ⟨k1, k1'⟩ | ⟨k1, k1', k1''⟩
      · refine .inr (.inr ⟨.p c, .inl ?_, by rw [e1, k1']⟩)
        rw [nget_p, hcg]
        rw [k1', nget_p, hcg] at l1
        exact l1
      · rw [k1'] at l1 e1
        exact .inl ⟨nget_live (live_ne l1), l1, e1⟩
theorem step_mat {w1 : World} {b c : Nat} {rows : List (Option (List AVal))} {cs : List AVal} (hs : SR C ρ H w) (hm : hget H b = .mat true rows) (hc : hget H c = .row true true cs) (h1 : w1.os = w.os) (h2 : w1.tape = w.tape) (h3 : w1.output = w.output) (h4 : w.heap.size ≤ w1.heap.size)
    (g : Geo) (G : Nm → Geo) (hG : ∀ n, G (.p n) = g) (hGv : ∀ n i, G (.v n i) = if i < rows.length then ρ.g (.v b i) else if i = rows.length then ρ.g (.p c) else noGeo)
    (hg : w.heap.size ≤ g.b ∨ (rows ≠ [] ∧ g.b = (ρ.g (.p b)).b))
    (hf : ∀ i, i < w.heap.size → (rows ≠ [] → g.b = (ρ.g (.p b)).b → i ≠ (ρ.g (.p b)).b) → w1.heap[i]? = w.heap[i]?)
    (hrow : RowR (ρ.pushG G) g true false (hdrs H.length 0 (rows ++ [some cs])) w1) : Step C H.length ρ H w (ρ.pushG G) (((H.set b .dead).set c .dead) ++ [.mat true (rows ++ [some cs])]) w1 := by
  have hbl : b < H.length := hget_live (by rw [hm]; intro h; cases h)
  have hcl : c < H.length := hget_live (by rw [hc]; intro h; cases h)
  have hbc : b ≠ c := fun h => by subst h; rw [hm] at hc; cases hc
  have hK : ∀ y : Nm, nget ((H.set b .dead).set c .dead) y = if y.base = b ∨ y.base = c then .dead else nget H y := fun y => by
    rw [nget_set (by rw [List.length_set]; exact hcl), nget_set hbl]
    by_cases k1 : y.base = c
    · rw [if_pos k1, if_pos (.inr k1), see_dead]
    · rw [if_neg k1]
      by_cases k2 : y.base = b
      · rw [if_pos k2, if_pos (.inl k2), see_dead]
      · rw [if_neg k2, if_neg (by rintro (h | h); exact k2 h; exact k1 h)]
  have hob := hs.obj (.p b)
  rw [nget_p, hm] at hob
  have hob : RowR ρ (ρ.g (.p b)) true false (hdrs b 0 rows) w ∧ MatR ρ b rows := hob
  have hobc := hs.obj (.p c)
  rw [nget_p, hc] at hobc
  have hobc : RowR ρ (ρ.g (.p c)) true true cs w := hobc
  have he := Rho.ext_pushG ρ G
  -- where an inner row comes from
  have hin : ∀ i cs', (rows ++ [some cs])[i]? = some (some cs') → ∃ t : Nm, nget H t = .row true true cs' ∧ (∀ n, G (.v n i) = ρ.g t) ∧ (t.base = b ∨ t = .p c) ∧ t ≠ .p b ∧ (∀ j, t = .v b j → j = i) ∧ (t = .p c → i = rows.length) := fun i cs' hi => by
    by_cases hlt : i < rows.length
    · rw [List.getElem?_append_left hlt] at hi
      refine ⟨.v b i, by rw [nget_v, hm, inner_mat, hi], fun n => by rw [hGv, if_pos hlt], .inl rfl, (by intro h; cases h), (fun j h => by cases h; rfl), (by intro h; cases h)⟩
    · rw [List.getElem?_append_right (by omega)] at hi
      have hi0 : i = rows.length := by
        have := (List.getElem?_eq_some_iff.1 hi).1
        simp at this; omega
      subst hi0
      simp at hi; subst hi
      exact ⟨.p c, by rw [nget_p, hc], fun n => by rw [hGv, if_neg (by omega), if_pos rfl], .inr rfl, (fun h => hbc (by cases h; rfl)), (fun j h => by cases h), fun _ => rfl⟩
  have hsee : ∀ n i, see (.v n i) (.mat true (rows ++ [some cs])) = match (rows ++ [some cs])[i]? with | some (some cs) => .row true true cs | _ => .dead := fun n i => inner_mat i true _
  have hlv : ∀ (n i : Nat), (see (.v n i) (.mat true (rows ++ [some cs]))).live = true → ∃ cs', (rows ++ [some cs])[i]? = some (some cs') ∧ cs' ≠ [] := fun n i h => by
    rw [hsee] at h
    split at h
    · rename_i cs' hi; exact ⟨cs', hi, by rintro rfl; cases h⟩
    · cases h
  have hrwp : rows ≠ [] → (nget H (.p b)).isRw = true := fun hne => by rw [nget_p, hm]; simpa [AObj.isRw] using hne
  have hrwt : ∀ {t : Nm} {cs' : List AVal}, nget H t = .row true true cs' → cs' ≠ [] → (nget H t).isRw = true := fun ht hne => by rw [ht]; simpa [AObj.isRw] using hne
  refine step_move hs h1 h2 h3 h4 (fun y => y.base = b ∨ y = .p c) (by simp) (fun y => ?_) (fun y hy => ?_) (fun i hi hn => hf i hi fun hne _ he => hn (.p b) (.inl rfl) (hrwp hne) he.symm) G _ (fun y hy hl => ?_) (fun y z hy hz hyz hly hlz => ?_) (fun y hy => ?_)
  · rw [hK]
    by_cases k : y.base = b ∨ y.base = c
    · exact .inr (if_pos k)
    · left; rw [if_neg k]; exact ⟨rfl, fun h => k (by rcases h with h | h; exact .inl h; exact .inr (by rw [h]; rfl))⟩
  · rw [hK, if_pos (by rcases hy with h | h; exact .inl h; exact .inr (by rw [h]; rfl))]
  · cases y with
    | p n =>
      rw [hG]
      rcases hg with h | ⟨h, h'⟩
      · exact .inl h
      · exact .inr ⟨.p b, .inl rfl, hrwp h, h'.symm⟩
    | v n i =>
      obtain ⟨cs', hi, hne⟩ := hlv n i hl
      obtain ⟨t, t1, t2, t3, _⟩ := hin i cs' hi
      exact .inr ⟨t, t3, hrwt t1 hne, by rw [t2]⟩
  · have newold : ∀ (n i : Nat), (see (.v n i) (.mat true (rows ++ [some cs]))).live = true → g.b ≠ (G (.v n i)).b := fun n i hl => by
      obtain ⟨cs', hi, hne⟩ := hlv n i hl
      obtain ⟨t, t1, t2, t3, t4, _⟩ := hin i cs' hi
      rw [t2]
      have hrt := hrwt t1 hne
      rcases hg with h | ⟨h, h'⟩
      · have := (hs.obj t).rw_lt hrt; omega
      · rw [h']; exact hs.apart (.p b) t (fun h => t4 h.symm) (hrwp h) (isRw_live hrt)
    cases y with
    | p n => cases z with
      | p m => exact absurd (by rw [base_p] at hy hz; rw [hy, hz]) hyz
      | v m j => rw [hG]; exact newold m j hlz
    | v n i =>
      cases z with
      | p m => rw [hG]; exact fun h => newold n i (isRw_live hly) h.symm
      | v m j =>
        obtain ⟨cs1, hi, hne1⟩ := hlv n i (isRw_live hly)
        obtain ⟨cs2, hj, hne2⟩ := hlv m j hlz
        obtain ⟨t, t1, t2, t3, t4, t5, t6⟩ := hin i cs1 hi
        obtain ⟨s, s1, s2, s3, s4, s5, s6⟩ := hin j cs2 hj
        rw [t2, s2]
        refine hs.apart t s (fun h => hyz ?_) (hrwt t1 hne1) (isRw_live (hrwt s1 hne2))
        have hij : i = j := by
          subst h
          rcases t3 with h | h
          · cases t with
            | p d => exact absurd (by rw [base_p] at h; rw [h]) t4
            | v d k =>
              rw [base_v] at h; subst h
              exact (t5 k rfl).symm.trans (s5 k rfl)
          · rw [t6 h, s6 h]
        rw [base_v] at hy hz
        rw [hy, hz, hij]
  · cases y with
    | p n =>
      rw [base_p] at hy; subst hy
      show RowR _ ((ρ.pushG G).g (.p H.length)) true false (hdrs H.length 0 (rows ++ [some cs])) w1 ∧ MatR _ H.length _
      have gn : ∀ z : Nm, z.base = H.length → (ρ.pushG G).g z = G z := fun z hz => if_pos (by rw [hs.n]; exact hz)
      rw [gn _ rfl, hG]
      refine ⟨hrow, fun i hi => ?_, fun i cs' hi => ?_⟩
      · rw [gn _ rfl, hGv]
        by_cases hlt : i < rows.length
        · rw [if_pos hlt]; rw [List.getElem?_append_left hlt] at hi; exact hob.2.unset i hi
        · rw [List.getElem?_append_right (by omega)] at hi
          have := (List.getElem?_eq_some_iff.1 hi).1
          simp at this
          rw [show i - rows.length = 0 from by omega] at hi; cases hi
      · by_cases hlt : i < rows.length
        · rw [List.getElem?_append_left hlt] at hi; exact hob.2.flat i cs' hi
        · rw [List.getElem?_append_right (by omega)] at hi
          have := (List.getElem?_eq_some_iff.1 hi).1
          simp at this
          rw [show i - rows.length = 0 from by omega] at hi; cases hi; exact hobc.flat rfl
    | v n i =>
      rw [base_v] at hy; subst hy
      rw [hsee]
      split
      · rename_i cs' hi
        obtain ⟨t, t1, t2, t3, t4, _⟩ := hin i cs' hi
        show RowR _ ((ρ.pushG G).g (.v H.length i)) true true cs' w1
        rw [show (ρ.pushG G).g (.v H.length i) = G (.v H.length i) from if_pos (by rw [hs.n]; rfl), t2]
        have hot := hs.obj t
        rw [t1] at hot
        have hot : RowR ρ (ρ.g t) true true cs' w := hot
        by_cases hne : cs' = []
        · subst hne
          exact ⟨fun i v hv => by simp at hv, fun _ => rfl, fun _ h => absurd rfl h, hot.nil⟩
        · refine hot.keep he fun hlt => hf _ hlt fun hr _ heq => ?_
          exact hs.apart (.p b) t (fun h => t4 h.symm) (hrwp hr) (isRw_live (hrwt t1 hne)) heq.symm
      · trivial
theorem hdr_ren {ρ ρ' : Rho} {a b i : Nat} {r : Option (List AVal)} {x : Value} (h : VR ρ (hdr a i r) x) (hb : b < ρ'.n) (hbo : (ρ'.g (.p b)).ok = true) (hg : ρ'.g (.v b i) = ρ.g (.v a i)) : VR ρ' (hdr b i r) x := by
  cases r with
  | none => cases h; exact .nilSlice
  | some cs =>
    cases h with | slice _ _ _ _ _ _ A cap' hn h1 h2 h3 h4 h5 =>
    rw [← hg] at h3 h4
    exact .slice (.v b i) 0 _ _ 1 false A cap' ⟨hb, hbo, by rw [hg]; exact hn.2.2⟩ h1 h2 h3 h4 h5
theorem read_all (cs : List AVal) : ∀ (pre : List AVal), readAt cs.length (pre ++ cs) pre.length = some cs := by
  induction cs with
  | nil => intro pre; rfl
  | cons v cs ih =>
    intro pre
    have := ih (pre ++ [v])
    rw [List.append_assoc, List.length_append] at this
    simp only [List.singleton_append, List.length_singleton] at this
    rw [List.length_cons, readAt_succ, nth_eq, List.getElem?_append_right (Nat.le_refl _), Nat.sub_self]
    simp only [List.getElem?_cons_zero, ob_some]
    rw [this]; rfl
theorem hdrs_app (a : Nat) (r : Option (List AVal)) : ∀ (rows : List (Option (List AVal))) (i : Nat), hdrs a i (rows ++ [r]) = hdrs a i rows ++ [hdr a (i + rows.length) r] := by
  intro rows
  induction rows with
  | nil => intro i; rfl
  | cons x rows ih =>
    intro i
    show hdr a i x :: hdrs a (i + 1) (rows ++ [r]) = _
    rw [ih, show i + 1 + rows.length = i + (x :: rows).length from by rw [List.length_cons]; omega]; rfl
def matGeo (ρ : Rho) (g : Geo) (b c n : Nat) : Nm → Geo
  | .p _ => g
  | .v _ i => if i < n then ρ.g (.v b i) else if i = n then ρ.g (.p c) else noGeo
theorem op_appm {t ty el : TypeId} {bt : Nat} {s x : AVal} {S X : Value} (hs : SR C ρ H w) (ht : sliceOf P t el = true) (hsz : sizeIs P el 1 = true) (hb : bytesIs P el bt = true) (hz : zeroIs P el [.nilSlice] = true)
    (hb0 : 0 < bt) (hS : VR ρ s S) (hX : VR ρ x X) {v : AVal} {H' : Heap} (hr : aappm H bt s x = some (v, H')) :
    OpRun C P (do pure (.value (← Builtin.append_ #[t, t] ty #[S, X]))) ρ H w v H' := by
  obtain ⟨vv, hvv, hr⟩ := ob_eq hr
  obtain ⟨u, hu0, hr⟩ := ob_eq hr
  obtain ⟨ts, hts, hr⟩ := ob_eq hr
  obtain ⟨b, hpb, hr⟩ := ob_eq hr
  obtain ⟨r, hm, hr⟩ := ob_eq hr
  obtain ⟨hcnd, hr⟩ := ite'_some hr
  cases hr
  obtain ⟨capc, exc, hvz, hcg⟩ := wholeRow_some hu0
  obtain ⟨c, cs⟩ := u
  obtain ⟨rw0, rows⟩ := r
  simp only [andB_eq, Bool.and_eq_true] at hcnd
  obtain ⟨⟨c1, c2, c3, c4⟩, ⟨c5, c6⟩, c7⟩ := hcnd
  have c1 : rw0 = true := c1
  subst c1
  have c2 : ts.ex = false := by simpa using c2
  have c3 := Nat.eq_of_beq_eq_true c3
  have c4 := Nat.eq_of_beq_eq_true c4
  have c5 : ts.len = rows.length := by have := Nat.eq_of_beq_eq_true c5; rwa [len_eq] at this
  have c6 : ts.cap = rows.length := by have := Nat.eq_of_beq_eq_true c6; rwa [len_eq] at this
  have c7 : (rows.length + 1) * bt ≤ 140737488355328 := by have := Nat.le_of_ble_eq_true c7; rw [len_eq] at this; exact this
  have hmat : hget H b = .mat true rows := matOf_some hm
  have hcg : hget H c = .row true true cs := hcg
  -- what is appended
  obtain ⟨xs, hxs, hvv⟩ := ob_eq hvv
  obtain ⟨hxc, hvv⟩ := ite'_some hvv
  obtain ⟨d, hd, hvv⟩ := ob_eq hvv
  obtain ⟨rd, hrd, hvv⟩ := ob_eq hvv
  simp only [andB_eq, Bool.and_eq_true] at hxc
  have x1 := Nat.eq_of_beq_eq_true hxc.1
  rw [nth_eq] at hvv
  rw [asSl_some hxs, plain_some hd, x1] at hX
  cases hX with | slice _ _ _ _ _ _ A2 cap2 hnd d1 d2 d3 d4 d5 =>
  have hA2 := d3 (by omega)
  subst hA2
  have hobd := hs.obj (.p d)
  rw [nget_p, rowOf_some hrd] at hobd
  have hobd : RowR ρ (ρ.g (.p d)) rd.1 rd.2.1 rd.2.2 w := hobd
  obtain ⟨Y, hYc, hY1, hYv⟩ := hobd.cell _ _ hvv
  rw [hvz] at hYv
  cases hYv with | slice _ _ _ _ _ _ Ac capY hnc e1 e2 e3 e4 e5 =>
  have e5 : cs.length ≤ capY := e5
  -- the slice that grows
  rw [asSl_some hts, plain_some hpb, c2, c3, c4, c5, c6] at hS
  cases hS with | slice _ _ _ _ _ _ A cap' hnb g1 g2 g3 g4 g5 =>
  have hob := hs.obj (.p b)
  rw [nget_p, hmat] at hob
  have hob : RowR ρ (ρ.g (.p b)) true false (hdrs b 0 rows) w ∧ MatR ρ b rows := hob
  obtain ⟨olds, o1, o2, o3⟩ := hob.1.read (n := (hdrs b 0 rows).length) (off := 0) (read_all (hdrs b 0 rows) [])
  rw [hdrs_length] at o2
  let Y : Value := .slice Ac cs.length capY
  have hone : ∀ u ∈ olds ++ [Y], u.oneCell' = true := fun u hu => by
    rcases List.mem_append.1 hu with h | h
    · obtain ⟨j, hj⟩ := List.getElem?_of_mem h; exact (o3 j u hj).2
    · simp at h; subst h; rfl
  -- the headers, under the new name
  have hall : ∀ g : Geo, g.ok = true → VRL (ρ.pushG (matGeo ρ g b c rows.length)) (hdrs H.length 0 (rows ++ [some cs])) (olds ++ [Y]) := fun g gok => by
    have np : ((ρ.pushG (matGeo ρ g b c rows.length)).g (.p H.length)).ok = true := by rw [show (ρ.pushG (matGeo ρ g b c rows.length)).g (.p H.length) = g from if_pos (by rw [hs.n]; rfl)]; exact gok
    have gn : ∀ i, (ρ.pushG (matGeo ρ g b c rows.length)).g (.v H.length i) = matGeo ρ g b c rows.length (.v H.length i) := fun i => if_pos (by rw [hs.n]; rfl)
    have nlt : H.length < (ρ.pushG (matGeo ρ g b c rows.length)).n := by show H.length < ρ.n + 1; rw [hs.n]; omega
    rw [hdrs_app]
    refine VRL.append (VRL.of_get (by rw [hdrs_length, o2]) fun i y z hy hz => ?_) (.cons _ _ _ _ ?_ .nil)
    · rw [hdrs_get, Nat.zero_add] at hy
      cases hr : rows[i]? with
      | none => rw [hr] at hy; cases hy
      | some r0 =>
        rw [hr] at hy; cases hy
        have hi : i < rows.length := (List.getElem?_eq_some_iff.1 hr).1
        obtain ⟨z', hz', hv'⟩ := o1.get (i := i) (x := hdr b i r0) (by rw [hdrs_get, hr, Nat.zero_add]; rfl)
        rw [hz] at hz'; cases hz'
        exact hdr_ren hv' nlt np (by rw [gn]; exact if_pos hi)
    · show VR _ (.slice (.v H.length (0 + rows.length)) 0 (len cs) (len cs) 1 false) Y
      rw [len_eq, Nat.zero_add]
      have gg : (ρ.pushG (matGeo ρ g b c rows.length)).g (.v H.length rows.length) = ρ.g (.p c) := by
        rw [gn]; show (if rows.length < rows.length then _ else if rows.length = rows.length then _ else _) = _
        rw [if_neg (by omega), if_pos rfl]
      exact .slice (.v H.length rows.length) 0 cs.length cs.length 1 false Ac capY ⟨nlt, np, by rw [gg]; exact hnc.2.2⟩ e5 (fun h => by cases h) (fun h => by rw [gg]; exact e3 h) (fun h => by rw [gg] at h ⊢; exact e4 h) e5
  obtain ⟨it, zv, hi, hzv, hcz, hzs⟩ := zeroIs_run hz
  obtain ⟨it', hi', hsz'⟩ := sizeIs_run hsz
  rw [hi] at hi'; cases hi'
  have hbb := bytesIs_run hi hb
  have hu := sliceOf_run ht
  have hzs' : zv.cells.size = 1 := by rw [hzs, hsz']
  have gv0 : ∀ (g : Geo) n i, matGeo ρ g b c rows.length (.v n i) = if i < rows.length then ρ.g (.v b i) else if i = rows.length then ρ.g (.p c) else noGeo := fun _ _ _ => rfl
  have newval : ∀ (g : Geo) capn, rows.length + 1 ≤ capn → (g.own = true → capn ≤ g.room) → g.ok = true → g.o = 0 ∨ True → VR (ρ.pushG (matGeo ρ g b c rows.length)) (.slice (.p H.length) 0 (rows.length + 1) (rows.length + 1) 1 false) (.slice (some ⟨g.b, g.o, none⟩) (rows.length + 1) capn) := fun g capn h1 h2 h3 _ => by
    have gn : (ρ.pushG (matGeo ρ g b c rows.length)).g (.p H.length) = g := if_pos (by rw [hs.n]; rfl)
    exact .slice (.p H.length) 0 _ _ 1 false _ capn ⟨by show H.length < ρ.n + 1; rw [hs.n]; omega, by rw [base_p, gn]; exact h3, by rw [gn]; exact h3⟩ h1 (fun h => by cases h) (fun _ => by rw [gn]; rfl) (fun h => by rw [gn] at h ⊢; have := h2 h; omega) h1
  have eH : apd (upd (upd H b .dead) c .dead) [.mat true (apd rows [some cs])] = ((H.set b .dead).set c .dead) ++ [.mat true (rows ++ [some cs])] := by rw [apd_eq, apd_eq, upd_eq, upd_eq]
  have hnew : ∀ (j : Nat) (u : Value), [Y][j]? = some u → w.cell? ((⟨(ρ.g (.p d)).b, (ρ.g (.p d)).o + xs.off, none⟩ : Addr).add j) = some u := fun j u hj => by
    cases j with
    | zero => simp at hj; subst hj; rw [add_none]; exact hYc
    | succ j => simp at hj
  show OpRun C P _ ρ H w (.slice (.p (len H)) 0 (Nat.succ (len rows)) (Nat.succ (len rows)) 1 false) (apd (upd (upd H b .dead) c .dead) [.mat true (apd rows [some cs])])
  rw [eH, len_eq, len_eq]
  rcases Nat.lt_or_ge cap' (rows.length + 1) with hgt | hle
  · -- into new memory
    have hrun : (Builtin.append_ #[t, t] ty #[.slice A rows.length cap', .slice (some ⟨(ρ.g (.p d)).b, (ρ.g (.p d)).o + xs.off, none⟩) 1 cap2]).run P w =
        .ok (.slice (some ⟨w.heap.size, 0, none⟩) (rows.length + 1) (grownCap w (rows.length + 1) cap' el)) (w.drew.alloc (.cells (olds.toArray ++ [Y].toArray ++ Builtin.zeroCells zv.cells (grownCap w (rows.length + 1) cap' el - (rows.length + 1))) el)) := by
      have hn63 : ((rows.length + 1 : Nat) : Int) ≤ 9223372036854775807 := nbytes hb0 c7
      have hg2 := growslice_fits (need := rows.length + 1) (old := cap') (bytes := bt) hgt c7
      cases A with
      | none =>
        have hc0 : cap' = 0 := by
          rcases Nat.eq_zero_or_pos cap' with h | h
          · exact h
          · cases g3 h
        subst hc0
        have hl0 : rows.length = 0 := by omega
        have hnil : olds = [] := List.eq_nil_of_length_eq_zero (by rw [o2, hl0])
        have := run_append_nil (P := P) w t ty el it zv hu hi hzv ⟨(ρ.g (.p d)).b, (ρ.g (.p d)).o + xs.off, none⟩ 1 cap2 [Y] (by rw [hsz']; rfl) hnew (by omega) (by omega) (by rw [hbb]; have : 1 * bt ≤ (rows.length + 1) * bt := Nat.mul_le_mul_right _ (by omega); omega)
        rw [hl0, this, hnil]; simp
      | some ab =>
        have hA : olds = [] ∨ ab = ⟨(ρ.g (.p b)).b, (ρ.g (.p b)).o + 0, none⟩ := by
          rcases Nat.eq_zero_or_pos cap' with h | h
          · exact .inl (List.eq_nil_of_length_eq_zero (by rw [o2]; omega))
          · have := g3 h; cases this; exact .inr rfl
        exact run_append_grow (P := P) w t ty el it zv hu hi hzv ab rows.length cap' olds (by rw [hsz', o2]; omega) (fun j u hj => by
          rcases hA with h | h
          · rw [h] at hj; simp at hj
          · rw [h, add_none]; exact (o3 j u hj).1) ⟨(ρ.g (.p d)).b, (ρ.g (.p d)).o + xs.off, none⟩ 1 cap2 [Y] (by rw [hsz']; rfl) hnew hgt hn63 (by rw [hbb]; exact hg2)
    have hge : rows.length + 1 ≤ grownCap w (rows.length + 1) cap' el := grownCap_ge ..
    let more := Builtin.zeroCells zv.cells (grownCap w (rows.length + 1) cap' el - (rows.length + 1))
    let g : Geo := ⟨w.heap.size, 0, (olds ++ [Y]).length + more.size, true, true⟩
    refine ⟨_, _, _, ρ.pushG (matGeo ρ g b c rows.length), val_run hrun, .inl rfl, newval g _ hge (fun _ => ?_) rfl (.inr trivial), ?_, by simp⟩
    · show _ ≤ (olds ++ [Y]).length + more.size
      rw [List.length_append, o2, size_zeroCells, hzs']; simp; omega
    · refine step_mat (w1 := w.drew.alloc _) hs hmat hcg rfl rfl rfl (by simp) g _ (fun _ => rfl) (gv0 g) (.inl (Nat.le_refl _)) (fun i hi _ => ?_) ?_
      · show (w.heap.push _)[i]? = _
        rw [Array.getElem?_push, if_neg (by omega)]
      · have := rowR_alloc (ρ := ρ.pushG (matGeo ρ g b c rows.length)) (w := w) (f := false) (hall g rfl) hone (fun h => by cases h) more (fun h => by simp at h) el w.drew rfl
        rw [show (olds ++ [Y]).toArray = olds.toArray ++ [Y].toArray from by simp] at this
        exact this
  · -- in its own row
    have hne : rows ≠ [] := fun h0 => by
      have h5 := hob.1.nil rfl (by rw [h0]; rfl)
      have h6 := g4 h5.1
      rw [h5.2] at h6
      rw [h0] at hle
      simp only [List.length_nil] at hle; omega
    obtain ⟨hown, hroom, cur, el', hcur, hsize⟩ := hob.1.rw rfl (hdrs_ne hne)
    have h4 := g4 hown
    have hA := g3 (by omega)
    subst hA
    have hrun := run_append_room' (P := P) (w := w) t ty el el' it hu hi (ρ.g (.p b)).b ((ρ.g (.p b)).o + 0) rows.length cap' cur hcur ⟨(ρ.g (.p d)).b, (ρ.g (.p d)).o + xs.off, none⟩ 1 cap2 [Y] (by rw [hsz']; rfl) hnew (fun u hu => hone u (List.mem_append_right _ hu)) hle (by rw [hsz']; simp; omega)
    rw [hsz', Nat.mul_one, Nat.add_zero] at hrun
    have hfit2 : (ρ.g (.p b)).o + rows.length + [Y].length ≤ cur.size := by simp; omega
    have hset := setRow_heap w (ρ.g (.p b)).b cur (cur.toList.take ((ρ.g (.p b)).o + rows.length) ++ [Y] ++ cur.toList.drop ((ρ.g (.p b)).o + rows.length + [Y].length)).toArray el' (0, 0) hcur
    have hcl := splice_get cur.toList [Y] ((ρ.g (.p b)).o + rows.length)
    let g : Geo := ⟨(ρ.g (.p b)).b, (ρ.g (.p b)).o, (ρ.g (.p b)).room, true, true⟩
    refine ⟨_, _, _, ρ.pushG (matGeo ρ g b c rows.length), val_run hrun, .inl rfl, newval g _ hle (fun _ => by show cap' ≤ (ρ.g (.p b)).room; omega) rfl (.inr trivial), ?_, by simp⟩
    refine step_mat (w1 := w.setRow (ρ.g (.p b)).b _) hs hmat hcg rfl rfl rfl (Nat.le_of_eq (setRow_size ..).symm) g _ (fun _ => rfl) (gv0 g) (.inr ⟨hne, rfl⟩) (fun i _ hn => setRow_other w _ _ _ (hn hne rfl)) ?_
    refine ⟨fun k u hk => ?_, (fun h => by cases h), fun _ _ => ⟨rfl, ?_, _, el', hset, ?_⟩, fun _ hn => absurd (congrArg List.length hn) (by rw [hdrs_length]; simp)⟩
    · show ∃ x, World.cell? _ ⟨(ρ.g (.p b)).b, (ρ.g (.p b)).o + k, none⟩ = some x ∧ _
      rw [cell_of_row _ _ _ _ el' (0, 0) hset]
      simp only [List.getElem?_toArray]
      rw [hcl _ (by simpa using hfit2)]
      obtain ⟨y, hy, hry⟩ := (hall g rfl).get hk
      refine ⟨y, ?_, hone y (List.mem_of_getElem? hy), hry⟩
      by_cases hk2 : k < olds.length
      · rw [List.getElem?_append_left hk2] at hy
        rw [o2] at hk2
        rw [if_neg (by omega)]
        have := (o3 k y hy).1
        rw [Nat.add_zero, cell_of_row w _ _ cur el' (0, 0) hcur] at this
        simpa using this
      · rw [List.getElem?_append_right (by omega), o2] at hy
        have hlt : k - rows.length < [Y].length := (List.getElem?_eq_some_iff.1 hy).1
        rw [o2] at hk2
        simp only [List.length_singleton] at hlt ⊢
        rw [if_pos (by omega), show (ρ.g (.p b)).o + k - ((ρ.g (.p b)).o + rows.length) = k - rows.length from by omega]
        exact hy
    · show (hdrs H.length 0 (rows ++ [some cs])).length ≤ (ρ.g (.p b)).room
      rw [hdrs_length]; simp; omega
    · show (ρ.g (.p b)).o + (ρ.g (.p b)).room = _
      simp; omega
end
end Go.AI
