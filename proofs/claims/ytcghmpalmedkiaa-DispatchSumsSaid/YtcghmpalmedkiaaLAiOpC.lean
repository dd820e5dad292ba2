/-
  OPERATIONS, ONE BY ONE (third part): structs and slices put together, equality, conversions.
-/
import Derived.Test.YtcghmpalmedkiaaLAiOpB
set_option linter.unusedVariables false
set_option linter.unusedSimpArgs false
namespace Go.AI
section
variable {C : ACode → Code → Nat → Prop} {P : Program} {ρ : Rho} {H : Heap} {w : World} {N : Nat} {e : Env} {a : Act}
theorem fold_put (vs : List Value) (off i : Nat) (cells : Array Value) :
    ((vs.zipIdx i).foldl (fun cs p => cs.setIfInBounds (off + p.2) p.1) cells).size = cells.size ∧
    ∀ k, ((vs.zipIdx i).foldl (fun cs p => cs.setIfInBounds (off + p.2) p.1) cells)[k]? = if off + i ≤ k ∧ k < off + i + vs.length ∧ k < cells.size then vs[k - (off + i)]? else cells[k]? := by
  induction vs generalizing i cells with
  | nil => exact ⟨rfl, fun k => by simp only [List.zipIdx_nil, List.foldl_nil, List.length_nil]; rw [if_neg (by omega)]⟩
  | cons v vs ih =>
    simp only [List.zipIdx_cons, List.foldl_cons]
    obtain ⟨h1, h2⟩ := ih (i + 1) (cells.setIfInBounds (off + i) v)
    refine ⟨by rw [h1]; simp, fun k => ?_⟩
    rw [h2]
    simp only [Array.size_setIfInBounds, List.length_cons]
    by_cases hk : k = off + i
    · subst hk
      rw [if_neg (by omega)]
      by_cases hs : off + i < cells.size
      · rw [if_pos (by omega)]; simp [hs]
      · rw [if_neg (by omega)]; rw [Array.getElem?_eq_none (by simpa using Nat.le_of_not_lt hs), Array.getElem?_eq_none (Nat.le_of_not_lt hs)]
    · by_cases hc : off + (i + 1) ≤ k ∧ k < off + (i + 1) + vs.length ∧ k < cells.size
      · rw [if_pos hc, if_pos (by omega), show k - (off + i) = (k - (off + (i + 1))) + 1 from by omega]; simp
      · rw [if_neg hc, if_neg (by omega), Array.getElem?_setIfInBounds_ne (fun h => hk h.symm)]
theorem put_VRL {cs vs cs' : List AVal} {off : Nat} {xs : Array Value} {ys : Array Value} (hw : writeAt vs cs off = some cs') (hc : VRL ρ cs xs.toList) (hv : VRL ρ vs ys.toList) (hne : vs ≠ []) :
    off + ys.size ≤ xs.size ∧ VRL ρ cs' (ys.zipIdx.foldl (fun c (p : Value × Nat) => c.setIfInBounds (off + p.2) p.1) xs).toList := by
  obtain ⟨h1, h2, h3⟩ := writeAt_get hw
  have hcl := hc.length; have hvl := hv.length
  simp only [Array.length_toList] at hcl hvl
  have hfit := h2 hne
  refine ⟨by omega, ?_⟩
  have e : ys.zipIdx.foldl (fun c (p : Value × Nat) => c.setIfInBounds (off + p.2) p.1) xs = (ys.toList.zipIdx 0).foldl (fun cs p => cs.setIfInBounds (off + p.2) p.1) xs := by
    rw [← Array.foldl_toList, Array.toList_zipIdx]
  obtain ⟨g1, g2⟩ := fold_put ys.toList off 0 xs
  rw [e]
  refine VRL.of_get (by rw [h1, hcl, Array.length_toList, g1]) fun i x y hx hy => ?_
  rw [h3] at hx
  rw [Array.getElem?_toList, g2] at hy
  simp only [Nat.add_zero, Array.length_toList] at hy
  by_cases hi : off ≤ i ∧ i < off + vs.length
  · rw [if_pos hi] at hx
    rw [if_pos (by omega)] at hy
    obtain ⟨z, hz, hr⟩ := hv.get hx
    rw [hz] at hy; cases hy; exact hr
  · rw [if_neg hi] at hx
    rw [if_neg (by omega)] at hy
    obtain ⟨z, hz, hr⟩ := hc.get hx
    rw [Array.getElem?_toList] at hz
    rw [hz] at hy; cases hy; exact hr
theorem fillAt_cons (p : Nat × Nat × AVal) (l : List (Nat × Nat × AVal)) (cs : List AVal) : fillAt (p :: l) cs = ite' (andB (Nat.beq (len p.2.2.cells) p.2.1) (oneL p.2.2.cells)) (ob (writeAt p.2.2.cells cs p.1) (fillAt l)) none := rfl
inductive PR (ρ : Rho) (pl : Nat → Option (Nat × Nat)) : List (Nat × Nat × AVal) → List (Nat × Value) → Prop
  | nil : PR ρ pl [] []
  | cons (o s : Nat) (v : AVal) (i : Nat) (x : Value) (ps : List (Nat × Nat × AVal)) (qs : List (Nat × Value)) (hp : pl i = some (o, s)) (h0 : 0 < s) (hv : VR ρ v x) (hs : PR ρ pl ps qs) : PR ρ pl ((o, s, v) :: ps) ((i, x) :: qs)
theorem fill_run {pl : Nat → Option (Nat × Nat)} {ps : List (Nat × Nat × AVal)} {qs : List (Nat × Value)} (hp : PR ρ pl ps qs) : ∀ {cs cs' : List AVal} {xs : Array Value}, fillAt ps cs = some cs' → VRL ρ cs xs.toList →
    ∃ xs', Instr.fill pl xs qs = some xs' ∧ VRL ρ cs' xs'.toList ∧ (∀ u ∈ xs'.toList, u ∈ xs.toList ∨ u.oneCell' = true) ∧ (oneL cs = true → oneL cs' = true) := by
  induction hp with
  | nil => intro cs cs' xs h hc; cases h; exact ⟨xs, rfl, hc, fun u hu => .inl hu, fun h => h⟩
  | cons o s v i x ps qs hpl h0 hv _ ih =>
    intro cs cs' xs h hc
    rw [fillAt_cons] at h
    obtain ⟨hb, h⟩ := ite'_some h
    obtain ⟨c1, hw, h⟩ := ob_eq h
    simp at hb
    obtain ⟨hlen, hone⟩ := hb
    obtain ⟨hvl, hv1⟩ := hv.cells hone
    have hxl : x.cells.size = s := by rw [← hlen, hvl.length]; simp
    have hne : v.cells ≠ [] := by intro h; rw [h] at hlen; simp at hlen; omega
    obtain ⟨hfit, hput⟩ := put_VRL hw hc hvl hne
    obtain ⟨xs', hf, hr, hm, ho⟩ := ih h hput
    refine ⟨xs', ?_, hr, fun u hu => ?_, fun hcs => ho ?_⟩
    · simp only [Instr.fill, hpl]
      rw [if_neg (by simp [hxl]; omega)]
      exact hf
    · rcases hm u hu with hu | hu
      · have e : x.cells.zipIdx.foldl (fun c (p : Value × Nat) => c.setIfInBounds (o + p.2) p.1) xs = (x.cells.toList.zipIdx 0).foldl (fun cs p => cs.setIfInBounds (o + p.2) p.1) xs := by
          rw [← Array.foldl_toList, Array.toList_zipIdx]
        obtain ⟨k, hk⟩ := List.getElem?_of_mem hu
        rw [Array.getElem?_toList, e, (fold_put x.cells.toList o 0 xs).2] at hk
        split at hk
        · exact .inr (hv1 u (List.mem_of_getElem? hk))
        · exact .inl (List.mem_of_getElem? (by rw [Array.getElem?_toList]; exact hk))
      · exact .inr hu
    · rw [oneL_iff] at hcs hone ⊢
      obtain ⟨_, _, h3⟩ := writeAt_get hw
      intro u hu
      obtain ⟨k, hk⟩ := List.getElem?_of_mem hu
      rw [h3] at hk
      split at hk
      · exact hone u (List.mem_of_getElem? hk)
      · exact hcs u (List.mem_of_getElem? hk)
theorem parts3_PR {u : TypeDesc} {ps : List (Nat × Nat × Opnd)} {qs : List (Nat × Operand)} (h : parts3Ok P u ps qs = true) (he : ER ρ N e a.tmps) : PR ρ (place P u) (parts3 e ps) (qs.map fun (i, x) => (i, a.eval x)) := by
  induction ps generalizing qs with
  | nil => cases qs with
    | nil => exact .nil
    | cons _ _ => cases h
  | cons p ps ih => cases qs with
    | nil => cases h
    | cons q qs =>
      obtain ⟨o, s, x⟩ := p; obtain ⟨i, y⟩ := q
      simp [parts3Ok] at h
      exact .cons _ _ _ _ _ _ _ h.1.1.1 h.1.1.2 (opnd_VR h.1.2 he) (ih h.2)
theorem parts2_PR {sz : Nat} {ps : List (Nat × Opnd)} {qs : List (Nat × Operand)} (h : parts2Ok ps qs = true) (hz : 0 < sz) (he : ER ρ N e a.tmps) :
    PR ρ (fun i => some (i * sz, sz)) (parts2 e sz ps) (qs.map fun (i, x) => (i, a.eval x)) := by
  induction ps generalizing qs with
  | nil => cases qs with
    | nil => exact .nil
    | cons _ _ => cases h
  | cons p ps ih => cases qs with
    | nil => cases h
    | cons q qs =>
      obtain ⟨i, x⟩ := p; obtain ⟨j, y⟩ := q
      simp [parts2Ok] at h
      obtain ⟨⟨rfl, h1⟩, h2⟩ := h
      exact .cons _ _ _ _ _ _ _ rfl hz (opnd_VR h1 he) (ih h2)
theorem places_get {fs : List Field} (h : allSized P fs = true) : ∃ places : List (Nat × Nat), fs.mapM (fun (f : Field) => (P.info? f.type).map fun i => (f.offset, i.size)) = some places ∧
    ∀ i : Nat, places[i]? = match fs[i]? with | some f => (match P.info? f.type with | some inf => some (f.offset, inf.size) | none => none) | none => none := by
  induction fs with
  | nil => exact ⟨[], rfl, fun i => by simp⟩
  | cons f fs ih =>
    simp [allSized] at h
    obtain ⟨inf, hi⟩ := Option.isSome_iff_exists.1 h.1
    obtain ⟨pl, h1, h2⟩ := ih h.2
    refine ⟨(f.offset, inf.size) :: pl, by simp [List.mapM_cons, hi, h1], fun i => ?_⟩
    cases i with
    | zero => simp [hi]
    | succ i => simpa using h2 i
theorem op_build {t : TypeId} {z : List AVal} {ps : List (Nat × Nat × Opnd)} {qs : Array (Nat × Operand)} (hs : SR C ρ H w) (he : ER ρ N e a.tmps) (hz : zeroIs P t z = true)
    (hu : (match P.underlying t with | some u => buildable P u && parts3Ok P u ps qs.toList | none => false) = true) {v : AVal} {H' : Heap} (hr : oBuild z ps e H = some (v, H')) :
    OpRun C P (do pure (.value (← Instr.build t (qs.map fun (i, x) => (i, a.eval x))))) ρ H w v H' := by
  obtain ⟨cs, hf, hr⟩ := ob_eq hr
  cases hr
  obtain ⟨it, zv, hi, hzv, hc, _⟩ := zeroIs_run hz
  obtain ⟨h1, h2, h3⟩ := constL_VRL (ρ := ρ) hc
  cases hd : P.underlying t with
  | none => rw [hd] at hu; cases hu
  | some u =>
    rw [hd] at hu
    simp at hu
    have hp := parts3_PR (ρ := ρ) hu.2 he
    obtain ⟨xs', hfl, hr, _, _⟩ := fill_run hp hf h1
    have hb : P.built t (qs.map fun (i, x) => (i, a.eval x)).toList = some xs' := by
      unfold Program.built
      rw [hi, hd]
      cases u <;> first | (cases hu.1; done) | skip
      · rename_i n el
        have hel : (P.info? el).isSome = true := hu.1
        obtain ⟨ie, hie⟩ := Option.isSome_iff_exists.1 hel
        have hpl : place P (.array n el) = fun i => some (i * ie.size, ie.size) := by funext i; simp [place, hie]
        rw [hpl] at hfl
        simp only [hzv, hie]; simpa using hfl
      · rename_i fs
        have hfs : allSized P fs.toList = true := hu.1
        obtain ⟨places, hm, hg⟩ := places_get hfs
        have hpl : place P (.struct fs) = fun i => places.toArray[i]? := by
          funext i
          simp only [place]
          rw [show places.toArray[i]? = places[i]? from by simp, hg i, Array.getElem?_toList]
          cases fs[i]? with
          | none => rfl
          | some f => cases hq : P.info? f.type with
            | none => simp [hq]
            | some inf => simp [hq]
        rw [hpl] at hfl
        simp only [hzv, hm]; simpa using hfl
    exact .pure hs (x := .agg xs') (val_run (run_build w t _ xs' hb)) (by simpa using VR.agg _ _ hr)
theorem repeatL_zero (z : List AVal) : repeatL z 0 = [] := rfl
theorem repeatL_succ (z : List AVal) (n : Nat) : repeatL z (n + 1) = z ++ repeatL z n := by show apd z (repeatL z n) = _; simp
theorem repeatL_length (z : List AVal) (n : Nat) : (repeatL z n).length = n * z.length := by
  induction n with
  | zero => simp [repeatL_zero]
  | succ n ih => rw [repeatL_succ, List.length_append, ih, Nat.add_mul]; omega
theorem repeatL_get (z : List AVal) (n i : Nat) (h : i < n * z.length) : (repeatL z n)[i]? = z[i % z.length]? := by
  induction n generalizing i with
  | zero => simp at h
  | succ n ih =>
    rw [repeatL_succ]
    by_cases hi : i < z.length
    · rw [List.getElem?_append_left hi, Nat.mod_eq_of_lt hi]
    · rw [List.getElem?_append_right (by omega), ih _ (by rw [Nat.add_mul] at h; omega)]
      congr 1
      rw [← Nat.mod_eq_sub_mod (by omega)]
theorem repeat_VRL {z : List AVal} {zv : Array Value} (h : VRL ρ z zv.toList) (n : Nat) : VRL ρ (repeatL z n) ((Array.range (n * zv.size)).map (zv[· % zv.size]!)).toList := by
  have hl := h.length; simp only [Array.length_toList] at hl
  refine VRL.of_get (by rw [repeatL_length]; simp [hl]) fun i x y hx hy => ?_
  have hi : i < n * z.length := by rw [← repeatL_length]; exact (List.getElem?_eq_some_iff.1 hx).1
  rw [repeatL_get z n i hi] at hx
  obtain ⟨u, hu, hr⟩ := h.get hx
  have hz0 : 0 < zv.size := by
    rw [← hl]
    rcases Nat.eq_zero_or_pos z.length with h0 | h0
    · rw [h0] at hi; simp at hi
    · exact h0
  rw [hl] at hi hu
  have hm : i % zv.size < zv.size := Nat.mod_lt _ hz0
  simp [hi, hm] at hy
  rw [Array.getElem?_toList] at hu
  simp [hm] at hu
  rw [hu] at hy; subst hy; exact hr
theorem one_of_VRL {cs : List AVal} {xs : List Value} (h : VRL ρ cs xs) (ho : oneL cs = true) : ∀ u ∈ xs, u.oneCell' = true := by
  intro u hu
  obtain ⟨k, hk⟩ := List.getElem?_of_mem hu
  have : k < cs.length := by rw [h.length]; exact (List.getElem?_eq_some_iff.1 hk).1
  obtain ⟨y, hy, hr⟩ := h.get (List.getElem?_eq_getElem this)
  rw [hk] at hy; cases hy
  exact (hr.one ((oneL_iff cs).1 ho _ (List.getElem_mem this))).1
theorem sliceOf_run {t el : TypeId} (h : sliceOf P t el = true) : P.underlying t = some (.slice el) := by
  unfold sliceOf at h; split at h
  · rename_i e' hu; simp at h; rw [hu, h]
  · cases h
theorem op_bslice {t el : TypeId} {sz l : Nat} {z : List AVal} {ps : List (Nat × Opnd)} {qs : Array (Nat × Operand)} (hs : SR C ρ H w) (he : ER ρ N e a.tmps) (ht : sliceOf P t el = true) (hsz : sizeIs P el sz = true) (hz : zeroIs P el z = true)
    (hl : l * sz ≤ 16777216) (h0 : 0 < sz) (hq : parts2Ok ps qs.toList = true) {v : AVal} {H' : Heap} (hr : oBslice el sz l z ps e H = some (v, H')) :
    OpRun C P (do pure (.value (← Instr.buildSlice t l (qs.map fun (i, x) => (i, a.eval x))))) ρ H w v H' := by
  obtain ⟨cs, hf, hr⟩ := ob_eq hr
  obtain ⟨ho, hr⟩ := ite'_some hr
  cases hr
  obtain ⟨it, zv, hi, hzv, hc, hzs⟩ := zeroIs_run hz
  obtain ⟨it', hi', hsz'⟩ := sizeIs_run hsz
  rw [hi] at hi'; cases hi'
  obtain ⟨h1, h2, h3⟩ := constL_VRL (ρ := ρ) hc
  have hzs' : zv.cells.size = sz := by rw [hzs, hsz']
  have hrep := repeat_VRL h1 l
  obtain ⟨xs', hfl, hrr, _, _⟩ := fill_run (parts2_PR (ρ := ρ) hq h0 he) hf hrep
  have hu := sliceOf_run ht
  have hx1 := one_of_VRL hrr ho
  have hrun : (Instr.buildSlice t l (qs.map fun (i, x) => (i, a.eval x))).run P w = .ok (.slice (some ⟨w.heap.size, 0, none⟩) l l) (w.alloc (.cells xs' el)) := by
    have hfl' : Instr.fill (fun i => some (i * sz, sz)) ((Array.range (l * sz)).map (zv.cells[· % zv.cells.size]!)) (qs.map fun (i, x) => (i, a.eval x)).toList = some xs' := by
      have e1 : (Array.range (l * sz)).map (zv.cells[· % zv.cells.size]!) = (Array.range (l * zv.cells.size)).map (zv.cells[· % zv.cells.size]!) := by rw [hzs']
      rw [e1]; simpa using hfl
    by_cases hl0 : l * sz = 0
    · have hl00 : l = 0 := by rcases Nat.mul_eq_zero.1 hl0 with h | h; exact h; omega
      subst hl00
      have : ((Array.range (0 * sz)).map (zv.cells[· % zv.cells.size]!)) = ((Array.range (0 * sz)).map ((#[] : Array Value)[· % (#[] : Array Value).size]!)) := by simp
      rw [this] at hfl'
      simp [Instr.buildSlice, run_underlying hu, run_sizeOf' hi, hsz', run_newRow'] at hfl' ⊢
      simp [hfl', run_newRow']
    · have : ¬ 16777216 < l * sz := by omega
      simp [Instr.buildSlice, run_underlying hu, run_sizeOf' hi, hsz', hl0, run_zeroValue' hi hzv, this]
      have h5 : Instr.fill (fun i => some (i * sz, sz)) ((Array.range (l * sz)).map fun x => zv.cells[x % zv.cells.size]!) (qs.map fun x => (x.fst, a.eval x.snd)).toList = some xs' := hfl'
      simp at h5
      simp [h5, run_newRow']
  have := op_newRow (P := P) (s := do pure (.value (← Instr.buildSlice t l (qs.map fun (i, x) => (i, a.eval x))))) (f := AVal.flatL cs) hs hrr hx1 (fun h => h) #[] (fun _ => rfl) el w rfl rfl rfl rfl
    (r := .value (.slice (some ⟨w.heap.size, 0, none⟩) l l)) (v := .slice (.p H.length) 0 l l sz true) (x := .slice (some ⟨w.heap.size, 0, none⟩) l l) (val_run (by simpa using hrun)) rfl ?_
  · simpa [newRow] using this
  · have hcl : xs'.toList.length = l * sz := by
      rw [← hrr.length]
      have : ∀ {ps : List (Nat × Nat × AVal)} {cs cs' : List AVal}, fillAt ps cs = some cs' → cs'.length = cs.length := by
        intro ps
        induction ps with
        | nil => intro cs cs' h; cases h; rfl
        | cons p ps ih =>
          intro cs cs' h
          rw [fillAt_cons] at h
          obtain ⟨_, h⟩ := ite'_some h
          obtain ⟨c1, hw, h⟩ := ob_eq h
          rw [ih h, (writeAt_get hw).1]
      rw [this hf, repeatL_length]
      have := h1.length; simp at this; rw [this, hzs']
    have := VR.slice (ρ := ρ.push ⟨w.heap.size, 0, xs'.toList.length + 0, true, true⟩) (.p H.length) 0 l l sz true (some ⟨w.heap.size, 0, none⟩) l (push_ok hs) (Nat.le_refl _) (fun _ => rfl)
      (fun _ => by rw [← hs.n, Rho.push_new]) (fun _ => by rw [← hs.n, Rho.push_new, hcl]; simp) (Nat.le_refl _)
    rw [← hs.n] at this ⊢; exact this
theorem putRow_run {x : Nm} {off : Nat} {vs : List AVal} {ys : List Value} (hs : SR C ρ H w) (hv : VRL ρ vs ys) {H' : Heap} (h : putRow H x off vs = some H') (hne : vs ≠ []) :
    ∃ cur el, w.heap[(ρ.g x).b]? = some (.cells cur el (0, 0)) ∧ (ρ.g x).o + off + ys.length ≤ cur.size ∧ (∀ u ∈ ys, u.oneCell' = true) ∧
      Step C H.length ρ H w ρ H' (w.setRow (ρ.g x).b (cur.toList.take ((ρ.g x).o + off) ++ ys ++ cur.toList.drop ((ρ.g x).o + off + ys.length)).toArray) ∧ H'.length = H.length := by
  obtain ⟨r, hr, h⟩ := ob_eq h
  obtain ⟨hb, h⟩ := ite'_some h
  obtain ⟨cs', hww, h⟩ := ob_eq h
  cases h
  obtain ⟨rw_, fl, cs⟩ := r
  have hww : writeAt vs cs off = some cs' := hww
  simp at hb
  obtain ⟨rfl, hone, hmay⟩ := hb
  have hgo := rowOf_some hr
  have hob := hs.obj x
  rw [hgo] at hob
  have hob : RowR ρ (ρ.g x) true fl cs w := hob
  obtain ⟨hw1, hw2, hw3⟩ := writeAt_get hww
  have hvlen := hv.length
  have hv1 := one_of_VRL hv hone
  have hcs0 : cs ≠ [] := by
    intro h0
    have := hw2 hne
    rw [h0] at this
    cases vs with
    | nil => exact hne rfl
    | cons _ _ => simp at this
  obtain ⟨hown, hroom, cur, el, hcur, hsize⟩ := hob.rw rfl hcs0
  have h9 : off + vs.length ≤ cs.length := hw2 hne
  have hfit : (ρ.g x).o + off + ys.length ≤ cur.size := by omega
  have g6 := setRow_heap w (ρ.g x).b cur (cur.toList.take ((ρ.g x).o + off) ++ ys ++ cur.toList.drop ((ρ.g x).o + off + ys.length)).toArray el (0, 0) hcur
  have g8 := splice_get cur.toList ys ((ρ.g x).o + off)
  have g7 : (cur.toList.take ((ρ.g x).o + off) ++ ys ++ cur.toList.drop ((ρ.g x).o + off + ys.length)).toArray.size = cur.size := by simp; omega
  refine ⟨cur, el, hcur, hfit, hv1, ?_, nset_length ..⟩
  have hcs1 : cs' ≠ [] := fun hn => hcs0 (List.eq_nil_of_length_eq_zero (by rw [← hw1, hn]; rfl))
  have hcsf : andB fl (AVal.flatL vs) = true → AVal.flatL cs' = true := fun hf => by
    simp at hf
    have hfl := hob.flat hf.1
    rw [flatL_iff] at hfl ⊢
    have hfv := (flatL_iff _).1 hf.2
    intro u hu
    obtain ⟨k, hk⟩ := List.getElem?_of_mem hu
    rw [hw3] at hk
    split at hk
    · exact hfv u (List.mem_of_getElem? hk)
    · exact hfl u (List.mem_of_getElem? hk)
  have hfl1 : ∀ b j, x = .v b j → fl = true ∧ AVal.flatL vs = true := fun b j hq1 => by
    rw [hq1] at hmay hgo
    refine ⟨?_, hmay⟩
    rw [nget_v] at hgo
    exact (mat_of_inner hgo).choose_spec.2.2
  refine step_set (w' := w.setRow (ρ.g x).b (cur.toList.take ((ρ.g x).o + off) ++ ys ++ cur.toList.drop ((ρ.g x).o + off + ys.length)).toArray) hs rfl rfl rfl (setRow_size ..) x (by rw [hgo]; simpa [AObj.isRw] using hcs0) (fun k hk => setRow_other w _ k _ hk) _ (nset_length ..) (.row true (andB fl (AVal.flatL vs)) cs') ?_ (by simpa [AObj.live] using hcs1)
    (nset_at hgo (fun b j hq1 => by obtain ⟨h1, h2⟩ := hfl1 b j hq1; rw [h1, h2]; rfl) rfl)
    (nset_like hgo hw1 (fun b j hq1 => hcsf (by obtain ⟨h1, h2⟩ := hfl1 b j hq1; rw [h1, h2]; rfl)) (fun b rw2 rows j cs2 hb2 hj => by have := hs.obj (.p b); rw [nget_p, hb2] at this; exact this.2.flat j cs2 hj)) (nset_wm H _ _ _)
  show RowR ρ (ρ.g x) true (andB fl (AVal.flatL vs)) cs' _
  refine ⟨fun k u hu => ?_, hcsf, fun _ _ => ⟨hown, by rw [hw1]; exact hroom, _, el, g6, by rw [g7]; exact hsize⟩, fun _ hn => absurd hn hcs1⟩
  rw [cell_of_row _ _ _ _ el (0, 0) g6]
  simp only [List.getElem?_toArray]
  rw [g8 _ (by simpa using hfit)]
  rw [hw3] at hu
  by_cases hk : off ≤ k ∧ k < off + vs.length
  · rw [if_pos hk] at hu
    rw [if_pos (by omega)]
    obtain ⟨z, hz, hr⟩ := hv.get hu
    refine ⟨z, ?_, hv1 z (List.mem_of_getElem? hz), hr⟩
    rw [show (ρ.g x).o + k - ((ρ.g x).o + off) = k - off from by omega]; exact hz
  · rw [if_neg hk] at hu
    rw [if_neg (by omega)]
    obtain ⟨z, hz, h1, h2⟩ := hob.cell k u hu
    rw [cell_of_row w _ _ cur el (0, 0) hcur] at hz
    exact ⟨z, by simpa using hz, h1, h2⟩
end
end Go.AI
