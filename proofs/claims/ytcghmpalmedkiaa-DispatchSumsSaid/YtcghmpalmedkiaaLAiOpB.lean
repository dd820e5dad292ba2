/-
  OPERATIONS, ONE BY ONE (second part): reading, writing, putting together.
-/
import Derived.Test.YtcghmpalmedkiaaLAiOpA
set_option linter.unusedVariables false
set_option linter.unusedSimpArgs false
namespace Go.AI
section
variable {C : ACode → Code → Nat → Prop} {P : Program} {ρ : Rho} {H : Heap} {w : World} {N : Nat} {e : Env} {a : Act}
theorem readAt_succ (n : Nat) (cs : List AVal) (off : Nat) : readAt (n + 1) cs off = ob (nth cs off) fun v => ob (readAt n cs (off + 1)) fun vs => some (v :: vs) := rfl
theorem readAt_get {n : Nat} {cs : List AVal} {off : Nat} {vs : List AVal} (h : readAt n cs off = some vs) : vs.length = n ∧ ∀ j, j < n → vs[j]? = cs[off + j]? := by
  induction n generalizing off vs with
  | zero => cases h; exact ⟨rfl, fun j hj => by omega⟩
  | succ n ih =>
    rw [readAt_succ] at h
    obtain ⟨v, hv, h⟩ := ob_eq h
    obtain ⟨us, hu, h⟩ := ob_eq h
    cases h
    obtain ⟨h1, h2⟩ := ih hu
    refine ⟨by simp [h1], fun j hj => ?_⟩
    cases j with
    | zero => rw [nth_eq] at hv; simpa using hv.symm
    | succ j => have := h2 j (by omega); simp; rw [this]; congr 1; omega
theorem RowR.read {g : Geo} {rw f : Bool} {cs : List AVal} (hr : RowR ρ g rw f cs w) {n off : Nat} {vs : List AVal} (h : readAt n cs off = some vs) :
    ∃ xs : List Value, VRL ρ vs xs ∧ xs.length = n ∧ ∀ j u, xs[j]? = some u → w.cell? ⟨g.b, g.o + off + j, none⟩ = some u ∧ u.oneCell' = true := by
  induction n generalizing off vs with
  | zero => cases h; exact ⟨[], .nil, rfl, fun j u hj => by simp at hj⟩
  | succ n ih =>
    rw [readAt_succ] at h
    obtain ⟨v, hv, h⟩ := ob_eq h
    obtain ⟨us, hu, h⟩ := ob_eq h
    cases h
    obtain ⟨xs, h1, h2, h3⟩ := ih hu
    rw [nth_eq] at hv
    obtain ⟨x, hx, hx1, hx2⟩ := hr.cell off v hv
    refine ⟨x :: xs, .cons _ _ _ _ hx2 h1, by simp [h2], fun j u hj => ?_⟩
    cases j with
    | zero => simp at hj; subst hj; exact ⟨hx, hx1⟩
    | succ j =>
      simp at hj
      have := h3 j u hj
      rwa [show g.o + (off + 1) + j = g.o + off + (j + 1) from by omega] at this
theorem add_none (b o n : Nat) : (⟨b, o, none⟩ : Addr).add n = ⟨b, o + n, none⟩ := Addr.add_lit b o n
theorem aggIs_run {t : TypeId} {b : Bool} (h : aggIs P t b = true) : (isAgg t).run P w = .ok b w := by
  unfold aggIs at h
  split at h
  · rename_i hu; subst h; simp [isAgg, run_underlying hu]
  · rename_i hu; subst h; simp [isAgg, run_underlying hu]
  · rename_i d h1 h2 hu
    simp at h; subst h
    simp only [isAgg, Sem.run_bind, run_underlying hu, Result.andThen_ok]
    cases d <;> first | rfl | exact absurd hu (h1 _) | exact absurd hu (h2 _ _)
  · cases h
theorem load_run {t : TypeId} {sz : Nat} {ag : Bool} (h1 : sizeIs P t sz = true) (h2 : aggIs P t ag = true) {p v : AVal} {x : Value} (hs : SR C ρ H w) (hp : VR ρ p x) (h : aload H sz ag p = some v) :
    ∃ y, (Instr.loadAt t x).run P w = .ok y w ∧ VR ρ v y := by
  obtain ⟨q, hq, h⟩ := ob_eq h
  rw [asPtr_some hq] at hp
  cases hp with | ptr _ _ hn =>
  have hob := hs.obj q.1
  obtain ⟨i, hi, hsz⟩ := sizeIs_run h1
  cases hr : rowOf (nget H q.1) with
  | none =>
    -- the header of an inner row
    rw [hr] at h
    have h : aloadM H sz ag q = some v := h
    obtain ⟨hc, h⟩ := ite'_some h
    simp at hc
    obtain ⟨rfl, rfl⟩ := hc
    obtain ⟨b, hb, h⟩ := ob_eq h
    obtain ⟨r, hr2, h⟩ := ob_eq h
    obtain ⟨o, ho, h⟩ := ob_eq h
    cases h
    rw [plain_some hb] at hob ⊢
    rw [nget_p, matOf_some hr2] at hob
    rw [nth_eq] at ho
    obtain ⟨y, hy, _, hv⟩ := hob.1.cell q.2 (hdr b q.2 o) (by rw [base_p, hdrs_get, ho, Nat.zero_add]; rfl)
    refine ⟨y, ?_, hv⟩
    simp [Instr.loadAt, Instr.sureAddr, loadVar, aggIs_run h2, load, Sem.run, hy]
  | some r =>
  rw [hr] at h
  have h : readCells ag sz r.2.2 q.2 = some v := h
  rw [rowOf_some hr] at hob
  have hob : RowR ρ (ρ.g q.1) r.1 r.2.1 r.2.2 w := hob
  cases ag with
  | true =>
    obtain ⟨vs, hvs, h⟩ := ob_eq h
    cases h
    obtain ⟨xs, h3, h4, h5⟩ := hob.read hvs
    refine ⟨.agg xs.toArray, ?_, .agg _ _ h3⟩
    have hl := run_loadCells_list (P := P) w ⟨(ρ.g q.1).b, (ρ.g q.1).o + q.2, none⟩ xs (fun j u hj => by rw [add_none]; exact (h5 j u hj).1)
    rw [h4] at hl
    simp [Instr.loadAt, Instr.sureAddr, loadVar, aggIs_run h2, run_sizeOf' hi, hsz, hl]
  | false =>
    obtain ⟨hb, h⟩ := ite'_some h
    rw [nth_eq] at h
    obtain ⟨y, hy, _, hv⟩ := hob.cell q.2 v h
    refine ⟨y, ?_, hv⟩
    simp [Instr.loadAt, Instr.sureAddr, loadVar, aggIs_run h2, load, Sem.run, hy]
theorem op_load {t : TypeId} {sz : Nat} {ag : Bool} {x : Opnd} {y : Operand} (hs : SR C ρ H w) (he : ER ρ N e a.tmps) (h1 : sizeIs P t sz = true) (h2 : aggIs P t ag = true) (h : opndOk x y = true) {v : AVal} {H' : Heap}
    (hr : oLoad sz ag x e H = some (v, H')) : OpRun C P (do pure (.value (← Instr.loadAt t (a.eval y)))) ρ H w v H' := by
  obtain ⟨u, hu, hr⟩ := ob_eq hr
  cases hr
  obtain ⟨z, hz, hv⟩ := load_run (P := P) h1 h2 hs (opnd_VR h he) hu
  exact .pure hs (val_run hz) hv

theorem writeAt_cons (v : AVal) (vs cs : List AVal) (off : Nat) : writeAt (v :: vs) cs off = ite' (Nat.blt off (len cs)) (writeAt vs (upd cs off v) (off + 1)) none := rfl
theorem writeAt_get {vs cs cs' : List AVal} {off : Nat} (h : writeAt vs cs off = some cs') :
    cs'.length = cs.length ∧ (vs ≠ [] → off + vs.length ≤ cs.length) ∧ ∀ i, cs'[i]? = if off ≤ i ∧ i < off + vs.length then vs[i - off]? else cs[i]? := by
  induction vs generalizing cs off with
  | nil => cases h; exact ⟨rfl, fun h => absurd rfl h, fun i => by rw [if_neg (by simp only [List.length_nil]; omega)]⟩
  | cons v vs ih =>
    rw [writeAt_cons] at h
    obtain ⟨hl, h⟩ := ite'_some h
    have hl : off < cs.length := by simpa [Nat.blt_eq] using hl
    rw [upd_eq] at h
    obtain ⟨h1, h2, h3⟩ := ih h
    rw [List.length_set] at h1 h2
    refine ⟨h1, fun _ => ?_, fun i => ?_⟩
    · cases vs with
      | nil => simp only [List.length_cons, List.length_nil]; omega
      | cons u us => have := h2 (by simp); simp at this ⊢; omega
    · rw [h3 i]
      by_cases hi : off = i
      · subst hi
        rw [if_neg (by omega), if_pos (by simp), List.getElem?_set]; simp [hl]
      · split
        · rw [if_pos (by simp; omega)]
          rw [show i - off = (i - (off + 1)) + 1 from by omega]; simp
        · rw [if_neg (by simp; omega), List.getElem?_set, if_neg hi]
theorem splice_get {α : Type} (l v : List α) (n i : Nat) (h : n + v.length ≤ l.length) : (l.take n ++ v ++ l.drop (n + v.length))[i]? = if n ≤ i ∧ i < n + v.length then v[i - n]? else l[i]? := by
  by_cases h1 : i < n
  · rw [if_neg (by omega), List.append_assoc, List.getElem?_append_left (by simp; omega), List.getElem?_take_of_lt h1]
  · by_cases h2 : i < n + v.length
    · rw [if_pos (by omega), List.getElem?_append_left (by simp; omega), List.getElem?_append_right (by simp; omega)]
      congr 1; simp; omega
    · rw [if_neg (by omega), List.getElem?_append_right (by simp; omega)]
      simp; congr 1; omega
theorem nset_length (H : Heap) (x : Nm) (f : Bool) (cs : List AVal) : (nset H x f cs).length = H.length := by
  cases x with
  | p a => show (upd H a _).length = _; rw [upd_eq, List.length_set]
  | v a i => show (upd H a _).length = _; rw [upd_eq, List.length_set]
theorem nset_wm (H : Heap) (x : Nm) (f : Bool) (cs : List AVal) : ∀ a, (hget (nset H x f cs) a).wm = true → (hget H a).wm = true := by
  intro c hc
  have key : ∀ (a : Nat) (o : AObj), (o.wm = true → (hget H a).wm = true) → (hget (H.set a o) c).wm = true → (hget H c).wm = true := fun a o ho h => by
    rcases Nat.lt_or_ge a H.length with hl | hl
    · rw [hget_set hl] at h; split at h
      · rename_i h'; subst h'; exact ho h
      · exact h
    · rw [List.set_eq_of_length_le hl] at h; exact h
  cases x with
  | p a => exact key a (.row true f cs) (fun h => by cases h) (by rw [← upd_eq]; exact hc)
  | v a i =>
    refine key a _ (fun h => ?_) (by rw [← upd_eq]; exact hc)
    cases ho : hget H a with
    | mat rw rows => rw [ho] at h; exact h
    | _ => rw [ho] at h; cases h
theorem mat_of_inner {o : AObj} {i : Nat} {rw f : Bool} {cs : List AVal} (h : inner i o = .row rw f cs) : ∃ rows, o = .mat rw rows ∧ rows[i]? = some (some cs) ∧ f = true := by
  cases o with
  | mat rw2 rows =>
    rw [inner_mat] at h
    cases hr : rows[i]? with
    | none => rw [hr] at h; cases h
    | some r => cases r with
      | none => rw [hr] at h; cases h
      | some cs1 => rw [hr] at h; cases h; exact ⟨rows, rfl, hr, rfl⟩
  | _ => cases h
theorem nset_at {H : Heap} {x : Nm} {rw f0 f : Bool} {cs0 cs : List AVal} (hx : nget H x = .row rw f0 cs0) (hf : ∀ a i, x = .v a i → f = true) (hrw : rw = true) : nget (nset H x f cs) x = .row true f cs := by
  subst hrw
  have hxl := nget_live (H := H) (x := x) (by rw [hx]; intro h; cases h)
  cases x with
  | p a =>
    have hxl : a < H.length := hxl
    show nget (upd H a _) (.p a) = _; rw [upd_eq, nget_set hxl]; simp
  | v a i =>
    have hxl : a < H.length := hxl
    have hft := hf a i rfl
    subst hft
    obtain ⟨rows, ho, hi, _⟩ := mat_of_inner hx
    show nget (upd H a _) (.v a i) = _
    rw [upd_eq, nget_set hxl, ho]
    have hset : setIn i cs (.mat true rows) = .mat true (rows.set i (some cs)) := by show AObj.mat true (upd rows i (some cs)) = _; rw [upd_eq]
    rw [hset]
    simp [inner_mat, (List.getElem?_eq_some_iff.1 hi).1]
theorem nset_like {H : Heap} {x : Nm} {rw f0 f : Bool} {cs0 cs : List AVal} (hx : nget H x = .row rw f0 cs0) (hlen : cs.length = cs0.length) (hfl : ∀ a i, x = .v a i → AVal.flatL cs = true) (hr : ∀ a rw rows (i : Nat) cs, hget H a = .mat rw rows → rows[i]? = some (some cs) → AVal.flatL cs = true) :
    ∀ y, y ≠ x → Like (nget H y) (nget (nset H x f cs) y) := by
  intro y hy
  have hxl := nget_live (H := H) (x := x) (by rw [hx]; intro h; cases h)
  cases x with
  | p a =>
    have hxl : a < H.length := hxl
    left
    show nget (upd H a _) y = _
    rw [upd_eq, nget_set hxl]
    cases y with
    | p b =>
      have : b ≠ a := fun h => hy (by subst h; rfl)
      simp [this]
    | v b i =>
      by_cases h : b = a
      · subst h
        rw [nget_p] at hx
        simp [hx, inner]
      · simp [h]
  | v a i =>
    have hxl : a < H.length := hxl
    obtain ⟨rows, ho, hi, _⟩ := mat_of_inner hx
    have hil := (List.getElem?_eq_some_iff.1 hi).1
    have hset : setIn i cs (.mat rw rows) = .mat rw (rows.set i (some cs)) := by show AObj.mat rw (upd rows i (some cs)) = _; rw [upd_eq]
    have e1 : ∀ z, nget (nset H (.v a i) f cs) z = if z.base = a then see z (.mat rw (rows.set i (some cs))) else nget H z := fun z => by
      show nget (upd H a _) z = _
      rw [upd_eq, nget_set hxl, ho, hset]
    rw [e1]
    cases y with
    | p b =>
      by_cases h : b = a
      · subst h
        right
        refine ⟨rw, rows, rows.set i (some cs), ho, by simp, fun b' => List.ext_getElem? fun j => ?_, fun j hj => ?_, fun j cs' hj => ?_⟩
        · rw [hdrs_get, hdrs_get]
          by_cases hj : i = j
          · subst hj
            rw [List.getElem?_set_self hil, hi]
            simp only [Option.map_some]
            show some (AVal.slice _ _ (len cs) (len cs) _ _) = some (AVal.slice _ _ (len cs0) (len cs0) _ _)
            rw [len_eq, len_eq, hlen]
          · rw [List.getElem?_set_ne hj]
        · by_cases h : i = j
          · subst h; rw [List.getElem?_set_self hil] at hj; cases hj
          · rwa [List.getElem?_set_ne h] at hj
        · by_cases h : i = j
          · subst h; rw [List.getElem?_set_self hil] at hj; cases hj; exact hfl _ _ rfl
          · rw [List.getElem?_set_ne h] at hj; exact hr _ rw rows j cs' ho hj
      · left; simp [h]
    | v b j =>
      left
      by_cases h : b = a
      · subst h
        have hij : i ≠ j := fun h => hy (by subst h; rfl)
        simp [inner_mat, ho, List.getElem?_set_ne hij]
      · simp [h]
theorem store_run {t : TypeId} {sz : Nat} (h1 : sizeIs P t sz = true) {p v : AVal} {x y : Value} (hs : SR C ρ H w) (hp : VR ρ p x) (hv : VR ρ v y) {H' : Heap} (h : astore H sz p v = some H') :
    ∃ w', (Instr.storeAt t x y).run P w = .ok () w' ∧ Step C H.length ρ H w ρ H' w' ∧ H'.length = H.length := by
  obtain ⟨q, hq, h⟩ := ob_eq h
  obtain ⟨r, hr, h⟩ := ob_eq h
  obtain ⟨hb, h⟩ := ite'_some h
  obtain ⟨cs', hw, h⟩ := ob_eq h
  cases h
  obtain ⟨rw_, fl, cs⟩ := r
  have hww : writeAt v.cells cs q.2 = some cs' := hw
  clear hw
  simp at hb
  obtain ⟨rfl, hlen, hsz0, hone, hmay⟩ := hb
  rw [asPtr_some hq] at hp
  cases hp with | ptr _ _ hn =>
  have hgo := rowOf_some hr
  have hob := hs.obj q.1
  rw [hgo] at hob
  have hob : RowR ρ (ρ.g q.1) true fl cs w := hob
  have hcs0 : cs ≠ [] := by
    intro h0
    rw [h0] at hww
    cases hvc : v.cells with
    | nil =>
      rw [hvc] at hlen
      have h3 : sz = 0 := by simpa using hlen.symm
      rw [h3] at hsz0; cases hsz0
    | cons u us =>
      rw [hvc] at hww
      have h2 : ite' (Nat.blt q.2 0) (writeAt us (upd [] q.2 u) (Nat.succ q.2)) none = some cs' := hww
      have h1 : Nat.blt q.2 0 = false := by
        cases hb : Nat.blt q.2 0 with
        | false => rfl
        | true => exact absurd (Nat.le_of_ble_eq_true hb) (by omega)
      rw [h1] at h2; cases h2
  obtain ⟨hown, hroom, cur, el, hcur, hsize⟩ := hob.rw rfl hcs0
  obtain ⟨hvl, hv1⟩ := hv.cells hone
  obtain ⟨i, hi, hsz⟩ := sizeIs_run h1
  obtain ⟨hw1, hw2, hw3⟩ := writeAt_get hww
  have hvlen := hvl.length
  have hyl : y.cells.size = sz := by rw [← hlen, hvlen]; simp
  -- where nothing is written nothing happens
  have hfit : v.cells ≠ [] → (ρ.g q.1).o + q.2 + y.cells.toList.length ≤ cur.size := fun hne => by
    have := hw2 hne; simp at hvlen ⊢; omega
  have hst : ∃ w', (storeCells ⟨(ρ.g q.1).b, (ρ.g q.1).o + q.2, none⟩ y.cells.toList).run P w = .ok () w' ∧ w'.os = w.os ∧ w'.tape = w.tape ∧ w'.output = w.output ∧ w'.heap.size = w.heap.size ∧
      (∀ k, k ≠ (ρ.g q.1).b → w'.heap[k]? = w.heap[k]?) ∧ ∃ cur', w'.heap[(ρ.g q.1).b]? = some (.cells cur' el (0, 0)) ∧ cur'.size = cur.size ∧
        ∀ k, cur'[k]? = if (ρ.g q.1).o + q.2 ≤ k ∧ k < (ρ.g q.1).o + q.2 + v.cells.length then y.cells.toList[k - ((ρ.g q.1).o + q.2)]? else cur[k]? := by
    by_cases hne : v.cells = []
    · have : y.cells.toList = [] := by
        have h0 := hvl.length; rw [hne] at h0; exact List.eq_nil_of_length_eq_zero h0.symm
      rw [this]
      refine ⟨w, rfl, rfl, rfl, rfl, rfl, fun _ _ => rfl, cur, hcur, rfl, fun k => by rw [hne, if_neg (by simp only [List.length_nil]; omega)]⟩
    · have hf := hfit hne
      have := run_storeCells_at P (ρ.g q.1).b ((ρ.g q.1).o + q.2) el y.cells.toList 0 cur w hcur (by simpa using hf) hv1
      simp only [Nat.add_zero] at this
      refine ⟨_, this, rfl, rfl, rfl, setRow_size .., fun k hk => setRow_other w _ k _ hk, _, setRow_heap w _ cur _ el (0, 0) hcur, ?_, fun k => ?_⟩
      · simp at hf ⊢; omega
      · have := splice_get cur.toList y.cells.toList ((ρ.g q.1).o + q.2) k (by simpa using hf)
        rw [hvlen]
        simpa using this
  obtain ⟨w', hw', g1, g2, g3, g4, g5, cur', g6, g7, g8⟩ := hst
  refine ⟨w', ?_, ?_, nset_length ..⟩
  · simp [Instr.storeAt, Instr.sureAddr, storeVar, run_sizeOf' hi, hsz, hyl, hw']
  · have hcs1 : cs' ≠ [] := fun hn => hcs0 (List.eq_nil_of_length_eq_zero (by rw [← hw1, hn]; rfl))
    have hcsf : andB fl (AVal.flatL v.cells) = true → AVal.flatL cs' = true := fun hf => by
      simp at hf
      have hfl := hob.flat hf.1
      rw [flatL_iff] at hfl ⊢
      have hfv := (flatL_iff _).1 hf.2
      intro u hu
      obtain ⟨k, hk⟩ := List.getElem?_of_mem hu
      rw [hw3] at hk
      split at hk
      · exact hfv u (List.mem_of_getElem? hk)
      · exact hfl u (List.mem_of_getElem? hk)
    have hfl1 : ∀ b j, q.1 = .v b j → fl = true ∧ AVal.flatL v.cells = true := fun b j hq1 => by
      rw [hq1] at hmay hgo
      refine ⟨?_, hmay⟩
      rw [nget_v] at hgo
      cases ho : hget H b with
      | mat rw2 rows =>
        rw [ho, inner_mat] at hgo
        split at hgo
        · cases hgo; rfl
        · cases hgo
      | _ => rw [ho] at hgo; cases hgo
    refine step_set hs g1 g2 g3 g4 q.1 (by rw [hgo]; simpa [AObj.isRw] using hcs0) g5 _ (nset_length ..) (.row true (andB fl (AVal.flatL v.cells)) cs') ?_ (by simpa [AObj.live] using hcs1)
      (nset_at hgo (fun b j hq1 => by obtain ⟨h1, h2⟩ := hfl1 b j hq1; rw [h1, h2]; rfl) rfl)
      (nset_like hgo hw1 (fun b j hq1 => hcsf (by obtain ⟨h1, h2⟩ := hfl1 b j hq1; rw [h1, h2]; rfl)) (fun b rw2 rows j cs2 hb2 hj => by have := hs.obj (.p b); rw [nget_p, hb2] at this; exact this.2.flat j cs2 hj)) (nset_wm H _ _ _)
    show RowR ρ (ρ.g q.1) true (andB fl (AVal.flatL v.cells)) cs' w'
    refine ⟨fun k u hu => ?_, fun hf => ?_, fun _ _ => ⟨hown, by rw [hw1]; exact hroom, cur', el, g6, by rw [g7]; exact hsize⟩, fun _ hn => absurd (List.eq_nil_of_length_eq_zero (by rw [← hw1, hn]; rfl)) hcs0⟩
    · have hc : ∀ j, w'.cell? ⟨(ρ.g q.1).b, j, none⟩ = cur'[j]? := fun j => cell_of_row w' _ j cur' el (0, 0) g6
      rw [hc, g8]
      rw [hw3] at hu
      by_cases hk : q.2 ≤ k ∧ k < q.2 + v.cells.length
      · rw [if_pos hk] at hu
        rw [if_pos (by omega)]
        obtain ⟨z, hz, hr⟩ := hvl.get hu
        refine ⟨z, ?_, hv1 z (List.mem_of_getElem? hz), hr⟩
        rw [show (ρ.g q.1).o + k - ((ρ.g q.1).o + q.2) = k - q.2 from by omega]; exact hz
      · rw [if_neg hk] at hu
        rw [if_neg (by omega)]
        obtain ⟨z, hz, h1, h2⟩ := hob.cell k u hu
        rw [cell_of_row w _ _ cur el (0, 0) hcur] at hz
        exact ⟨z, hz, h1, h2⟩
    · exact hcsf hf
theorem op_store {t : TypeId} {sz : Nat} {x z : Opnd} {x' z' : Operand} (hs : SR C ρ H w) (he : ER ρ N e a.tmps) (h1 : sizeIs P t sz = true) (h2 : opndOk x x' = true) (h3 : opndOk z z' = true) {v : AVal} {H' : Heap}
    (hr : oStore sz x z e H = some (v, H')) : OpRun C P (do Instr.storeAt t (a.eval x') (a.eval z'); pure .skip) ρ H w v H' := by
  obtain ⟨K, hK, hr⟩ := ob_eq hr
  cases hr
  obtain ⟨w', hw', hst, hl⟩ := store_run (P := P) h1 hs (opnd_VR h2 he) (opnd_VR h3 he) hK
  exact ⟨.skip, w', undef, ρ, unit_run hw', .inr ⟨rfl, rfl⟩, .tup [] [] .nil, hst, by omega⟩
end
end Go.AI
