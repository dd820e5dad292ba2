/-
  OPERATIONS, ONE BY ONE (eighth part): append.
-/
import Derived.Test.YtcghmpalmedkiaaLAiOpG
import Derived.Laws.IdiomStrings
set_option linter.unusedVariables false
set_option linter.unusedSimpArgs false
namespace Go.AI
section
variable {C : ACode → Code → Nat → Prop} {P : Program} {ρ : Rho} {H : Heap} {w : World} {N : Nat} {e : Env} {a : Act}
theorem step_hand {w' : World} (hs : SR C ρ H w) (h1 : w'.os = w.os) (h2 : w'.tape = w.tape) (h3 : w'.output = w.output) (h4 : w'.heap.size = w.heap.size)
    (a : Nat) (ha : (hget H a).isRw = true) (hi0 : ∀ i, inner i (hget H a) = .dead) (hf : ∀ i, i ≠ (ρ.g (.p a)).b → w'.heap[i]? = w.heap[i]?) (g : Geo) (hg : g.b = (ρ.g (.p a)).b) (o : AObj) (ho : OR C (ρ.push g) (.p ρ.n) w' o) (hi : ∀ i, inner i o = .dead := by intro; rfl) :
    Step C H.length ρ H w (ρ.push g) (H.set a .dead ++ [o]) w' := by
  have hal : a < H.length := hget_live (live_ne (isRw_live ha))
  refine step_move hs h1 h2 h3 (by omega) (fun c => c = .p a) (by simp) (fun c => ?_) (fun c hc => by subst hc; rw [nget_set hal]; simp) (fun i _ hn => hf i fun e => hn (.p a) rfl ha e.symm) (geoP g) o (fun y hy hl => ?_) (fun y z hy hz hyz hly hlz => ?_) (fun y hy => ?_)
  · rw [nget_set hal]; split
    · exact .inr (see_dead c)
    · rename_i h; exact .inl ⟨rfl, fun e => h (by rw [e]; rfl)⟩
  · cases y with
    | p b => exact .inr ⟨.p a, rfl, ha, hg.symm⟩
    | v b i => rw [see_v, hi] at hl; cases hl
  · cases y with
    | p b => cases z with
      | p c => exact absurd (by rw [base_p] at hy hz; rw [hy, hz]) hyz
      | v c i => rw [see_v, hi] at hlz; cases hlz
    | v b i => rw [see_v, hi] at hly; cases hly
  · cases y with
    | p b => rw [base_p, ← hs.n] at hy; subst hy; exact ho
    | v b i => rw [see_v, hi]; trivial
theorem run_append_room' (t ty e el : TypeId) (i : TypeInfo) (ht : P.underlying t = some (.slice e)) (hi : P.info? e = some i)
    (g o sLen sCap : Nat) (cur : Array Value) (hg : w.heap[g]? = some (.cells cur el (0, 0)))
    (a : Addr) (m c : Nat) (news : List Value) (hl : news.length = m * i.size) (hnews : ∀ j u, news[j]? = some u → w.cell? (a.add j) = some u) (h1 : ∀ u ∈ news, u.oneCell' = true)
    (hroom : sLen + m ≤ sCap) (hfit : o + sLen * i.size + news.length ≤ cur.size) :
    (Builtin.append_ #[t, t] ty #[.slice (some ⟨g, o, none⟩) sLen sCap, .slice (some a) m c]).run P w =
      .ok (.slice (some ⟨g, o, none⟩) (sLen + m) sCap) (w.setRow g (cur.toList.take (o + sLen * i.size) ++ news ++ cur.toList.drop (o + sLen * i.size + news.length)).toArray) := by
  have hf := run_firstCells_some (P := P) w i.size m a m c news hl hnews
  have hst := run_storeCells_at P g (o + sLen * i.size) el news 0 cur w hg (by simpa using hfit) h1
  simp only [Nat.add_zero] at hst
  simp [Builtin.append_, run_underlying ht, sizeOf, typeInfo, hi, Builtin.lenOf, hroom, hf, Addr.add_lit, hst]
theorem run_append_none (t ty e : TypeId) (i : TypeInfo) (ht : P.underlying t = some (.slice e)) (hi : P.info? e = some i) (A B : Option Addr) (n c c' : Nat) (h : n ≤ c) :
    (Builtin.append_ #[t, t] ty #[.slice A n c, .slice B 0 c']).run P w = .ok (.slice A n c) w := by
  cases A <;> cases B <;> simp [Builtin.append_, run_underlying ht, sizeOf, typeInfo, hi, Builtin.lenOf, Builtin.firstCells, h, storeCells, loadCells, loadCellsFrom]
theorem src_run {sz : Nat} {x : AVal} {X : Value} {p : Nat × List AVal} (hs : SR C ρ H w) (hx : VR ρ x X) (h : srcCells H sz x = some p) :
    ∃ A c news, X = .slice A p.1 c ∧ VRL ρ p.2 news ∧ (∀ u ∈ news, u.oneCell' = true) ∧ news.length = p.1 * sz ∧ (0 < p.1 → ∃ ad, A = some ad ∧ ∀ j u, news[j]? = some u → w.cell? (ad.add j) = some u) := by
  unfold srcCells at h
  cases hsl : asSl x with
  | none =>
    rw [hsl] at h
    obtain ⟨hn, h⟩ := ite'_some h
    cases h
    rw [isNilS_true hn] at hx; cases hx
    exact ⟨none, 0, [], rfl, .nil, by simp, by simp, fun h => absurd h (by simp)⟩
  | some s =>
    rw [hsl] at h
    rw [asSl_some hsl] at hx
    cases hx with | slice _ _ _ _ _ _ A cap' hn g1 g2 g3 g4 g5 =>
    have h : Option.rec (motive := fun _ => Option (Nat × List AVal)) (ite' (Nat.beq s.len 0) (some (0, [])) none) (fun r => ob (readAt (Nat.mul s.len sz) r.2.2 s.off) fun vs => some (s.len, vs)) (rowOf (nget H s.a)) = some p := h
    cases hr : rowOf (nget H s.a) with
    | none =>
      rw [hr] at h
      obtain ⟨hb, h⟩ := ite'_some (h : ite' (Nat.beq s.len 0) (some (0, [])) none = some p)
      cases h
      have := Nat.eq_of_beq_eq_true hb
      exact ⟨A, cap', [], by rw [this], .nil, by simp, by simp, fun h => absurd h (by simp)⟩
    | some r =>
      rw [hr] at h
      obtain ⟨vs, hvs, h⟩ := ob_eq (h : ob (readAt (Nat.mul s.len sz) r.2.2 s.off) (fun vs => some (s.len, vs)) = some p)
      cases h
      have hob := hs.obj s.a
      rw [rowOf_some hr] at hob
      have hob : RowR ρ (ρ.g s.a) r.1 r.2.1 r.2.2 w := hob
      obtain ⟨xs, h1, h2, h3⟩ := hob.read hvs
      refine ⟨A, cap', xs, rfl, h1, fun u hu => ?_, h2, fun h0 => ⟨_, g3 (Nat.lt_of_lt_of_le h0 g5), fun j u hj => ?_⟩⟩
      · obtain ⟨j, hj⟩ := List.getElem?_of_mem hu; exact (h3 j u hj).2
      · rw [add_none]; exact (h3 j u hj).1
theorem flat_both {f : Bool} {us vs : List AVal} (hus : f = true → AVal.flatL us = true) (h : andB f (AVal.flatL vs) = true) : AVal.flatL (us ++ vs) = true := by
  simp at h
  have h1 := hus h.1
  rw [flatL_iff] at h1 ⊢
  have h2 := (flatL_iff _).1 h.2
  intro v hv
  rcases List.mem_append.1 hv with hv | hv
  · exact h1 v hv
  · exact h2 v hv
theorem one_both {us vs : List Value} (h1 : ∀ u ∈ us, u.oneCell' = true) (h2 : ∀ u ∈ vs, u.oneCell' = true) : ∀ u ∈ us ++ vs, u.oneCell' = true := fun u hu => by
  rcases List.mem_append.1 hu with hu | hu
  · exact h1 u hu
  · exact h2 u hu
theorem nbytes {n b : Nat} (hb : 0 < b) (h : n * b ≤ 140737488355328) : (n : Int) ≤ 9223372036854775807 := by
  have := Nat.le_mul_of_pos_right n hb
  omega
theorem grown_row {s : Sem Next} {t ty el : TypeId} {it : TypeInfo} {z : Value} {us vs : List AVal} {olds news : List Value} {n m sz old : Nat} {f : Bool} (hs : SR C ρ H w) (ho : VRL ρ us olds) (hn : VRL ρ vs news)
    (o1 : ∀ u ∈ olds, u.oneCell' = true) (n1 : ∀ u ∈ news, u.oneCell' = true) (hlo : olds.length = n * sz) (hln : news.length = m * sz) (hf : f = true → AVal.flatL (us ++ vs) = true) (hzs : z.cells.size = sz) (hgt : old < n + m) (h0 : 0 < sz)
    (hrun : s.run P w = .ok (.value (.slice (some ⟨w.heap.size, 0, none⟩) (n + m) (grownCap w (n + m) old el)))
      (w.drew.alloc (.cells (olds.toArray ++ news.toArray ++ Builtin.zeroCells z.cells (grownCap w (n + m) old el - (n + m))) el))) :
    OpRun C P s ρ H w (.slice (.p H.length) 0 (n + m) (n + m) sz false) (H ++ [.row true f (us ++ vs)]) := by
  have hge : n + m ≤ grownCap w (n + m) old el := grownCap_ge w (n + m) old el
  refine op_newRow (cs := us ++ vs) (xs := olds ++ news) (f := f) (w0 := w.drew) hs (ho.append hn) (one_both o1 n1) hf (Builtin.zeroCells z.cells (grownCap w (n + m) old el - (n + m))) (fun hn => absurd (congrArg List.length hn) (by
      rw [List.length_append, hlo, hln, ← Nat.add_mul]
      have : 0 < (n + m) * sz := Nat.mul_pos (by omega) h0
      simp only [List.length_nil]; omega)) el rfl rfl rfl rfl
    (r := .value (.slice (some ⟨w.heap.size, 0, none⟩) (n + m) (grownCap w (n + m) old el))) (x := .slice (some ⟨w.heap.size, 0, none⟩) (n + m) (grownCap w (n + m) old el)) ?_ rfl ?_
  · rw [hrun]; congr 3; simp
  · have hsize : (olds ++ news).length + (Builtin.zeroCells z.cells (grownCap w (n + m) old el - (n + m))).size = grownCap w (n + m) old el * sz := by
      rw [List.length_append, hlo, hln, size_zeroCells, hzs, ← Nat.add_mul, ← Nat.add_mul]
      congr 1; omega
    have := VR.slice (ρ := ρ.push ⟨w.heap.size, 0, (olds ++ news).length + (Builtin.zeroCells z.cells (grownCap w (n + m) old el - (n + m))).size, true, true⟩) (.p H.length) 0 (n + m) (n + m) sz false (some ⟨w.heap.size, 0, none⟩) (grownCap w (n + m) old el)
      (push_ok hs) hge (fun h => by cases h) (fun _ => by rw [← hs.n, Rho.push_new]) (fun _ => by rw [← hs.n, Rho.push_new, hsize]; simp) hge
    exact this
theorem op_app {t ty el : TypeId} {sz b : Nat} {z : List AVal} {s x : AVal} {S X : Value} (hs : SR C ρ H w) (ht : sliceOf P t el = true) (hsz : sizeIs P el sz = true) (hb : bytesIs P el b = true) (hz : zeroIs P el z = true)
    (hb0 : 0 < b) (h0 : 0 < sz) (hS : VR ρ s S) (hX : VR ρ x X) {v : AVal} {H' : Heap} (hr : aappend H sz b s x = some (v, H')) :
    OpRun C P (do pure (.value (← Builtin.append_ #[t, t] ty #[S, X]))) ρ H w v H' := by
  obtain ⟨p, hp, hr⟩ := ob_eq hr
  obtain ⟨hone, hr⟩ := ite'_some hr
  obtain ⟨B, c, news, rfl, hnv, hn1, hnl, hnc⟩ := src_run hs hX hp
  obtain ⟨it, zv, hi, hzv, hcz, hzs⟩ := zeroIs_run hz
  obtain ⟨it', hi', hsz'⟩ := sizeIs_run hsz
  rw [hi] at hi'; cases hi'
  have hbb := bytesIs_run hi hb
  have hu := sliceOf_run ht
  have hzs' : zv.cells.size = sz := by rw [hzs, hsz']
  subst hsz'
  cases hsl : asSl s with
  | none =>
    rw [hsl] at hr
    obtain ⟨hnil, hr⟩ := ite'_some hr
    rw [isNilS_true hnil] at hS; cases hS
    cases hp0 : Nat.beq p.1 0 with
    | true =>
      rw [hp0] at hr; cases hr
      have e0 := Nat.eq_of_beq_eq_true hp0
      rw [e0]
      exact .pure hs (val_run (run_append_none t ty el it hu hi none B 0 0 c (Nat.le_refl _))) .nilSlice
    | false =>
      rw [hp0] at hr
      obtain ⟨hfit, hr⟩ := ite'_some hr
      cases hr
      have hfit : p.1 * b ≤ 140737488355328 := Nat.le_of_ble_eq_true hfit
      have hpos : 0 < p.1 := by
        rcases Nat.eq_zero_or_pos p.1 with h | h
        · rw [h] at hp0; cases hp0
        · exact h
      obtain ⟨ad, rfl, hcell⟩ := hnc hpos
      have hrun := run_append_nil (P := P) w t ty el it zv hu hi hzv ad p.1 c news hnl hcell hpos (nbytes hb0 hfit) (by rw [hbb]; omega)
      have := grown_row (P := P) (s := do pure (.value (← Builtin.append_ #[t, t] ty #[.slice none 0 0, .slice (some ad) p.1 c]))) (t := t) (ty := ty) (it := it) (us := []) (olds := []) (n := 0) (m := p.1) (old := 0) (f := AVal.flatL p.2) (z := zv) (el := el) hs .nil hnv (by simp) hn1 (by simp) hnl (by simp) hzs' (by omega) h0
        (val_run (by rw [hrun]; simp))
      simpa [newRow] using this
  | some sl =>
    rw [hsl] at hr
    rw [asSl_some hsl] at hS
    cases hS with | slice _ _ _ _ _ _ A cap' hn g1 g2 g3 g4 g5 =>
    have hr : appSl H it.size b sl p.1 p.2 = some (v, H') := hr
    unfold appSl at hr
    cases hp0 : andB (Nat.beq p.1 0) (notB (andB sl.ex (Nat.beq sl.len 0))) with
    | true =>
      rw [hp0] at hr; cases hr
      simp only [andB_eq, Bool.and_eq_true] at hp0
      have e0 := Nat.eq_of_beq_eq_true hp0.1
      rw [e0]
      exact .pure hs (val_run (run_append_none t ty el it hu hi A B sl.len cap' c g5)) (.slice _ _ _ _ _ _ A cap' hn g1 g2 g3 g4 g5)
    | false =>
      rw [hp0] at hr
      have hr : ite' (andB (andB (Nat.beq it.size sl.sz) (Nat.beq sl.len sl.cap)) (Nat.ble (Nat.mul (Nat.add sl.len p.1) b) roomBytes))
        (ob (rowOf (nget H sl.a)) fun r => ob (readAt (Nat.mul sl.len it.size) r.2.2 sl.off) fun us =>
          ite' (oneL us)
            (ite' sl.ex (some (AVal.slice (.p (len H)) 0 (Nat.add sl.len p.1) (Nat.add sl.len p.1) it.size false, apd H [AObj.row true (andB r.2.1 (AVal.flatL p.2)) (apd us p.2)]))
              (ob sl.a.plain fun a => ite' (andB r.1 (Nat.beq (Nat.add sl.off (Nat.mul sl.len it.size)) (len r.2.2)))
                (some (AVal.slice (.p (len H)) 0 (Nat.add sl.len p.1) (Nat.add sl.len p.1) it.size false, apd (upd H a .dead) [AObj.row true (andB r.2.1 (AVal.flatL p.2)) (apd us p.2)])) none)) none)
        (ite' (andB (notB (Nat.beq p.1 0)) (andB (Nat.beq it.size sl.sz) (Nat.ble (Nat.add sl.len p.1) sl.cap)))
          (ob (putRow H sl.a (Nat.add sl.off (Nat.mul sl.len it.size)) p.2) fun H' => some (AVal.slice sl.a sl.off (Nat.add sl.len p.1) sl.cap sl.sz sl.ex, H')) none) = some (v, H') := hr
      cases hmain : andB (andB (Nat.beq it.size sl.sz) (Nat.beq sl.len sl.cap)) (Nat.ble (Nat.mul (Nat.add sl.len p.1) b) roomBytes) with
      | false =>
        rw [hmain] at hr
        obtain ⟨hin, hr⟩ := ite'_some (by exact hr : ite' (andB (notB (Nat.beq p.1 0)) (andB (Nat.beq it.size sl.sz) (Nat.ble (Nat.add sl.len p.1) sl.cap)))
          (ob (putRow H sl.a (Nat.add sl.off (Nat.mul sl.len it.size)) p.2) fun H' => some (AVal.slice sl.a sl.off (Nat.add sl.len p.1) sl.cap sl.sz sl.ex, H')) none = some (v, H'))
        -- in its own row, which is long enough
        obtain ⟨H1, hput, hr⟩ := ob_eq (by exact hr : ob (putRow H sl.a (Nat.add sl.off (Nat.mul sl.len it.size)) p.2) (fun H' => some (AVal.slice sl.a sl.off (Nat.add sl.len p.1) sl.cap sl.sz sl.ex, H')) = some (v, H'))
        cases hr
        simp only [andB_eq, notB_eq, Bool.and_eq_true, Bool.not_eq_true'] at hin
        obtain ⟨i1, i2, i3⟩ := hin
        have i2 := Nat.eq_of_beq_eq_true i2
        have i3 : sl.len + p.1 ≤ sl.cap := Nat.le_of_ble_eq_true i3
        have hpos : 0 < p.1 := by
          rcases Nat.eq_zero_or_pos p.1 with h | h
          · rw [h] at i1; cases i1
          · exact h
        obtain ⟨ad, rfl, hcell⟩ := hnc hpos
        have hvne : p.2 ≠ [] := fun h => by
          have h1 := hnv.length
          have h2 : 0 < p.1 * it.size := Nat.mul_pos hpos h0
          rw [h, hnl] at h1; simp only [List.length_nil] at h1; omega
        obtain ⟨cur, el', hcur, hfit, _, hst, hlen⟩ := putRow_run hs hnv hput hvne
        have hfit : (ρ.g sl.a).o + (sl.off + sl.len * it.size) + news.length ≤ cur.size := hfit
        have hst : Step C H.length ρ H w ρ H' (w.setRow (ρ.g sl.a).b (cur.toList.take ((ρ.g sl.a).o + (sl.off + sl.len * it.size)) ++ news ++ cur.toList.drop ((ρ.g sl.a).o + (sl.off + sl.len * it.size) + news.length)).toArray) := hst
        have hA := g3 (by omega)
        subst hA
        have hrun := run_append_room' (P := P) (w := w) t ty el el' it hu hi (ρ.g sl.a).b ((ρ.g sl.a).o + sl.off) sl.len cap' cur hcur ad p.1 c news hnl hcell hn1 (by omega) (by omega)
        rw [Nat.add_assoc (ρ.g sl.a).o] at hrun
        refine ⟨_, _, _, ρ, val_run hrun, .inl rfl, ?_, hst, by omega⟩
        exact .slice sl.a sl.off (sl.len + p.1) sl.cap sl.sz sl.ex _ cap' hn g1 g2 g3 g4 (by omega)
      | true =>
      rw [hmain] at hr
      have hcnd := hmain
      have hr : (ob (rowOf (nget H sl.a)) fun r => ob (readAt (Nat.mul sl.len it.size) r.2.2 sl.off) fun us =>
          ite' (oneL us)
            (ite' sl.ex (some (AVal.slice (.p (len H)) 0 (Nat.add sl.len p.1) (Nat.add sl.len p.1) it.size false, apd H [AObj.row true (andB r.2.1 (AVal.flatL p.2)) (apd us p.2)]))
              (ob sl.a.plain fun a => ite' (andB r.1 (Nat.beq (Nat.add sl.off (Nat.mul sl.len it.size)) (len r.2.2)))
                (some (AVal.slice (.p (len H)) 0 (Nat.add sl.len p.1) (Nat.add sl.len p.1) it.size false, apd (upd H a .dead) [AObj.row true (andB r.2.1 (AVal.flatL p.2)) (apd us p.2)])) none)) none) = some (v, H') := hr
      by_cases hz0 : p.1 = 0
      · -- nothing is appended to nothing
        rw [hz0] at hp0
        have hp0 : notB (andB sl.ex (Nat.beq sl.len 0)) = false := by simpa using hp0
        simp only [notB_eq, andB_eq, Bool.not_eq_false', Bool.and_eq_true] at hp0
        obtain ⟨hex, hl0⟩ := hp0
        have hl0 := Nat.eq_of_beq_eq_true hl0
        simp only [andB_eq, Bool.and_eq_true] at hcnd
        have hc0 := Nat.eq_of_beq_eq_true hcnd.1.2
        obtain ⟨r, hrow, hr⟩ := ob_eq hr
        obtain ⟨us, hus, hr⟩ := ob_eq hr
        obtain ⟨hone2, hr⟩ := ite'_some hr
        rw [hex] at hr; cases hr
        have hus0 : us = [] := by
          have := (readAt_get hus).1
          rw [hl0] at this; exact List.eq_nil_of_length_eq_zero (by simpa using this)
        have hvs0 : p.2 = [] := by
          have := hnv.length; rw [hnl, hz0] at this; exact List.eq_nil_of_length_eq_zero (by simpa using this)
        have hcap : cap' = 0 := by rw [g2 hex, ← hc0, hl0]
        subst hcap
        rw [hus0, hvs0, hz0, hl0]
        refine ⟨_, w, .slice A 0 0, ρ.push ⟨w.heap.size, 0, 0, true, true⟩, val_run (run_append_none t ty el it hu hi A B 0 0 c (Nat.le_refl _)), .inl rfl, ?_, ?_, by simp⟩
        · have hg : (ρ.push ⟨w.heap.size, 0, 0, true, true⟩).g (.p H.length) = ⟨w.heap.size, 0, 0, true, true⟩ := by rw [← hs.n, Rho.push_new]
          rw [len_eq]
          exact .slice _ _ _ _ _ _ A 0 (push_ok hs) (Nat.le_refl _) (fun h => by cases h) (fun h => absurd h (by omega)) (fun _ => by rw [hg]; simp) (Nat.le_refl _)
        · rw [apd_eq]
          refine step_push hs rfl rfl rfl (Nat.le_refl _) (fun _ _ => rfl) ⟨w.heap.size, 0, 0, true, true⟩ _ (Nat.le_refl _) ?_
          show RowR _ ((ρ.push _).g (.p ρ.n)) true _ _ w
          rw [Rho.push_new]
          exact ⟨fun i v hv => by simp at hv, fun _ => rfl, fun _ hne => absurd rfl hne, fun _ _ => ⟨rfl, rfl⟩⟩
      have hp0 : Nat.beq p.1 0 = false := by
        cases hb : Nat.beq p.1 0 with
        | false => rfl
        | true => exact absurd (Nat.eq_of_beq_eq_true hb) hz0
      obtain ⟨r, hrow, hr⟩ := ob_eq hr
      obtain ⟨us, hus, hr⟩ := ob_eq hr
      obtain ⟨hone2, hr⟩ := ite'_some hr
      simp only [andB_eq, Bool.and_eq_true] at hcnd
      obtain ⟨⟨e1, e2⟩, e3⟩ := hcnd
      have e1 := Nat.eq_of_beq_eq_true e1
      have e2 := Nat.eq_of_beq_eq_true e2
      have hfit : (sl.len + p.1) * b ≤ 140737488355328 := Nat.le_of_ble_eq_true e3
      have hpos : 0 < p.1 := by
        rcases Nat.eq_zero_or_pos p.1 with h | h
        · rw [h] at hp0; cases hp0
        · exact h
      obtain ⟨ad, rfl, hcell⟩ := hnc hpos
      have hgo := rowOf_some hrow
      have hob := hs.obj sl.a
      rw [hgo] at hob
      have hob : RowR ρ (ρ.g sl.a) r.1 r.2.1 r.2.2 w := hob
      obtain ⟨olds, ho1, ho2, ho3⟩ := hob.read hus
      have ho2 : olds.length = sl.len * it.size := ho2
      have o1 : ∀ u ∈ olds, u.oneCell' = true := fun u hu => by
        obtain ⟨j, hj⟩ := List.getElem?_of_mem hu; exact (ho3 j u hj).2
      have hflus : r.2.1 = true → AVal.flatL us = true := fun hf => by
        have h1 := hob.flat hf
        rw [flatL_iff] at h1 ⊢
        intro u hu
        obtain ⟨j, hj⟩ := List.getElem?_of_mem hu
        obtain ⟨g1, g2⟩ := readAt_get hus
        have : j < sl.len * it.size := by
          have hl : us.length = sl.len * it.size := g1
          rw [← hl]; exact (List.getElem?_eq_some_iff.1 hj).1
        rw [g2 j this] at hj
        exact h1 u (List.mem_of_getElem? hj)
      have hgrow : cap' < sl.len + p.1 → ∀ (K : Heap) (w0 : World), SR C ρ K w → K.length = H.length →
          OpRun C P (do pure (.value (← Builtin.append_ #[t, t] ty #[.slice A sl.len cap', .slice (some ad) p.1 c]))) ρ K w (.slice (.p K.length) 0 (sl.len + p.1) (sl.len + p.1) it.size false) (K ++ [.row true (andB r.2.1 (AVal.flatL p.2)) (us ++ p.2)]) := by
        intro hgt K w0 hK hKl
        refine grown_row (P := P) (t := t) (ty := ty) (it := it) (olds := olds) (n := sl.len) (m := p.1) (old := cap') (z := zv) (el := el) hK ho1 hnv o1 hn1 ho2 hnl (fun h => flat_both hflus h) hzs' hgt h0 ?_
        have hn63 := nbytes hb0 hfit
        have hg2 := growslice_fits (need := sl.len + p.1) (old := cap') (bytes := b) hgt hfit
        cases A with
        | none =>
          have hc0 : cap' = 0 := by
            rcases Nat.eq_zero_or_pos cap' with h | h
            · exact h
            · cases g3 h
          subst hc0
          have hl0 : sl.len = 0 := by omega
          have hnil : olds = [] := List.eq_nil_of_length_eq_zero (by rw [ho2, hl0]; simp)
          have hrun := run_append_nil (P := P) w t ty el it zv hu hi hzv ad p.1 c news hnl hcell hpos (by omega) (by
            have : p.1 * b ≤ (sl.len + p.1) * b := Nat.mul_le_mul_right _ (by omega)
            rw [hbb]; omega)
          refine val_run ?_
          rw [hl0, hrun, hnil]; simp
        | some ab =>
          have hA : olds = [] ∨ ab = ⟨(ρ.g sl.a).b, (ρ.g sl.a).o + sl.off, none⟩ := by
            rcases Nat.eq_zero_or_pos cap' with h | h
            · exact .inl (List.eq_nil_of_length_eq_zero (by rw [ho2, show sl.len = 0 from by omega]; simp))
            · have := g3 h; cases this; exact .inr rfl
          have hrun := run_append_grow (P := P) w t ty el it zv hu hi hzv ab sl.len cap' olds ho2 (fun j u hj => by
            rcases hA with h | h
            · rw [h] at hj; simp at hj
            · rw [h, add_none]; exact (ho3 j u hj).1) ad p.1 c news hnl hcell hgt hn63 (by rw [hbb]; exact hg2)
          exact val_run hrun
      cases hex : sl.ex with
      | true =>
        rw [hex] at hr; cases hr
        have hc := g2 hex
        have := hgrow (by omega) H w hs rfl
        simpa using this
      | false =>
        rw [hex] at hr
        obtain ⟨sa, hsa, hr⟩ := ob_eq (by exact hr : ob sl.a.plain (fun a => ite' (andB r.1 (Nat.beq (Nat.add sl.off (Nat.mul sl.len it.size)) (len r.2.2))) (some (AVal.slice (.p (len H)) 0 (Nat.add sl.len p.1) (Nat.add sl.len p.1) it.size false, apd (upd H a .dead) [AObj.row true (andB r.2.1 (AVal.flatL p.2)) (apd us p.2)])) none) = some (v, H'))
        have hpl := plain_some hsa
        obtain ⟨hcc, hr⟩ := ite'_some hr
        cases hr
        simp only [andB_eq, Bool.and_eq_true, len_eq] at hcc
        obtain ⟨hrw, hend⟩ := hcc
        have hend : sl.off + sl.len * it.size = r.2.2.length := Nat.eq_of_beq_eq_true hend
        have hal : sl.a.base < H.length := by rw [← hs.n]; exact hn.1
        rcases Nat.lt_or_ge cap' (sl.len + p.1) with hgt | hle
        · -- into new memory
          have hk := step_kill hs sa
          obtain ⟨r1, w', y, ρ', f1, f2, f3, f4, f5⟩ := hgrow hgt _ w hk.sr (by simp)
          refine ⟨r1, w', y, ρ', f1, f2, ?_, ?_, ?_⟩
          · simpa using f3
          · simp only [apd_eq, upd_eq, len_eq] at f4 ⊢
            exact hk.trans (by simpa using f4)
          · simp
        · -- in its own row
          rw [hrw] at hob
          have hown : (ρ.g sl.a).own = true := by
            by_cases hn : r.2.2 = []
            · exact (hob.nil rfl hn).1
            · exact (hob.rw rfl hn).1
          have hA := g3 (by omega)
          subst hA
          have h4 := g4 hown
          have hne : r.2.2 ≠ [] := fun hn => by
            have h5 := (hob.nil rfl hn).2
            have : (sl.len + p.1) * it.size ≤ cap' * it.size := Nat.mul_le_mul_right _ hle
            have : 0 < (sl.len + p.1) * it.size := Nat.mul_pos (by omega) h0
            rw [← e1] at h4
            omega
          obtain ⟨_, hroom, cur, el', hcur, hsize⟩ := hob.rw rfl hne
          have hcs : (sl.len + p.1) * it.size ≤ cap' * it.size := Nat.mul_le_mul_right _ hle
          rw [Nat.add_mul] at hcs
          rw [← e1] at h4
          have hfit2 : (ρ.g sl.a).o + sl.off + sl.len * it.size + news.length ≤ cur.size := by rw [hnl]; omega
          have hrun := run_append_room' (P := P) (w := w) t ty el el' it hu hi (ρ.g sl.a).b ((ρ.g sl.a).o + sl.off) sl.len cap' cur hcur ad p.1 c news hnl hcell hn1 hle hfit2
          have hset := setRow_heap w (ρ.g sl.a).b cur (cur.toList.take ((ρ.g sl.a).o + sl.off + sl.len * it.size) ++ news ++ cur.toList.drop ((ρ.g sl.a).o + sl.off + sl.len * it.size + news.length)).toArray el' (0, 0) hcur
          have hcl := splice_get cur.toList news ((ρ.g sl.a).o + sl.off + sl.len * it.size)
          refine ⟨_, _, _, ρ.push ⟨(ρ.g sl.a).b, (ρ.g sl.a).o + sl.off, (ρ.g sl.a).room - sl.off, true, true⟩, val_run hrun, .inl rfl, ?_, ?_, by simp⟩
          · have := VR.slice (ρ := ρ.push ⟨(ρ.g sl.a).b, (ρ.g sl.a).o + sl.off, (ρ.g sl.a).room - sl.off, true, true⟩) (.p H.length) 0 (sl.len + p.1) (sl.len + p.1) it.size false (some ⟨(ρ.g sl.a).b, (ρ.g sl.a).o + sl.off, none⟩) cap'
              (push_ok hs) hle (fun h => by cases h) (fun _ => by rw [← hs.n, Rho.push_new]; rfl) (fun _ => by rw [← hs.n, Rho.push_new]; simp; omega) hle
            simpa using this
          · simp only [apd_eq, upd_eq, len_eq]
            refine step_hand (w' := w.setRow (ρ.g sl.a).b (cur.toList.take ((ρ.g sl.a).o + sl.off + sl.len * it.size) ++ news ++ cur.toList.drop ((ρ.g sl.a).o + sl.off + sl.len * it.size + news.length)).toArray) hs rfl rfl rfl (setRow_size ..) sa (by rw [← nget_p, ← hpl, hgo]; simp [AObj.isRw, hrw, hne]) (fun i => by rw [← nget_p, ← hpl, hgo]; rfl) (fun k hk => setRow_other w _ k _ (by rw [hpl]; exact hk)) ⟨(ρ.g sl.a).b, (ρ.g sl.a).o + sl.off, (ρ.g sl.a).room - sl.off, true, true⟩ (by rw [hpl]) _ ?_
            show RowR _ ((ρ.push _).g (.p ρ.n)) true _ _ _
            rw [Rho.push_new]
            have hml := hnv.length
            have hul : us.length = sl.len * it.size := (readAt_get hus).1
            refine ⟨fun k u hk => ?_, fun h => flat_both hflus h, fun _ _ => ⟨rfl, ?_, _, el', hset, ?_⟩, fun _ hn => absurd (congrArg List.length hn) (by
              have : 0 < p.1 * it.size := Nat.mul_pos hpos h0
              rw [List.length_append, hul, hml, hnl]; simp only [List.length_nil]; omega)⟩
            · rw [cell_of_row _ _ _ _ el' (0, 0) hset]
              simp only [List.getElem?_toArray]
              rw [hcl _ (by simpa using hfit2)]
              have hboth := (ho1.append hnv).ext (ρ.ext_push ⟨(ρ.g sl.a).b, (ρ.g sl.a).o + sl.off, (ρ.g sl.a).room - sl.off, true, true⟩)
              obtain ⟨y, hy, hry⟩ := hboth.get hk
              refine ⟨y, ?_, one_both o1 hn1 y (List.mem_of_getElem? hy), hry⟩
              by_cases hk2 : k < olds.length
              · rw [if_neg (by rw [ho2] at hk2; show ¬ ((ρ.g sl.a).o + sl.off + sl.len * it.size ≤ (ρ.g sl.a).o + sl.off + k ∧ _); omega)]
                rw [List.getElem?_append_left hk2] at hy
                have := (ho3 k y hy).1
                rw [cell_of_row w _ _ cur el' (0, 0) hcur] at this
                simpa [Nat.add_assoc] using this
              · rw [List.getElem?_append_right (by omega)] at hy
                have hlt : k - olds.length < news.length := (List.getElem?_eq_some_iff.1 hy).1
                rw [if_pos (by rw [ho2] at hk2 hlt; show (ρ.g sl.a).o + sl.off + sl.len * it.size ≤ (ρ.g sl.a).o + sl.off + k ∧ (ρ.g sl.a).o + sl.off + k < _; omega)]
                rw [← hy, ho2]; congr 1
                show (ρ.g sl.a).o + sl.off + k - _ = _
                omega
            · show (us ++ p.2).length ≤ (ρ.g sl.a).room - sl.off
              rw [List.length_append, hul, hml, hnl]; omega
            · show (ρ.g sl.a).o + sl.off + ((ρ.g sl.a).room - sl.off) = _
              simp; omega
theorem byteCells_eq (l : List UInt8) : byteCells l = l.map fun b => .int .u8 (b.toNat : Int) := by
  induction l with
  | nil => rfl
  | cons b l ih => exact congrArg (AVal.int .u8 (b.toNat : Int) :: ·) ih
theorem op_bytes {s t el : TypeId} {x : Opnd} {y : Operand} (hs : SR C ρ H w) (he : ER ρ N e a.tmps) (h0 : (match P.underlying s with | some .string => true | _ => false) = true) (h1 : sliceOf P t el = true)
    (h2 : (match P.underlying el with | some (.int .u8) => true | _ => false) = true) (h3 : opndOk x y = true) {v : AVal} {H' : Heap} (hr : oBytes el x e H = some (v, H')) :
    OpRun C P (do pure (.value (← Go.convert s t (a.eval y)))) ρ H w v H' := by
  obtain ⟨b, hb, hr⟩ := ob_eq hr
  obtain ⟨hlt, hr⟩ := ite'_some hr
  cases hr
  have hx := opnd_VR h3 he (ρ := ρ)
  rw [asStr_some hb] at hx
  generalize a.eval y = q at hx
  cases hx
  have hus : P.underlying s = some .string := by
    split at h0
    · assumption
    · cases h0
  have hue : P.underlying el = some (.int .u8) := by
    split at h2
    · assumption
    · cases h2
  have hut := sliceOf_run h1
  have hrun := run_bytes_of_string w s t el b hus hut hue
  let row := bytesRow b (grownCap w b.size 0 el)
  let w' := w.drew.alloc (.cells row el (row.size, row.size + 1))
  refine ⟨_, w', .slice (some ⟨w.heap.size, 0, none⟩) b.size (grownCap w b.size 0 el), ρ.push ⟨w.heap.size, 0, 0, false, true⟩, val_run hrun, .inl rfl, ?_, ?_, by simp⟩
  · have := VR.slice (ρ := ρ.push ⟨w.heap.size, 0, 0, false, true⟩) (.p H.length) 0 b.size b.size 1 false (some ⟨w.heap.size, 0, none⟩) (grownCap w b.size 0 el) (push_ok hs) (grownCap_ge ..) (fun h => by cases h)
      (fun _ => by rw [← hs.n, Rho.push_new]) (fun h => by rw [← hs.n, Rho.push_new] at h; cases h) (grownCap_ge ..)
    rw [len_eq]; exact this
  · rw [apd_eq]
    refine step_push (w' := w') hs rfl rfl rfl (by simp [w']) (fun i hi => ?_) ⟨w.heap.size, 0, 0, false, true⟩ _ (Nat.le_refl _) ?_
    · show (w.heap.push _)[i]? = _
      rw [Array.getElem?_push, if_neg (by omega)]
    · show RowR _ ((ρ.push _).g (.p ρ.n)) false true _ _
      rw [Rho.push_new]
      refine ⟨fun i u hu => ?_, fun _ => ?_, (fun h => by cases h), fun h => by cases h⟩
      · rw [byteCells_eq, List.getElem?_map] at hu
        have hrow : w'.heap[w.heap.size]? = some (.cells row el (row.size, row.size + 1)) := by
          show (w.heap.push _)[w.heap.size]? = _
          simp
        simp only [Nat.zero_add]
        rw [cell_of_row w' w.heap.size i row el (row.size, row.size + 1) hrow]
        cases hbi : b.data.toList[i]? with
        | none => rw [hbi] at hu; cases hu
        | some z =>
          rw [hbi] at hu; cases hu
          have hbi' : b.data[i]? = some z := by simpa using hbi
          have hil : i < b.data.size := (Array.getElem?_eq_some_iff.1 hbi').1
          refine ⟨.int .u8 (z.toNat : Int), ?_, rfl, .int _ _⟩
          show (bytesRow b (grownCap w b.size 0 el))[i]? = _
          unfold bytesRow
          rw [Array.getElem?_append_left (by simpa using hil), Array.getElem?_map, hbi']; rfl
      · rw [byteCells_eq, flatL_iff]
        intro u hu
        obtain ⟨z, _, rfl⟩ := List.mem_map.1 hu
        rfl
end
end Go.AI
