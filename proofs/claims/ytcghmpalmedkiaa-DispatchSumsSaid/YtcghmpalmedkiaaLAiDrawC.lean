/-
  A REGION WHOSE ORDER IS OPEN (fourth part): one operation more, in whatever order.
-/
import Derived.Test.YtcghmpalmedkiaaLAiDrawB
set_option linter.unusedVariables false
set_option linter.unusedSimpArgs false
namespace Go.AI
def Wr (l : List AOper) (E : Nat → Env) (HH : Nat → Heap) (G : Nat → Bool) (c i : Nat) : Prop :=
  G i = true ∧ ∃ x, l[i]? = some x ∧ ((x.sort = 2 ∧ x.op.objOf (E i) = some c) ∨ (x.sort = 3 ∧ (HH i).length ≤ c ∧ c < (HH (i + 1)).length) ∨ (x.sort = 4 ∧ hget (HH (i + 1)) c ≠ hget (HH i) c))
def DstIs (l : List AOper) (t i : Nat) : Prop := ∃ x, l[i]? = some x ∧ x.dst = some t
noncomputable def contS (l : List AOper) (E : Nat → Env) (HH : Nat → Heap) (G : Nat → Bool) (S : Nat → Bool) (c : Nat) : AObj := lastw S (Wr l E HH G c) (fun i => hget (HH (i + 1)) c) (hget (HH 0) c) l.length
noncomputable def tmpS (l : List AOper) (E : Nat → Env) (V : Nat → AVal) (S : Nat → Bool) (t : Nat) : AVal := lastw S (DstIs l t) V (eget (E 0) t) l.length
section
variable {C : ACode → Code → Nat → Prop} {P : Program} {p : Ex} {N : Nat} {ops : Array Oper} {l : List AOper} {E : Nat → Env} {HH : Nat → Heap} {V : Nat → AVal} {G : Nat → Bool} {R : Nat → Nat × Nat}
theorem Ctx.keepObj (c : Ctx C P p N ops l E HH V G R) {m d : Nat} (hm : m < l.length) (hw : ¬ Wr l E HH G d m) : hget (HH (m + 1)) d = hget (HH m) d := by
  obtain ⟨x, o, hx, ho, hd, hg, hop⟩ := c.at hm
  obtain ⟨hE, hst⟩ := c.step m x hx
  cases hgi : G m with
  | false => rw [(hst.2.1 hgi).2.1]
  | true =>
    rw [hgi] at hst
    rcases sort_cases x (c.qk m x hx) with ⟨h0, hk, hq⟩ | ⟨h0, hk⟩ | ⟨h0, hk, hq⟩ | ⟨h0, hk, hq⟩ | ⟨h0, hq⟩
    · rw [(pure_run hk (hst.2.2.2 rfl hq).1).1]
    · obtain ⟨b, h1, h2, _⟩ := hst.load hk; rw [h2]
    · obtain ⟨b, ob, h1, h2, h3, _⟩ := hst.store hk hq
      have hbl : b < (HH m).length := hget_live h3
      rw [h2, hget_set hbl, if_neg]
      intro h; subst h; exact hw ⟨hgi, x, hx, .inl ⟨h0, h1⟩⟩
    · obtain ⟨H1, h1, h2, h3⟩ := hst.quiet hk hq
      by_cases hlt : d < (HH m).length
      · rw [h2, hget_append_old hlt]
      · rw [hget_lt hlt, hget_lt]
        intro h; exact hw ⟨hgi, x, hx, .inr (.inl ⟨h0, by omega, h⟩)⟩
    · exact Classical.byContradiction fun h => hw ⟨hgi, x, hx, .inr (.inr ⟨h0, h⟩)⟩
theorem put_get (e : Env) (d : Option Nat) (v : AVal) (t : Nat) : eget (put e d v) t = if d = some t then v else eget e t := by
  cases d with
  | none => rw [if_neg (by simp)]; rfl
  | some d =>
    show eget ((d, v) :: e) t = _
    rw [eget_cons]
    by_cases h : d = t
    · rw [if_pos h, if_pos (by rw [h])]
    · rw [if_neg h, if_neg (by simpa using h)]
theorem Ctx.keepTmp (c : Ctx C P p N ops l E HH V G R) {m t : Nat} (hm : m < l.length) : (DstIs l t m → eget (E (m + 1)) t = V m) ∧ (¬ DstIs l t m → eget (E (m + 1)) t = eget (E m) t) := by
  obtain ⟨x, o, hx, ho, hd, hg, hop⟩ := c.at hm
  obtain ⟨hE, hst⟩ := c.step m x hx
  rw [hE, put_get]
  constructor
  · rintro ⟨x', hx', hd'⟩
    rw [hx] at hx'; cases hx'
    rw [if_pos hd']
  · intro h
    rw [if_neg (fun h' => h ⟨x, hx, h'⟩)]
theorem Ctx.cont_text (c : Ctx C P p N ops l E HH V G R) {S : Nat → Bool} {d i : Nat} (hi : i ≤ l.length) (hS : ∀ j, j < l.length → Wr l E HH G d j → (j < i ↔ S j = true)) : contS l E HH G S d = hget (HH i) d :=
  lastw_text (X := fun m => hget (HH m) d) rfl (fun m hm => ⟨fun _ => rfl, fun h => c.keepObj hm h⟩) hi hS
theorem Ctx.tmp_text (c : Ctx C P p N ops l E HH V G R) {S : Nat → Bool} {t i : Nat} (hi : i ≤ l.length) (hS : ∀ j, j < l.length → DstIs l t j → (j < i ↔ S j = true)) : tmpS l E V S t = eget (E i) t :=
  lastw_text (X := fun m => eget (E m) t) rfl (fun m hm => c.keepTmp hm) hi hS
structure Inv (C : ACode → Code → Nat → Prop) (N : Nat) (ops : Array Oper) (l : List AOper) (E : Nat → Env) (HH : Nat → Heap) (V : Nat → AVal) (G : Nat → Bool) (k : Nat) (ρ0 : Rho) (w0 : World) (d0 : List Deferred) (listed : Array Bool) (a : Act) (w : World) : Prop where
  size : listed.size = l.length
  down : Down ops.toList fun j => listed.getD j false
  defers : a.defers = d0
  tmps : N ≤ a.tmps.size
  heap : ∃ K ρ, K.length = (HH l.length).length ∧ Step C k ρ0 (HH 0) w0 ρ K w ∧ (∀ c, hget K c = contS l E HH G (fun j => listed.getD j false) c) ∧
    (∀ t, VR ρ (tmpS l E V (fun j => listed.getD j false) t) (a.tmps.getD t undef)) ∧
    ∀ i, i < l.length → listed.getD i false = false → ∀ c, (HH i).length ≤ c → c < (HH (i + 1)).length → (ρ.g (.p c)).ok = false
theorem apart_left {x y : AOper} (h : apartD x y = true) {d : Nat} (hd : x.dst = some d) : d ∉ y.looks ∧ y.dst ≠ some d := by
  unfold apartD at h
  rw [hd] at h
  simp only [Bool.and_eq_true, Bool.not_eq_true', decide_eq_true_eq] at h
  exact ⟨fun hm => by rw [(has_iff _ _).2 hm] at h; exact absurd h.1.1 (by simp), h.1.2⟩
theorem apart_right {x y : AOper} (h : apartD x y = true) {d : Nat} (hd : y.dst = some d) : d ∉ x.looks := by
  unfold apartD at h
  rw [hd] at h
  simp only [Bool.and_eq_true, Bool.not_eq_true'] at h
  exact fun hm => by rw [(has_iff _ _).2 hm] at h; exact absurd h.2 (by simp)
theorem compat_cases {i : Nat} {x y : AOper} (h : compat i x y = true) (hx : x.sort ≤ 4) (hy : y.sort ≤ 4) :
    x.sort = 0 ∨ y.sort = 0 ∨ (x.sort = 1 ∧ y.sort = 1) ∨ (x.sort = 1 ∧ y.sort = 3) ∨ (x.sort = 1 ∧ y.sort = 2 ∧ x.q = true ∧ i ∈ y.inc) ∨ ((x.sort = 2 ∨ x.sort = 3 ∨ x.sort = 4) ∧ y.sort = 1 ∧ y.q = true ∧ i ∈ y.inc) ∨ (x.sort = 3 ∧ y.sort = 3 ∧ i ∈ y.inc) := by
  unfold compat at h
  split at h <;> simp_all [has_iff]
theorem sort_le (x : AOper) : x.sort ≤ 4 := by unfold AOper.sort; split <;> (try split) <;> (try split) <;> (try split) <;> omega
theorem mono_le {HH : Nat → Heap} {n : Nat} (h : ∀ j, j < n → (HH j).length ≤ (HH (j + 1)).length) {i j : Nat} (hij : i ≤ j) (hj : j ≤ n) : (HH i).length ≤ (HH j).length := by
  induction j with
  | zero => have : i = 0 := by omega
            subst this; exact Nat.le_refl _
  | succ j ih =>
    by_cases he : i = j + 1
    · subst he; exact Nat.le_refl _
    · exact Nat.le_trans (ih (by omega) (by omega)) (h j (by omega))
theorem getD_put (listed : Array Bool) (i : Nat) (hi : i < listed.size) (j : Nat) : (listed.setIfInBounds i true).getD j false = (listed.getD j false || decide (j = i)) := by
  simp only [Array.getD_eq_getD_getElem?, Array.getElem?_setIfInBounds]
  by_cases h : i = j
  · subst h; simp [hi]
  · rw [if_neg h]; have : ¬ j = i := fun e => h e.symm
    simp [this]
theorem Ctx.range (c : Ctx C P p N ops l E HH V G R) {j d : Nat} {x : AOper} (hx : l[j]? = some x) (hg : G j = true) (hs : x.sort = 3) (h1 : (HH j).length ≤ d) (h2 : d < (HH (j + 1)).length) : (R j).1 ≤ d ∧ d < (R j).2 := by
  obtain ⟨hE, hst⟩ := c.step j x hx
  rw [hg] at hst
  rcases sort_cases x (c.qk j x hx) with ⟨h0, hk, hq⟩ | ⟨h0, hk⟩ | ⟨h0, hk, hq⟩ | ⟨h0, hk, hq⟩ | ⟨h0, hq⟩
  all_goals first | (rw [h0] at hs; cases hs; done) | skip
  obtain ⟨H1, h1', h2', h3'⟩ := hst.quiet hk hq
  rw [h3']
  refine ⟨h1, ?_⟩
  rw [h2', rest_eq, len_eq, List.length_append, List.length_drop] at h2
  show d < H1.length
  omega
theorem Ctx.storeAt (c : Ctx C P p N ops l E HH V G R) {j d : Nat} {x : AOper} (hx : l[j]? = some x) (hg : G j = true) (hs : x.sort = 2) (h1 : x.op.objOf (E j) = some d) :
    R j = (d, d + 1) ∧ d < (HH j).length ∧ ∀ i ∈ x.inc, i < j → ¬ ((R i).1 ≤ d ∧ d < (R i).2) := by
  obtain ⟨hE, hst⟩ := c.step j x hx
  rw [hg] at hst
  rcases sort_cases x (c.qk j x hx) with ⟨h0, hk, hq⟩ | ⟨h0, hk⟩ | ⟨h0, hk, hq⟩ | ⟨h0, hk, hq⟩ | ⟨h0, hq⟩
  all_goals first | (rw [h0] at hs; cases hs; done) | skip
  obtain ⟨b, ob, g1, g2, g3, g4, g5, g6⟩ := hst.store hk hq
  rw [g1] at h1; cases h1
  exact ⟨g5, hget_live g3, fun i hi hij => g6 i hi _ _ (rangeMap_get R j i hij)⟩
theorem Ctx.loadAt (c : Ctx C P p N ops l E HH V G R) {j : Nat} {x : AOper} (hx : l[j]? = some x) (hg : G j = true) (hk : x.op.kind = 1) :
    ∃ d, HH (j + 1) = HH j ∧ d < (HH j).length ∧ (∀ K, hget K d = hget (HH j) d → aoper x.op p false (E j) K = some (V j, K)) ∧ (x.q = true → R j = (d, d + 1) ∧ ∀ i ∈ x.inc, i < j → ¬ ((R i).1 ≤ d ∧ d < (R i).2)) := by
  obtain ⟨hE, hst⟩ := c.step j x hx
  rw [hg] at hst
  obtain ⟨d, g1, g2, g3, g4, g5⟩ := hst.load hk
  exact ⟨d, g2, hget_live g3, g4, fun hq => ⟨(g5 hq).1, fun i hi hij => (g5 hq).2 i hi _ _ (rangeMap_get R j i hij)⟩⟩
theorem set_other {H : Heap} {a c : Nat} {o : AObj} (h : hget (H.set a o) c ≠ hget H c) : c = a ∧ a < H.length := by
  rcases Nat.lt_or_ge a H.length with hl | hl
  · rw [hget_set hl] at h
    by_cases hc : c = a
    · exact ⟨hc, hl⟩
    · rw [if_neg hc] at h; exact absurd rfl h
  · rw [List.set_eq_of_length_le hl] at h; exact absurd rfl h
theorem app_low {esz bytes : Nat} {s x : AVal} {H H' : Heap} {v : AVal} (h : aappend H esz bytes s x = some (v, H')) {d : Nat} (hd : hget H' d ≠ hget H d) : lowSl s H ≤ d ∧ d < len H' := by
  have new : ∀ (K : Heap) (o : AObj), K.length = H.length → hget (K ++ [o]) d ≠ hget H d → (∀ c, c < H.length → hget K c ≠ hget H c → lowSl s H ≤ c) → lowSl s H ≤ H.length → lowSl s H ≤ d ∧ d < len (K ++ [o]) := fun K o hK h1 h2 h3 => by
    rw [len_eq, List.length_append, List.length_singleton, hK]
    rcases Nat.lt_or_ge d H.length with h4 | h4
    · rw [hget_append_old (by omega)] at h1; exact ⟨h2 d h4 h1, by omega⟩
    · refine ⟨by omega, ?_⟩
      rcases Nat.lt_or_ge d (H.length + 1) with h5 | h5
      · exact h5
      · rw [hget_out h4, hget_out (by rw [List.length_append, List.length_singleton]; omega)] at h1; exact absurd rfl h1
  unfold aappend at h
  obtain ⟨p, hp, h⟩ := ob_eq h
  obtain ⟨_, h⟩ := ite'_some h
  cases hsl : asSl s with
  | none =>
    rw [hsl] at h
    obtain ⟨hn, h⟩ := ite'_some h
    have hl : lowSl s H = H.length := by unfold lowSl; rw [hsl]; show ite' (isNilS s) (len H) 0 = _; rw [hn, len_eq]; rfl
    cases hz : Nat.beq p.1 0 with
    | true => rw [hz] at h; simp only [ite'_true] at h; cases h; exact absurd rfl hd
    | false =>
      rw [hz] at h; simp only [ite'_false] at h
      obtain ⟨_, h⟩ := ite'_some h
      cases h
      rw [show newRow H p.2 = H ++ [.row true (AVal.flatL p.2) p.2] from by unfold newRow; rw [apd_eq]] at hd ⊢
      exact new H _ rfl hd (fun c hc h => absurd rfl h) (by omega)
  | some t =>
    rw [hsl] at h
    have hl : lowSl s H = t.a.base := by unfold lowSl; rw [hsl]
    have h : appSl H esz bytes t p.1 p.2 = some (v, H') := h
    have old : ∀ (a : Nat) (o : AObj), t.a.base = a → hget (H.set a o) d ≠ hget H d → t.a.base ≤ d ∧ d < H.length := fun a o ha hne => by
      obtain ⟨h1, h2⟩ := set_other hne
      exact ⟨by omega, by omega⟩
    unfold appSl at h
    rw [hl]
    rw [hl] at new
    cases h0 : andB (Nat.beq p.1 0) (notB (andB t.ex (Nat.beq t.len 0))) with
    | true => rw [h0] at h; simp only [ite'_true] at h; cases h; exact absurd rfl hd
    | false =>
      rw [h0] at h; simp only [ite'_false] at h
      cases hmain : andB (andB (Nat.beq esz t.sz) (Nat.beq t.len t.cap)) (Nat.ble (Nat.mul (Nat.add t.len p.1) bytes) roomBytes) with
      | false =>
        rw [hmain] at h; simp only [ite'_false] at h
        obtain ⟨_, h⟩ := ite'_some h
        obtain ⟨H1, hput, h⟩ := ob_eq h
        cases h
        unfold putRow at hput
        obtain ⟨q, hq, hput⟩ := ob_eq hput
        obtain ⟨_, hput⟩ := ite'_some hput
        obtain ⟨cs, _, hput⟩ := ob_eq hput
        cases hput
        rw [len_eq, nset_length]
        cases hta : t.a with
        | p a => rw [hta] at hd; exact by simpa [hta] using old a (.row true (andB q.2.1 (AVal.flatL p.2)) cs) (by rw [hta]; rfl) (by rw [← upd_eq]; exact hd)
        | v a i => rw [hta] at hd; exact by simpa [hta] using old a (setIn i cs (hget H a)) (by rw [hta]; rfl) (by rw [← upd_eq]; exact hd)
      | true =>
        rw [hmain] at h; simp only [ite'_true] at h
        obtain ⟨r, hrow, h⟩ := ob_eq h
        obtain ⟨us, _, h⟩ := ob_eq h
        obtain ⟨_, h⟩ := ite'_some h
        have hlive : t.a.base < H.length := Classical.byContradiction fun hc => by rw [nget_out (Nat.le_of_not_lt hc)] at hrow; cases hrow
        cases hex : t.ex with
        | true =>
          rw [hex] at h; simp only [ite'_true] at h
          cases h
          rw [apd_eq] at hd ⊢
          exact new H _ rfl hd (fun c hc h => absurd rfl h) (Nat.le_of_lt hlive)
        | false =>
          rw [hex] at h; simp only [ite'_false] at h
          obtain ⟨a, ha, h⟩ := ob_eq h
          obtain ⟨_, h⟩ := ite'_some h
          cases h
          rw [apd_eq, upd_eq] at hd ⊢
          have hta : t.a.base = a := by
            cases hta : t.a with
            | p b => rw [hta] at ha; cases ha; rfl
            | v b i => rw [hta] at ha; cases ha
          exact new _ _ (by rw [List.length_set]) hd (fun c hc h => (by have := set_other h; omega)) (Nat.le_of_lt hlive)
theorem Ctx.loud (c : Ctx C P p N ops l E HH V G R) {j d : Nat} {x : AOper} (hx : l[j]? = some x) (hg : G j = true) (hs : x.sort = 4) (hm : (HH j).length ≤ (HH (j + 1)).length) (h : hget (HH (j + 1)) d ≠ hget (HH j) d) : (R j).1 ≤ d ∧ d < (R j).2 := by
  obtain ⟨hE, hst⟩ := c.step j x hx
  rw [hg] at hst
  rcases sort_cases x (c.qk j x hx) with ⟨h0, hk, hq⟩ | ⟨h0, hk⟩ | ⟨h0, hk, hq⟩ | ⟨h0, hk, hq⟩ | ⟨h0, hq⟩
  all_goals first | (rw [h0] at hs; cases hs; done) | skip
  obtain ⟨h1, h2⟩ := hst.2.2.2 rfl hq
  rw [h2]
  have hlt : d < len (HH (j + 1)) := by
    rw [len_eq]
    rcases Nat.lt_or_ge d (HH (j + 1)).length with h3 | h3
    · exact h3
    · rw [hget_out h3, hget_out (by omega)] at h; exact absurd rfl h
  cases hop : x.op with
  | app t esz b z s y =>
    rw [hop] at h1
    exact app_low h1 h
  | _ => exact ⟨Nat.zero_le _, hlt⟩
theorem Wr.sort {d i : Nat} {x : AOper} (h : Wr l E HH G d i) (hx : l[i]? = some x) : G i = true ∧ ((x.sort = 2 ∧ x.op.objOf (E i) = some d) ∨ (x.sort = 3 ∧ (HH i).length ≤ d ∧ d < (HH (i + 1)).length) ∨ (x.sort = 4 ∧ hget (HH (i + 1)) d ≠ hget (HH i) d)) := by
  obtain ⟨h1, y, hy, h2⟩ := h
  rw [hx] at hy; cases hy
  exact ⟨h1, h2⟩
theorem tab_get (f : Nat → AObj) (M d : Nat) (h : ¬ d < M → f d = .dead) : hget ((List.range M).map f) d = f d := by
  rw [hget_eq, List.getElem?_map]
  by_cases hd : d < M
  · rw [List.getElem?_range hd]; rfl
  · rw [List.getElem?_eq_none (by simpa using hd), h hd]; rfl
theorem Ctx.one (c : Ctx C P p N ops l E HH V G R) {k : Nat} {ρ0 : Rho} {w0 : World} {d0 : List Deferred} {ro : Option Nat} (hk0 : k ≤ (HH 0).length)
    (hm : ∀ j, j < l.length → (HH j).length ≤ (HH (j + 1)).length) (hwf : ∀ i, i ≤ l.length → (∀ d, WFo (HH i).length (hget (HH i) d)) ∧ ∀ t, WFv (HH i).length (eget (E i) t))
    {listed : Array Bool} {a : Act} {w : World} (inv : Inv C N ops l E HH V G k ρ0 w0 d0 listed a w) {i : Nat} (hready : i ∈ Region.ready .any ops listed)
    {K' : Act → World → Prop} {Q : Exit → Act → World → Prop} (hn : ∀ a' w', Inv C N ops l E HH V G k ρ0 w0 d0 (listed.setIfInBounds i true) a' w' → K' a' w') : wpOpIn (Fr ro) 0 P ops Q i K' a w := by
  obtain ⟨hun, o, ho, hpre⟩ := mem_ready.1 hready
  have hi : i < l.length := by rw [← c.size]; exact (Array.getElem?_eq_some_iff.1 ho).1
  obtain ⟨x, o', hx, ho', hd, hg, hop⟩ := c.at hi
  rw [ho] at ho'; cases ho'
  obtain ⟨hE, hst⟩ := c.step i x hx
  obtain ⟨Kh, ρ, hKl, hKst, hKc, htm, hgap⟩ := inv.heap
  let S : Nat → Bool := fun j => listed.getD j false
  have hSi : S i = false := by
    show listed.getD i false = false
    have : i < listed.size := by rw [inv.size]; exact hi
    simp only [Array.getD_eq_getD_getElem?, Array.getElem?_eq_getElem this, Option.getD_some] at hun ⊢; exact hun
  let S' : Nat → Bool := fun j => (listed.setIfInBounds i true).getD j false
  have hS' : ∀ j, S' j = (S j || decide (j = i)) := fun j => getD_put listed i (by rw [inv.size]; exact hi) j
  have hdown' : Down ops.toList S' := fun j oj hj hSj e he => by
    rw [hS'] at hSj ⊢
    by_cases hji : j = i
    · subst hji
      have : oj = o := by
        have h1 : ops[j]? = some oj := by simpa using hj
        rw [ho] at h1; exact (Option.some.inj h1).symm
      subst this
      unfold edges at he
      obtain ⟨ed, hed, rfl⟩ := List.mem_map.1 he
      rw [List.mem_filter] at hed
      have := hpre ed (by simpa using hed.1) hed.2
      show (listed.getD ed.on false || _) = true
      rw [this]; rfl
    · have hSj' : S j = true := by simpa [hji] using hSj
      have : S e = true := inv.down j oj hj hSj' e he
      rw [this]; rfl
  -- who is free of whom
  have freeL : ∀ j y, j < i → S j = false → l[j]? = some y → apartD y x = true ∧ compat j y x = true := fun j y hj hSj hy => by
    rcases c.pair j i y x hj hy hx with h | h
    · have : S' j = true := befs_down hdown' (i := i) (by rw [hS']; simp) h
      rw [hS', hSj] at this
      simp at this; omega
    · exact h
  have freeR : ∀ j y, i < j → S j = true → l[j]? = some y → apartD x y = true ∧ compat i x y = true := fun j y hj hSj hy => by
    rcases c.pair i j x y hj hx hy with h | h
    · have : S i = true := befs_down inv.down (i := j) hSj h
      rw [hSi] at this; cases this
    · exact h
  -- the temporaries that are looked at
  have look : ∀ t ∈ x.looks, tmpS l E V S t = eget (E i) t := fun t ht => c.tmp_text (by omega) fun j hj hdj => by
    obtain ⟨y, hy, hyd⟩ := hdj
    constructor
    · intro hji
      cases hSj : S j with
      | true => rfl
      | false => exact absurd ht (apart_left (freeL j y hji hSj hy).1 hyd).1
    · intro hSj
      rcases Nat.lt_trichotomy j i with h | h | h
      · exact h
      · subst h; rw [hSi] at hSj; cases hSj
      · exact absurd ht (apart_right (freeR j y h hSj hy).1 hyd)
  have lookV : ∀ t ∈ x.looks, VR ρ (eget (E i) t) (a.tmps.getD t undef) := fun t ht => by rw [← look t ht]; exact htm t
  let e1 := restr (E i) x.looks
  have he1 : ER ρ N e1 a.tmps := ⟨inv.tmps, fun t => by
    by_cases ht : t ∈ x.looks
    · rw [restr_mem ht]; exact lookV t ht
    · rw [restr_not ht]; exact .undef _⟩
  have same : Same x.op.ts e1 (E i) := fun t ht => restr_mem (List.mem_append_left _ ht)
  have run1 : ∀ q K, aoper x.op p q e1 K = aoper x.op p q (E i) K := fun q K => aoper_congr same p q K
  have hMi : (HH i).length ≤ (HH l.length).length := mono_le hm (by omega) (Nat.le_refl _)
  have hMi1 : (HH (i + 1)).length ≤ (HH l.length).length := mono_le hm (by omega) (Nat.le_refl _)
  have hki : k ≤ (HH i).length := Nat.le_trans hk0 (mono_le hm (Nat.zero_le _) (by omega))
  -- what is to be shown at the end
  have fin : ∀ (K1 : Heap) (ρ1 : Rho) (w1 : World) (y : Value), K1.length = (HH l.length).length → Step C k ρ Kh w ρ1 K1 w1 → (∀ d, hget K1 d = contS l E HH G S' d) → VR ρ1 (V i) y → Ext ρ ρ1 →
      (∀ d, d < (HH l.length).length → ¬ ((HH i).length ≤ d ∧ d < (HH (i + 1)).length) → ρ1.g (.p d) = ρ.g (.p d)) → K' (a.put o.dst y) w1 := fun K1 ρ1 w1 y h1 h2 h3 h4 h5 h6 => by
    refine hn _ _ ⟨by rw [Array.size_setIfInBounds]; exact inv.size, hdown', ?_, ?_, K1, ρ1, h1, hKst.trans h2, h3, fun t => ?_, fun j hj hSj d hd1 hd2 => ?_⟩
    · rw [← inv.defers]; cases o.dst <;> rfl
    · have := inv.tmps
      cases o.dst with
      | none => exact this
      | some d => show N ≤ (a.tmps.setIfInBounds d y).size; rw [Array.size_setIfInBounds]; exact this
    · show VR ρ1 (tmpS l E V S' t) _
      by_cases hdt : DstIs l t i
      · have : tmpS l E V S' t = V i := lastw_hit hi hS' hdt fun j hij hj hdj => by
          obtain ⟨y', hy', hyd⟩ := hdj
          obtain ⟨x', hx', hxd⟩ := hdt
          rw [hx] at hx'; cases hx'
          cases hSj : S j with
          | false => rfl
          | true => exact absurd hyd (apart_left (freeR j y' hij hSj hy').1 hxd).2
        rw [this]
        obtain ⟨x', hx', hxd⟩ := hdt
        rw [hx] at hx'; cases hx'
        rw [hxd] at hd
        unfold dstOk at hd
        split at hd
        · rename_i h7 _; cases h7
        · rename_i d1 d2 h7 h8
          cases h7
          simp at hd
          obtain ⟨rfl, hdN⟩ := hd
          rw [h8]
          show VR ρ1 (V i) ((a.tmps.setIfInBounds t y).getD t undef)
          have : t < a.tmps.size := Nat.lt_of_lt_of_le hdN inv.tmps
          simpa [Array.getD, this] using h4
        · cases hd
      · have : tmpS l E V S' t = tmpS l E V S t := lastw_miss hS' hdt
        rw [this]
        have h7 : (a.put o.dst y).tmps.getD t undef = a.tmps.getD t undef := by
          cases hdo : o.dst with
          | none => rfl
          | some d =>
            have hne : d ≠ t := fun h => by
              subst h
              rw [hdo] at hd
              refine hdt ⟨x, hx, ?_⟩
              unfold dstOk at hd
              split at hd
              · rename_i h8; cases h8
              · rename_i d1 d2 h7 h8
                cases h8
                simp at hd
                rw [h7, hd.1]
              · cases hd
            show (a.tmps.setIfInBounds d y).getD t undef = _
            simp only [Array.getD_eq_getD_getElem?]
            rw [Array.getElem?_setIfInBounds_ne hne]
        rw [h7]
        exact (htm t).ext h5
    · have hji : j ≠ i := fun h => by subst h; have : S' j = false := hSj; rw [hS'] at this; simp at this
      have hSj0 : S j = false := by have : S' j = false := hSj; rw [hS'] at this; simpa [hji] using this
      have hdM : d < (HH l.length).length := Nat.lt_of_lt_of_le hd2 (mono_le hm (by omega) (Nat.le_refl _))
      rw [h6 d hdM ?_]
      · exact hgap j hj hSj0 d hd1 hd2
      · rintro ⟨h7, h8⟩
        rcases Nat.lt_or_ge j i with h | h
        · have := mono_le hm (i := j + 1) (j := i) (by omega) (by omega); omega
        · have := mono_le hm (i := i + 1) (j := j) (by omega) (by omega); omega
  unfold wpOpIn
  rw [ho]
  have hw : Region.wanted o (yielded ops a.tmps) = G i := wanted_run hg (e := E i) (fun t ht => lookV t (List.mem_append_right _ ht)) hst.1
  simp only [hw]
  have missAll : (∀ d, ¬ Wr l E HH G d i) → ∀ d, hget Kh d = contS l E HH G S' d := fun h d => by
    rw [hKc d]; exact (lastw_miss hS' (h d)).symm
  cases hgi : G i with
  | false =>
    simp only [Bool.false_eq_true, if_false]
    obtain ⟨h1, h2, h3⟩ := hst.2.1 hgi
    refine ⟨fun _ _ => trivial, fin Kh ρ w undef hKl ((Step.refl hKst.sr).mono (Nat.le_refl k)) (missAll fun d h => by have h := h.1; rw [hgi] at h; cases h) (by rw [h1]; exact .tup [] [] .nil) (Ext.refl ρ) (fun _ _ _ => rfl)⟩
  | true =>
    simp only [if_true]
    rw [hgi] at hst
    have hkM : k ≤ Kh.length := by rw [hKl]; omega
    have wl : ∀ d j, j < l.length → j < i → S j = false → Wr l E HH G d j → ∃ y, l[j]? = some y ∧ compat j y x = true ∧ G j = true ∧ ((y.sort = 2 ∧ y.op.objOf (E j) = some d) ∨ (y.sort = 3 ∧ (HH j).length ≤ d ∧ d < (HH (j + 1)).length) ∨ (y.sort = 4 ∧ hget (HH (j + 1)) d ≠ hget (HH j) d)) := fun d j hj hji hSj hwr => by
      obtain ⟨hgj, y, hy, h⟩ := hwr
      exact ⟨y, hy, (freeL j y hji hSj hy).2, hgj, h⟩
    have wr : ∀ d j, i < j → S j = true → Wr l E HH G d j → ∃ y, l[j]? = some y ∧ compat i x y = true ∧ G j = true ∧ ((y.sort = 2 ∧ y.op.objOf (E j) = some d) ∨ (y.sort = 3 ∧ (HH j).length ≤ d ∧ d < (HH (j + 1)).length) ∨ (y.sort = 4 ∧ hget (HH (j + 1)) d ≠ hget (HH j) d)) := fun d j hji hSj hwr => by
      obtain ⟨hgj, y, hy, h⟩ := hwr
      exact ⟨y, hy, (freeR j y hji hSj hy).2, hgj, h⟩
    -- an object whose writers are all on their right side
    have text : ∀ d, (∀ j y, j < i → S j = false → l[j]? = some y → compat j y x = true → G j = true → ((y.sort = 2 ∧ y.op.objOf (E j) = some d) ∨ (y.sort = 3 ∧ (HH j).length ≤ d ∧ d < (HH (j + 1)).length) ∨ (y.sort = 4 ∧ hget (HH (j + 1)) d ≠ hget (HH j) d)) → False) →
        (∀ j y, i < j → j < l.length → S j = true → l[j]? = some y → compat i x y = true → G j = true → ((y.sort = 2 ∧ y.op.objOf (E j) = some d) ∨ (y.sort = 3 ∧ (HH j).length ≤ d ∧ d < (HH (j + 1)).length) ∨ (y.sort = 4 ∧ hget (HH (j + 1)) d ≠ hget (HH j) d)) → False) → hget Kh d = hget (HH i) d := fun d hL hR => by
      rw [hKc d]
      refine c.cont_text (by omega) fun j hj hwj => ⟨fun hji => ?_, fun hSj => ?_⟩
      · cases hSj : S j with
        | true => exact hSj
        | false => obtain ⟨y, h1, h2, h3, h4⟩ := wl d j hj hji hSj hwj; exact (hL j y hji hSj h1 h2 h3 h4).elim
      · rcases Nat.lt_trichotomy j i with h | h | h
        · exact h
        · subst h; have : S j = true := hSj; rw [hSi] at this; cases this
        · obtain ⟨y, h1, h2, h3, h4⟩ := wr d j h hSj hwj; exact (hR j y h hj hSj h1 h2 h3 h4).elim
    have hit : ∀ d, Wr l E HH G d i → (∀ j y, i < j → j < l.length → S j = true → l[j]? = some y → compat i x y = true → G j = true → ((y.sort = 2 ∧ y.op.objOf (E j) = some d) ∨ (y.sort = 3 ∧ (HH j).length ≤ d ∧ d < (HH (j + 1)).length) ∨ (y.sort = 4 ∧ hget (HH (j + 1)) d ≠ hget (HH j) d)) → False) →
        contS l E HH G S' d = hget (HH (i + 1)) d := fun d hwd hR => lastw_hit hi hS' hwd fun j hij hj hwj => by
      cases hSj : S j with
      | false => rfl
      | true => obtain ⟨y, h1, h2, h3, h4⟩ := wr d j hij hSj hwj; exact (hR j y hij hj hSj h1 h2 h3 h4).elim
    have miss : ∀ d, ¬ Wr l E HH G d i → contS l E HH G S' d = hget Kh d := fun d h => by rw [hKc d]; exact lastw_miss hS' h
    have eraseR : ∀ t, WFv (HH i).length (eget e1 t) := fun t => by
      by_cases ht : t ∈ x.looks
      · rw [restr_mem ht]; exact (hwf i (by omega)).2 t
      · rw [restr_not ht]; rfl
    rcases sort_cases x (c.qk i x hx) with ⟨h0, hk, hq⟩ | ⟨h0, hk⟩ | ⟨h0, hk, hq⟩ | ⟨h0, hk, hq⟩ | ⟨h0, hq⟩
    · obtain ⟨h1, h2⟩ := pure_run hk (hst.2.2.2 rfl hq).1
      refine oper_sound c.calls hKst.sr he1 hop (by rw [run1]; exact h2 Kh false) fun y ρ1 w1 hy h3 hle => fin Kh ρ1 w1 y hKl (h3.mono hkM) (missAll fun d h => ?_) hy (h3.ext hKst.sr hle) (fun d hd _ => h3.rho d (by rw [hKl]; exact hd))
      have := (h.sort hx).2; omega
    · obtain ⟨d, h1, h2, h3, h4⟩ := c.loadAt hx hgi hk
      have hKd : hget Kh d = hget (HH i) d := text d (fun j y hji hSj hy hc hgj hw' => by
          rcases compat_cases hc (sort_le y) (sort_le x) with h | h | h | h | h | h | h <;> try (rw [h0] at h; (try (cases h; done)); (try omega))
          · omega
          · have hcc := (h4 h.2.2.1).2 j h.2.2.2 hji
            rcases hw' with ⟨h5, h6⟩ | ⟨h5, h6, h7⟩ | h5
            · have := c.storeAt hy hgj h5 h6
              rw [this.1] at hcc; exact hcc ⟨Nat.le_refl _, Nat.lt_succ_self _⟩
            · exact hcc (c.range hy hgj h5 h6 h7)
            · exact hcc (c.loud hy hgj h5.1 (hm j (by omega)) h5.2))
        (fun j y hij hj hSj hy hc hgj hw' => by
          rcases compat_cases hc (sort_le x) (sort_le y) with h | h | h | h | h | h | h <;> try omega
          · rcases hw' with ⟨h5, h6⟩ | ⟨h5, h6, h7⟩ | h5
            · omega
            · have := mono_le hm (i := i) (j := j) (by omega) (by omega); omega
            · omega
          · rcases hw' with ⟨h5, h6⟩ | ⟨h5, h6, h7⟩ | h5
            · have h7 := c.storeAt hy hgj h5 h6
              have h8 := h7.2.2 i h.2.2.2 hij
              rw [(h4 h.2.2.1).1] at h8
              exact h8 ⟨Nat.le_refl _, Nat.lt_succ_self _⟩
            · omega
            · omega)
      refine oper_sound c.calls hKst.sr he1 hop (by rw [run1]; exact h3 Kh hKd) fun y ρ1 w1 hy h5 hle => fin Kh ρ1 w1 y hKl (h5.mono hkM) (missAll fun d' h => ?_) hy (h5.ext hKst.sr hle) (fun d' hd' _ => h5.rho d' (by rw [hKl]; exact hd'))
      have := (h.sort hx).2; omega
    · obtain ⟨b, ob, h1, h2, h3, h4, h5, h6⟩ := hst.store hk hq
      have hbl : b < (HH i).length := hget_live h3
      have hR : ∀ d j y, i < j → j < l.length → S j = true → l[j]? = some y → compat i x y = true → G j = true → ((y.sort = 2 ∧ y.op.objOf (E j) = some d) ∨ (y.sort = 3 ∧ (HH j).length ≤ d ∧ d < (HH (j + 1)).length) ∨ (y.sort = 4 ∧ hget (HH (j + 1)) d ≠ hget (HH j) d)) → False := fun d j y hij hj hSj hy hc hgj hw' => by
        rcases compat_cases hc (sort_le x) (sort_le y) with h | h | h | h | h | h | h <;> omega
      have hKb : hget Kh b = hget (HH i) b := text b (fun j y hji hSj hy hc hgj hw' => by
        rcases compat_cases hc (sort_le y) (sort_le x) with h | h | h | h | h | h | h <;> omega) (hR b)
      have hbK : b < Kh.length := by rw [hKl]; omega
      refine oper_sound c.calls hKst.sr he1 hop (by rw [run1]; exact h4 Kh hKb) fun y ρ1 w1 hy h7 hle => fin (Kh.set b ob) ρ1 w1 y (by rw [List.length_set]; exact hKl) (h7.mono hkM) (fun d => ?_) hy (h7.ext hKst.sr hle) (fun d hd _ => h7.rho d (by rw [hKl]; exact hd))
      rw [hget_set hbK]
      by_cases hdb : d = b
      · subst hdb
        rw [if_pos rfl, hit d ⟨hgi, x, hx, .inl ⟨h0, h1⟩⟩ (hR d), h2, hget_set hbl, if_pos rfl]
      · rw [if_neg hdb, miss d (fun h => by
          rcases (h.sort hx).2 with ⟨_, h8⟩ | ⟨h8, _⟩ | h8
          · rw [h1] at h8; exact hdb (Option.some.inj h8).symm
          · omega
          · omega)]
    · obtain ⟨H1, h1, h2, h3⟩ := hst.quiet hk hq
      obtain ⟨g1, g2, g3⟩ := view_spec ((List.range i).map R) x.inc (HH i)
      generalize hVw : roAll (mask ((List.range i).map R) x.inc (HH i)) = W at h1 g1 g2 g3
      have hR : ∀ d, d < (HH (i + 1)).length → ∀ j y, i < j → j < l.length → S j = true → l[j]? = some y → compat i x y = true → G j = true → ((y.sort = 2 ∧ y.op.objOf (E j) = some d) ∨ (y.sort = 3 ∧ (HH j).length ≤ d ∧ d < (HH (j + 1)).length) ∨ (y.sort = 4 ∧ hget (HH (j + 1)) d ≠ hget (HH j) d)) → False := fun d hd j y hij hj hSj hy hc hgj hw' => by
        have hle := mono_le hm (i := i + 1) (j := j) (by omega) (by omega)
        rcases compat_cases hc (sort_le x) (sort_le y) with h | h | h | h | h | h | h <;> omega
      have hV : ∀ d, d < W.length → hget W d = .dead ∨ hget W d = (hget Kh d).ro ∧ WFo W.length (hget Kh d) := fun d hd => by
        by_cases hdead : hget W d = .dead
        · exact .inl hdead
        · have hKd : hget Kh d = hget (HH i) d := text d (fun j y hji hSj hy hc hgj hw' => by
            rcases compat_cases hc (sort_le y) (sort_le x) with h | h | h | h | h | h | h <;> try omega
            rcases hw' with ⟨h5, h6⟩ | ⟨h5, h6, h7⟩ | h5
            · omega
            · have h8 := c.range hy hgj h5 h6 h7
              exact hdead (g3 j h.2.2 _ _ (rangeMap_get R i j hji) d h8.1 h8.2)
            · omega) (hR d (by have := hm i hi; omega))
          rw [hKd]
          rcases g2 d with h | h
          · exact absurd h hdead
          · exact .inr ⟨h, by rw [g1]; exact (hwf i (by omega)).1 d⟩
      have hcutE : ER (ρ.cut W.length) N e1 a.tmps := ⟨he1.1, fun t => (he1.2 t).cut (by rw [g1]; exact eraseR t)⟩
      have hrun : aoper x.op p true e1 W = some (V i, H1) := by rw [run1]; exact h1
      have hsW : SR C (ρ.cut W.length) W w := hKst.sr.part fun d hd => by
        rcases hV d hd with h | h
        · exact .inl h
        · exact .inr ⟨.inr h.1, h.2⟩
      have hlen : W.length ≤ H1.length := wpIn_elim (ro := none) (oper_sound (a := a) (ro := none) (Q := fun _ _ _ => False) c.calls hsW hcutE hop hrun fun y ρ' w' _ _ h => h)
      obtain ⟨r1, r2, r3⟩ := rest_append (H := HH i) (K := H1) (by rw [← g1]; exact hlen)
      rw [← h2] at r1 r2 r3
      have gapD : ∀ d, W.length ≤ d → d < H1.length → hget Kh d = .dead := fun d h6 h7 => by
        rw [text d (fun j y hji hSj hy hc hgj hw' => by
          have hle := mono_le hm (i := j + 1) (j := i) (by omega) (by omega)
          rcases compat_cases hc (sort_le y) (sort_le x) with h | h | h | h | h | h | h <;> omega) (hR d (by omega))]
        exact hget_out (by rw [← g1]; exact h6)
      refine quiet_oper (a := a) (K := Kh) (K' := (List.range Kh.length).map fun d => if W.length ≤ d ∧ d < H1.length then hget H1 d else hget Kh d) (k := k) c.calls hKst.sr hop hcutE hrun hlen (by rw [hKl, ← r1]; exact hMi1) (by rw [g1]; exact hki) hV
        (fun d h6 h7 => ⟨gapD d h6 h7, hgap i hi hSi d (by rw [← g1]; exact h6) (by rw [r1]; exact h7)⟩) (by simp) (fun d => tab_get _ _ _ ?_) ?_
      · intro hd
        rw [if_neg (by have : H1.length ≤ Kh.length := by rw [hKl, ← r1]; exact hMi1
                       omega), hget_lt (by omega)]
      · intro y ρ1 w1 hy h6 h7 h8
        refine fin _ ρ1 w1 y (by rw [List.length_map, List.length_range]; exact hKl) h6 (fun d => ?_) hy h7 (fun d hd hnd => h8 d (by rw [g1, ← r1]; exact hnd))
        rw [tab_get _ _ d (fun hd => by
          rw [if_neg (by have : H1.length ≤ Kh.length := by rw [hKl, ← r1]; exact hMi1
                         omega), hget_lt (by omega)])]
        by_cases hd : W.length ≤ d ∧ d < H1.length
        · rw [if_pos hd, hit d ⟨hgi, x, hx, .inr (.inl ⟨h0, by rw [← g1]; exact hd.1, by rw [r1]; exact hd.2⟩)⟩ (hR d (by omega)), r3 d (by rw [← g1]; exact hd.1)]
        · rw [if_neg hd, miss d (fun h => by
            rcases (h.sort hx).2 with ⟨h9, _⟩ | ⟨_, h9, h10⟩ | h9
            · omega
            · exact hd ⟨by rw [g1]; exact h9, by rw [← r1]; exact h10⟩
            · omega)]
    · have hrun0 := (hst.2.2.2 rfl hq).1
      have hR : ∀ d j y, i < j → j < l.length → S j = true → l[j]? = some y → compat i x y = true → G j = true → ((y.sort = 2 ∧ y.op.objOf (E j) = some d) ∨ (y.sort = 3 ∧ (HH j).length ≤ d ∧ d < (HH (j + 1)).length) ∨ (y.sort = 4 ∧ hget (HH (j + 1)) d ≠ hget (HH j) d)) → False := fun d j y hij hj hSj hy hc hgj hw' => by
        rcases compat_cases hc (sort_le x) (sort_le y) with h | h | h | h | h | h | h <;> omega
      have hall : ∀ d, hget Kh d = hget (HH i) d := fun d => text d (fun j y hji hSj hy hc hgj hw' => by
        rcases compat_cases hc (sort_le y) (sort_le x) with h | h | h | h | h | h | h <;> omega) (hR d)
      have hsH : SR C (ρ.cut (HH i).length) (HH i) w := hKst.sr.part fun d hd => .inr ⟨.inl (hall d).symm, by rw [hall d]; exact (hwf i (by omega)).1 d⟩
      have hcutE : ER (ρ.cut (HH i).length) N e1 a.tmps := ⟨he1.1, fun t => (he1.2 t).cut (eraseR t)⟩
      refine oper_sound c.calls hsH hcutE hop (by rw [run1]; exact hrun0) fun y ρ1 w1 hy h3 hle => ?_
      obtain ⟨g1, g2, g3⟩ := loud_step (k := k) (K' := padH (HH (i + 1)) (HH l.length).length) hKst.sr hle (by rw [hKl]; exact hMi1) hki hall h3 (fun d h4 h5 => hgap i hi hSi d h4 h5) (by rw [padH_length hMi1, hKl]) (fun d => padH_get _ _ d)
      refine fin _ _ w1 y (padH_length hMi1) g1 (fun d => ?_) (hy.ext g3) g2 (fun d hd hnd => by
        show (if 0 ≤ d ∧ d < (HH (i + 1)).length then ρ1.g (.p d) else ρ.g (.p d)) = _
        split
        · exact h3.rho d (by omega)
        · rfl)
      rw [padH_get]
      by_cases hch : hget (HH (i + 1)) d = hget (HH i) d
      · rw [miss d (fun h => by
          rcases (h.sort hx).2 with ⟨h9, _⟩ | ⟨h9, _⟩ | h9
          · omega
          · omega
          · exact h9.2 hch), hall d, hch]
      · rw [hit d ⟨hgi, x, hx, .inr (.inr ⟨h0, hch⟩)⟩ (hR d)]
end
end Go.AI
