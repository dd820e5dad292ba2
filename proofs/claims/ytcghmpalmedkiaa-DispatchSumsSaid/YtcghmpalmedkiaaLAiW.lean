/-
  WALKING THROUGH CODE WITH VALUES THAT ARE NOT KNOWN: rows of typed elements, loops as iterated steps, calls.
-/
import Derived.Test.YtcghmpalmedkiaaLAiSymC
set_option linter.unusedVariables false
set_option linter.unusedSimpArgs false
namespace Go.AI
/-! ### from some fuel on -/
def Ev (P : Nat → Prop) : Prop := ∃ N, ∀ n, N ≤ n → P n
theorem ev_shift {P : Nat → Prop} (h : Ev fun n => P (n + 1)) : Ev P := by
  obtain ⟨N, h⟩ := h
  refine ⟨N + 1, fun n hn => ?_⟩
  obtain ⟨m, rfl⟩ := Nat.exists_eq_add_of_le' (show 1 ≤ n by omega)
  exact h m (by omega)
theorem ev_call {tab : Nat → Option AFunc} {f : Nat} {fn : AFunc} {args : List AVal} {H : Heap} {r : AVal × Heap} (hf : tab f = some fn)
    (h : Ev fun n => ob (retN fn (exec1 fn.body (ex tab n) (len H) (argEnv args 0) H)) (fun r => some (gcRet (len H) r)) = some r) : Ev fun n => (ex tab n).call f args H = some r :=
  ev_shift (by
    obtain ⟨N, h⟩ := h
    exact ⟨N, fun n hn => by show (ex tab (n + 1)).call f args H = some r; rw [ex_call, run_of hf]; exact h n hn⟩)
/-! ### a loop's head, a loop's step -/
noncomputable def head (b : Nat) (lv : List Nat) (e : Env) (H : Heap) : Env × Heap := (unexE (gcE (gcKeep b (restr e lv) H) (restr e lv)), gcH (gcKeep b (restr e lv) H) H)
noncomputable def loopAt (lv ou : List Nat) (x : ACode) (p : Ex) (b : Nat) (h : Env × Heap) : CRes := thenL ou b (exec1 x p b h.1 h.2) (p.exec b (.loop lv ou x))
theorem x_loopAt {p : Ex} {b : Nat} {e : Env} {H : Heap} (lv ou : List Nat) (x : ACode) : exec1 (.loop lv ou x) p b e H = loopAt lv ou x p b (head b lv e H) := keep rfl
noncomputable def stepTo (b : Nat) (lv ou : List Nat) (r : CRes) : Option ((Env × Heap) ⊕ (AExit × Env × Heap)) :=
  ob r fun q => AExit.rec (some (.inl (head b lv q.2.1 q.2.2))) (fun i => some (.inr (.exit i, head b ou q.2.1 q.2.2))) (some (.inr (.ret, head b ou q.2.1 q.2.2))) q.1
def iter {S O : Type} (step : S → Option (S ⊕ O)) : Nat → S → Option O
  | 0, _ => none
  | n + 1, s => match step s with
    | none => none
    | some (.inr o) => some o
    | some (.inl s') => iter step n s'
theorem iter_sound {tab : Nat → Option AFunc} {S O : Type} (step : S → Option (S ⊕ O)) (lv ou : List Nat) (x : ACode) (b : Nat) (h : S → Env × Heap) (Q : O → AExit × Env × Heap)
    (hin : ∀ s z, step s = some z → Ev fun n => stepTo b lv ou (exec1 x (ex tab n) b (h s).1 (h s).2) = some (match z with | .inl s' => .inl (h s') | .inr o => .inr (Q o))) :
    ∀ n s o, iter step n s = some o → Ev fun n => loopAt lv ou x (ex tab n) b (h s) = some (Q o) := by
  intro n
  induction n with
  | zero => intro s o h; cases h
  | succ n ih =>
    intro s o hi
    cases hs : step s with
    | none => simp [iter, hs] at hi
    | some z =>
      obtain ⟨N, h1⟩ := hin s z hs
      cases z with
      | inr o' =>
        simp [iter, hs] at hi
        subst hi
        refine ⟨N, fun n hn => ?_⟩
        have h1 := h1 n hn
        show loopAt lv ou x (ex tab n) b (h s) = some (Q o')
        unfold loopAt
        obtain ⟨⟨o2, e2, H2⟩, h2, h3⟩ := ob_eq h1
        rw [h2]
        cases o2 with
        | normal => cases h3
        | exit i => exact congrArg some (Sum.inr.inj (Option.some.inj h3))
        | ret => exact congrArg some (Sum.inr.inj (Option.some.inj h3))
      | inl s' =>
        simp [iter, hs] at hi
        obtain ⟨M, h4⟩ := ih s' o hi
        refine ⟨N + M + 1, fun n hn => ?_⟩
        obtain ⟨m, rfl⟩ := Nat.exists_eq_add_of_le' (show 1 ≤ n by omega)
        have h1 := h1 (m + 1) (by omega)
        show loopAt lv ou x (ex tab (m + 1)) b (h s) = some (Q o)
        unfold loopAt
        obtain ⟨⟨o2, e2, H2⟩, h2, h3⟩ := ob_eq h1
        rw [h2]
        cases o2 with
        | normal =>
          show (ex tab (m + 1)).exec b (.loop lv ou x) e2 H2 = _
          rw [ex_exec, x_loopAt]
          have h3 : head b lv e2 H2 = h s' := Sum.inl.inj (Option.some.inj h3)
          rw [h3]; exact h4 m (by omega)
        | exit i => cases h3
        | ret => cases h3
/-! ### binding several values -/
def bind2 {α β γ : Type} (o : Option (α × β)) (f : α → β → Option γ) : Option γ := match o with
  | none => none
  | some (a, b) => f a b
def bind3 {α β γ δ : Type} (o : Option (α × β × γ)) (f : α → β → γ → Option δ) : Option δ := match o with
  | none => none
  | some (a, b, c) => f a b c
def bind4 {α β γ δ ε : Type} (o : Option (α × β × γ × δ)) (f : α → β → γ → δ → Option ε) : Option ε := match o with
  | none => none
  | some (a, b, c, d) => f a b c d
def bind5 {α β γ δ ε ζ : Type} (o : Option (α × β × γ × δ × ε)) (f : α → β → γ → δ → ε → Option ζ) : Option ζ := match o with
  | none => none
  | some (a, b, c, d, e) => f a b c d e
def bind6 {α β γ δ ε ζ η : Type} (o : Option (α × β × γ × δ × ε × ζ)) (f : α → β → γ → δ → ε → ζ → Option η) : Option η := match o with
  | none => none
  | some (a, b, c, d, e, g) => f a b c d e g
def bind7 {α β γ δ ε ζ η θ : Type} (o : Option (α × β × γ × δ × ε × ζ × η)) (f : α → β → γ → δ → ε → ζ → η → Option θ) : Option θ := match o with
  | none => none
  | some (a, b, c, d, e, g, i) => f a b c d e g i
@[simp] theorem bind2_some {α β γ : Type} (a : α) (b : β) (f : α → β → Option γ) : bind2 (some (a, b)) f = f a b := rfl
@[simp] theorem bind3_some {α β γ δ : Type} (a : α) (b : β) (c : γ) (f : α → β → γ → Option δ) : bind3 (some (a, b, c)) f = f a b c := rfl
@[simp] theorem bind4_some {α β γ δ ε : Type} (a : α) (b : β) (c : γ) (d : δ) (f : α → β → γ → δ → Option ε) : bind4 (some (a, b, c, d)) f = f a b c d := rfl
@[simp] theorem bind5_some {α β γ δ ε ζ : Type} (a : α) (b : β) (c : γ) (d : δ) (e : ε) (f : α → β → γ → δ → ε → Option ζ) : bind5 (some (a, b, c, d, e)) f = f a b c d e := rfl
@[simp] theorem bind6_some {α β γ δ ε ζ η : Type} (a : α) (b : β) (c : γ) (d : δ) (e : ε) (g : ζ) (f : α → β → γ → δ → ε → ζ → Option η) : bind6 (some (a, b, c, d, e, g)) f = f a b c d e g := rfl
@[simp] theorem bind7_some {α β γ δ ε ζ η θ : Type} (a : α) (b : β) (c : γ) (d : δ) (e : ε) (g : ζ) (i : η) (f : α → β → γ → δ → ε → ζ → η → Option θ) : bind7 (some (a, b, c, d, e, g, i)) f = f a b c d e g i := rfl
theorem un1 {α β : Type} {o : Option α} {f : α → Option β} {r : β} (h : o.bind f = some r) : ∃ a, o = some a ∧ f a = some r := Option.bind_eq_some_iff.1 h
theorem un2 {α β γ : Type} {o : Option (α × β)} {f : α → β → Option γ} {r : γ} (h : bind2 o f = some r) : ∃ a b, o = some (a, b) ∧ f a b = some r := by
  cases o with
  | none => cases h
  | some x => exact ⟨_, _, rfl, h⟩
theorem un3 {α β γ δ : Type} {o : Option (α × β × γ)} {f : α → β → γ → Option δ} {r : δ} (h : bind3 o f = some r) : ∃ a b c, o = some (a, b, c) ∧ f a b c = some r := by
  cases o with
  | none => cases h
  | some x => exact ⟨_, _, _, rfl, h⟩
theorem un4 {α β γ δ ε : Type} {o : Option (α × β × γ × δ)} {f : α → β → γ → δ → Option ε} {r : ε} (h : bind4 o f = some r) : ∃ a b c d, o = some (a, b, c, d) ∧ f a b c d = some r := by
  cases o with
  | none => cases h
  | some x => exact ⟨_, _, _, _, rfl, h⟩
/-! ### rows of typed elements -/
class Cell (α : Type) where
  k : Nat
  enc : α → List AVal
  len : ∀ x, (enc x).length = k
  one : ∀ x, oneL (enc x) = true
  flat : ∀ x, AVal.flatL (enc x) = true
  pos : 0 < k
instance : Cell Int := ⟨1, fun n => [.int .i64 n], fun _ => rfl, fun _ => rfl, fun _ => rfl, by decide⟩
instance : Cell Bool := ⟨1, fun b => [.bool b], fun _ => rfl, fun _ => rfl, fun _ => rfl, by decide⟩
instance : Cell ByteArray := ⟨1, fun b => [.str b], fun _ => rfl, fun _ => rfl, fun _ => rfl, by decide⟩
instance : Cell UInt8 := ⟨1, fun b => [.int .u8 (b.toNat : Int)], fun _ => rfl, fun _ => rfl, fun _ => rfl, by decide⟩
def rowC {α : Type} [Cell α] (l : List α) : List AVal := l.flatMap Cell.enc
section
variable {α : Type} [Cell α]
@[simp] theorem rowC_nil : rowC ([] : List α) = [] := rfl
theorem rowC_cons (x : α) (l : List α) : rowC (x :: l) = Cell.enc x ++ rowC l := by simp [rowC]
theorem rowC_append (l k : List α) : rowC (l ++ k) = rowC l ++ rowC k := by simp [rowC]
theorem rowC_length (l : List α) : (rowC l).length = l.length * Cell.k α := by
  induction l with
  | nil => simp
  | cons x l ih => rw [rowC_cons, List.length_append, ih, Cell.len, List.length_cons, Nat.add_mul]; omega
theorem rowC_flat (l : List α) : AVal.flatL (rowC l) = true := by
  rw [flatL_iff]
  intro v hv
  simp only [rowC, List.mem_flatMap] at hv
  obtain ⟨x, _, hx⟩ := hv
  exact (flatL_iff _).1 (Cell.flat x) v hx
theorem oneL_append (l k : List AVal) : oneL (l ++ k) = (oneL l && oneL k) := by
  induction l with
  | nil => rfl
  | cons v l ih => rw [List.cons_append, oneL_cons, oneL_cons, ih, Bool.and_assoc]
theorem flatL_append (l k : List AVal) : AVal.flatL (l ++ k) = (AVal.flatL l && AVal.flatL k) := by
  induction l with
  | nil => rfl
  | cons v l ih => rw [List.cons_append, flatL_cons, flatL_cons, ih, Bool.and_assoc]
theorem rowC_one (l : List α) : oneL (rowC l) = true := by
  induction l with
  | nil => rfl
  | cons x l ih => rw [rowC_cons, oneL_append, Cell.one, ih]; rfl
theorem rowC_get (l : List α) (j c : Nat) (hc : c < Cell.k α) : (rowC l)[j * Cell.k α + c]? = (l[j]?).bind fun x => (Cell.enc x)[c]? := flatMap_get (k := Cell.k α) Cell.len l j c hc
theorem readAt_of {cells vs : List AVal} : ∀ {n off : Nat}, n = vs.length → (∀ c, c < vs.length → cells[off + c]? = vs[c]?) → readAt n cells off = some vs := by
  induction vs with
  | nil => intro n off hn _; subst hn; rfl
  | cons v vs ih =>
    intro n off hn h
    subst hn
    show ob (nth cells off) (fun v => ob (readAt vs.length cells (Nat.succ off)) fun vs => some (v :: vs)) = _
    have h0 := h 0 (by simp)
    rw [nth_eq, show cells[off]? = some v from by simpa using h0, ob_some, ih rfl fun c hc => ?_]
    · rfl
    · have := h (c + 1) (by simpa using hc)
      simpa [Nat.succ_eq_add_one, Nat.add_assoc, Nat.add_comm 1 c] using this
theorem readAt_all {cells : List AVal} {n : Nat} (h : n = cells.length) : readAt n cells 0 = some cells := readAt_of h fun c _ => by rw [Nat.zero_add]
theorem rd {l : List α} {j : Nat} {x : α} (h : l[j]? = some x) : readAt (Cell.k α) (rowC l) (j * Cell.k α) = some (Cell.enc x) :=
  readAt_of (Cell.len x).symm fun c hc => by rw [rowC_get l j c (by rwa [← Cell.len x]), h]; rfl
theorem rdc {l : List α} {j : Nat} {x : α} (h : l[j]? = some x) (c : Nat) (hc : c < Cell.k α) : (rowC l)[j * Cell.k α + c]? = (Cell.enc x)[c]? := by rw [rowC_get l j c hc, h]; rfl
theorem rd1 {l : List α} {j : Nat} {x : α} (h : l[j]? = some x) (hk : Cell.k α = 1) : (rowC l)[j]? = (Cell.enc x)[0]? := by
  have := rdc h 0 (by omega)
  rwa [hk, Nat.mul_one, Nat.add_zero] at this
theorem rowC_set (l : List α) (j : Nat) (x : α) (hj : j < l.length) (cells : List AVal) (hl : cells.length = (rowC l).length)
    (h1 : ∀ i, i < j * Cell.k α → cells[i]? = (rowC l)[i]?) (h2 : ∀ c, c < Cell.k α → cells[j * Cell.k α + c]? = (Cell.enc x)[c]?) (h3 : ∀ i, j * Cell.k α + Cell.k α ≤ i → cells[i]? = (rowC l)[i]?) : cells = rowC (l.set j x) := by
  refine List.ext_getElem? fun i => ?_
  have hk := Cell.pos (α := α)
  have hi : i = i / Cell.k α * Cell.k α + i % Cell.k α := by rw [Nat.mul_comm]; exact (Nat.div_add_mod i _).symm
  have hm : i % Cell.k α < Cell.k α := Nat.mod_lt _ hk
  generalize i / Cell.k α = a at hi
  generalize i % Cell.k α = c at hi hm
  subst hi
  rw [rowC_get _ a c hm, List.getElem?_set]
  by_cases ha : j = a
  · subst ha; rw [if_pos rfl, if_pos hj, h2 c hm]; rfl
  · rw [if_neg ha, ← rowC_get _ a c hm]
    rcases Nat.lt_or_ge a j with h | h
    · refine h1 _ ?_
      have : (a + 1) * Cell.k α ≤ j * Cell.k α := Nat.mul_le_mul_right _ h
      rw [Nat.add_mul] at this; omega
    · refine h3 _ ?_
      have : (j + 1) * Cell.k α ≤ a * Cell.k α := Nat.mul_le_mul_right _ (by omega)
      rw [Nat.add_mul] at this; omega
theorem wr {l : List α} {j : Nat} (hj : j < l.length) (x : α) : writeAt (Cell.enc x) (rowC l) (j * Cell.k α) = some (rowC (l.set j x)) := by
  have key : ∀ (vs : List AVal) (cells : List AVal) (off : Nat), off + vs.length ≤ cells.length → ∃ cs, writeAt vs cells off = some cs ∧ cs.length = cells.length ∧
      (∀ i, i < off → cs[i]? = cells[i]?) ∧ (∀ c, c < vs.length → cs[off + c]? = vs[c]?) ∧ (∀ i, off + vs.length ≤ i → cs[i]? = cells[i]?) := by
    intro vs
    induction vs with
    | nil => intro cells off _; exact ⟨cells, rfl, rfl, fun _ _ => rfl, fun c hc => absurd hc (by simp), fun _ _ => rfl⟩
    | cons v vs ih =>
      intro cells off hl
      simp only [List.length_cons] at hl
      have hlt : off < cells.length := by omega
      obtain ⟨cs, h1, h2, h3, h4, h5⟩ := ih (cells.set off v) (off + 1) (by rw [List.length_set]; omega)
      refine ⟨cs, ?_, by rw [h2, List.length_set], fun i hi => ?_, fun c hc => ?_, fun i hi => ?_⟩
      · show ite' (Nat.blt off (AI.len cells)) (writeAt vs (upd cells off v) (off + 1)) none = _
        rw [len_eq, upd_eq, blt_lt hlt]; exact h1
      · rw [h3 i (by omega), List.getElem?_set_ne (by omega)]
      · cases c with
        | zero => rw [Nat.add_zero, h3 off (by omega), List.getElem?_set_self hlt]; rfl
        | succ c =>
          simp only [List.length_cons] at hc
          have := h4 c (by omega)
          rw [show off + (c + 1) = off + 1 + c from by omega, this]; rfl
      · simp only [List.length_cons] at hi
        rw [h5 i (by omega), List.getElem?_set_ne (by omega)]
  have hlen : j * Cell.k α + (Cell.enc x).length ≤ (rowC l).length := by
    rw [rowC_length, Cell.len]
    have : (j + 1) * Cell.k α ≤ l.length * Cell.k α := Nat.mul_le_mul_right _ hj
    rw [Nat.add_mul] at this; omega
  obtain ⟨cs, h1, h2, h3, h4, h5⟩ := key (Cell.enc x) (rowC l) (j * Cell.k α) hlen
  rw [h1, rowC_set l j x hj cs h2 h3 (fun c hc => h4 c (by rw [Cell.len]; exact hc)) (fun i hi => h5 i (by rw [Cell.len]; exact hi))]
theorem repeatL_eq (x : α) (n : Nat) : repeatL (Cell.enc x) n = rowC (List.replicate n x) := by
  induction n with
  | zero => rfl
  | succ n ih =>
    show apd (Cell.enc x) (repeatL (Cell.enc x) n) = _
    rw [apd_eq, ih, List.replicate_succ, rowC_cons]
end
noncomputable def geti {α : Type} (l : List α) (i : Int) : Option (Nat × α) := match inx i l.length with
  | none => none
  | some j => match l[j]? with
    | none => none
    | some x => some (j, x)
theorem geti_in {α : Type} {l : List α} {i : Int} {j : Nat} {x : α} (h : geti l i = some (j, x)) : inx i l.length = some j ∧ l[j]? = some x := by
  unfold geti at h
  cases h1 : inx i l.length with
  | none => rw [h1] at h; cases h
  | some k =>
    rw [h1] at h
    cases h2 : l[k]? with
    | none => simp only [h2] at h; cases h
    | some y => simp only [h2] at h; cases h; exact ⟨rfl, h2⟩
theorem geti_nat {α : Type} {l : List α} {i : Nat} {x : α} (h : l[i]? = some x) : geti l (i : Int) = some (i, x) := by
  have hl : i < l.length := (List.getElem?_eq_some_iff.1 h).1
  unfold geti
  rw [inx_nat hl]; simp only [h]
def room {α : Type} (n : Nat) (x : Option α) : Option α := if n ≤ 140737488355328 then x else none
theorem room_le {α : Type} {n : Nat} (h : n ≤ 140737488355328) (x : Option α) : room n x = x := if_pos h
theorem dt {p : Prop} [Decidable p] (h : p) : decide p = true := decide_eq_true h
theorem df {p : Prop} [Decidable p] (h : ¬ p) : decide p = false := decide_eq_false h
theorem bf {b : Bool} (h : ¬ b = true) : b = false := by simpa using h
end Go.AI
