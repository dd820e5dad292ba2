/-
  MORE FUEL TAKES NOTHING AWAY.
-/
import Derived.Test.YtcghmpalmedkiaaLAiFun
set_option linter.unusedVariables false
set_option linter.unusedSimpArgs false
namespace Go.AI
structure Le (p q : Ex) : Prop where
  exec : ∀ b c e H r, p.exec b c e H = some r → q.exec b c e H = some r
  call : ∀ f args H r, p.call f args H = some r → q.call f args H = some r
  yield : ∀ a args H r, p.yield a args H = some r → q.yield a args H = some r
theorem callOn_mono {run run' : List AVal → Heap → Option (AVal × Heap)} (h : ∀ args H r, run args H = some r → run' args H = some r) {q : Bool} {args : List AVal} {H : Heap} {r : AVal × Heap} (hr : callOn run q args H = some r) : callOn run' q args H = some r := by
  unfold callOn callOn1 at hr ⊢
  obtain ⟨s, hs, hr⟩ := ob_eq hr
  rw [h _ _ _ hs]; exact hr
theorem aoper_mono {p q : Ex} (h : Le p q) {op : AOp} {b : Bool} {e : Env} {H : Heap} {r : AVal × Heap} (hr : aoper op p b e H = some r) : aoper op q b e H = some r := by
  cases op <;> first
    | exact hr
    | exact callOn_mono (fun args H r => h.call _ args H r) hr
    | skip
  case callv g xs =>
    have hr : callVal p b (evL e xs) H (g.ev e) = some r := hr
    show callVal q b (evL e xs) H (g.ev e) = some r
    generalize g.ev e = gv at hr
    cases gv <;> first
      | exact hr
      | exact callOn_mono (fun args H r => h.call _ args H r) hr
      | (have hr := ite'_none (show ite' b none (p.yield _ (evL e xs) H) = some r from hr)
         show ite' b none (q.yield _ (evL e xs) H) = some r
         rw [hr.1]; exact h.yield _ _ _ _ hr.2)
theorem aops_mono {p q : Ex} (h : Le p q) : ∀ {l : List AOper} {e : Env} {H : Heap} {r : Env × Heap}, aops p l e H = some r → aops q l e H = some r := by
  intro l
  induction l with
  | nil => intro e H r hr; exact hr
  | cons o l ih =>
    intro e H r hr
    obtain ⟨w, hw, hr⟩ := ob_eq (hr : ob (wanted e o.guard) _ = some r)
    show ob (wanted e o.guard) _ = some r
    rw [hw]
    cases w with
    | true =>
      obtain ⟨s, hs, hr⟩ := ob_eq hr
      show ob (aoper o.op q false e H) _ = some r
      rw [aoper_mono h hs]; exact ih hr
    | false => exact ih hr
theorem aoperQ_mono {p q : Ex} (h : Le p q) {rs : List (Nat × Nat)} {inc : List Nat} {e : Env} {H : Heap} {op : AOp} {r : AVal × Heap × Nat × Nat} (hr : aoperQ p rs inc e H op = some r) : aoperQ q rs inc e H op = some r := by
  unfold aoperQ at hr ⊢
  cases hat : op.at? with
  | none =>
    rw [hat] at hr
    obtain ⟨s, hs, hr⟩ := ob_eq hr
    show ob (aoper op q true e _) _ = some r
    rw [aoper_mono h hs]; exact hr
  | some x => rw [hat] at hr; exact hr
theorem aopsD_mono {p q : Ex} (h : Le p q) : ∀ {l : List AOper} {rs : List (Nat × Nat)} {e : Env} {H : Heap} {r : Env × Heap}, aopsD p l rs e H = some r → aopsD q l rs e H = some r := by
  intro l
  induction l with
  | nil => intro rs e H r hr; exact hr
  | cons o l ih =>
    intro rs e H r hr
    obtain ⟨w, hw, hr⟩ := ob_eq (hr : ob (wanted e o.guard) _ = some r)
    show ob (wanted e o.guard) _ = some r
    rw [hw]
    cases w with
    | true =>
      cases hq : o.q with
      | true =>
        rw [hq] at hr
        obtain ⟨s, hs, hr⟩ := ob_eq hr
        show ob (aoperQ q rs o.inc e H o.op) _ = some r
        rw [aoperQ_mono h hs]; exact ih hr
      | false =>
        rw [hq] at hr
        obtain ⟨s, hs, hr⟩ := ob_eq hr
        show ob (aoper o.op q false e H) _ = some r
        rw [aoper_mono h hs]; exact ih hr
    | false => exact ih hr
theorem thenN_mono {x y : CRes} {k k' : Env → Heap → CRes} (hx : ∀ r, x = some r → y = some r) (hk : ∀ e H r, k e H = some r → k' e H = some r) {r : AExit × Env × Heap} (h : thenN x k = some r) : thenN y k' = some r := by
  obtain ⟨⟨o, e, H⟩, h1, h⟩ := ob_eq h
  unfold thenN
  rw [hx _ h1]
  cases o with
  | normal => exact hk _ _ _ h
  | exit i => exact h
  | ret => exact h
theorem thenL_mono {ou : List Nat} {b : Nat} {x y : CRes} {k k' : Env → Heap → CRes} (hx : ∀ r, x = some r → y = some r) (hk : ∀ e H r, k e H = some r → k' e H = some r) {r : AExit × Env × Heap} (h : thenL ou b x k = some r) : thenL ou b y k' = some r := by
  obtain ⟨⟨o, e, H⟩, h1, h⟩ := ob_eq h
  unfold thenL
  rw [hx _ h1]
  cases o with
  | normal => exact hk e H r h
  | exit i => exact h
  | ret => exact h
theorem exec1_mono {p q : Ex} (h : Le p q) : ∀ c {b : Nat} {e : Env} {H : Heap} {r : AExit × Env × Heap}, exec1 c p b e H = some r → exec1 c q b e H = some r := by
  intro c
  induction c with
  | skip => intro b e H r hr; exact hr
  | region d l =>
    intro b e H r hr
    obtain ⟨s, hs, hr2⟩ := ob_eq (hr : normalN (ite' d (aopsD p l [] e H) (aops p l e H)) = some r)
    show normalN (ite' d (aopsD q l [] e H) (aops q l e H)) = some r
    cases d with
    | true => have := aopsD_mono h (by exact hs); simp only [ite'_true]; rw [this]; exact hr2
    | false => have := aops_mono h (by exact hs); simp only [ite'_false]; rw [this]; exact hr2
  | seq x y ihx ihy => intro b e H r hr; exact thenN_mono (x := exec1 x p b e H) (y := exec1 x q b e H) (k := exec1 y p b) (k' := exec1 y q b) (fun r hr => ihx hr) (fun e H r hr => ihy hr) hr
  | cond c x y ihx ihy =>
    intro b e H r hr
    obtain ⟨t, ht, hr⟩ := ob_eq (hr : ob (asBool (c.ev e)) _ = some r)
    show ob (asBool (c.ev e)) _ = some r
    rw [ht]
    cases t with
    | true => exact ihx hr
    | false => exact ihy hr
  | block id x ih =>
    intro b e H r hr
    obtain ⟨s, hs, hr⟩ := ob_eq (hr : blockN id (exec1 x p b e H) = some r)
    show blockN id (exec1 x q b e H) = some r
    unfold blockN
    rw [ih hs]; exact hr
  | loop lv ou x ih => intro b e H r hr; exact thenL_mono (x := loopN (exec1 x p b) b (restr e lv) H (gcKeep b (restr e lv) H)) (y := loopN (exec1 x q b) b (restr e lv) H (gcKeep b (restr e lv) H)) (k := p.exec b (.loop lv ou x)) (k' := q.exec b (.loop lv ou x)) (fun r hr => ih hr) (fun e H r hr => h.exec b (.loop lv ou x) e H r hr) hr
  | exit id => intro b e H r hr; exact hr
  | ret => intro b e H r hr; exact hr
  | rangeFunc lv g ps asg body _ _ =>
    intro b e H r hr
    have hr : rangeN p (restr e lv) H ps asg body (g.ev e) = some r := hr
    show rangeN q (restr e lv) H ps asg body (g.ev e) = some r
    generalize g.ev e = gv at hr
    generalize restr e lv = e at hr
    cases gv <;> first
      | exact hr
      | (obtain ⟨s, hs, hr⟩ := ob_eq hr
         show ob (callOn (q.call _) false _ _) _ = some r
         rw [callOn_mono (fun args H r => h.call _ args H r) hs]; exact hr)
theorem exS_mono {tab : Nat → Option AFunc} {p q : Ex} (h : Le p q) : Le (exS tab p) (exS tab q) := by
  refine ⟨fun b c e H r hr => exec1_mono h c hr, fun f args H r hr => ?_, fun a args H r hr => ?_⟩
  · obtain ⟨fn, hf, hr⟩ := ob_eq (hr : call1 tab p f args H = some r)
    show call1 tab q f args H = some r
    unfold call1
    rw [hf]
    obtain ⟨r0, hr0, hr⟩ := ob_eq (hr : ob (retN fn _) _ = some r)
    obtain ⟨s, hs, hr0⟩ := ob_eq (hr0 : retN fn _ = some r0)
    have : retN fn (exec1 fn.body q (len H) (argEnv args 0) H) = some r0 := by
      unfold retN
      rw [exec1_mono h _ hs]; exact hr0
    show ob (retN fn (exec1 fn.body q (len H) (argEnv args 0) H)) _ = some r
    rw [this]; exact hr
  · obtain ⟨o, ho, hr⟩ := ob_eq (hr : yield1 p a args H = some r)
    show yield1 q a args H = some r
    unfold yield1
    rw [ho]
    obtain ⟨hc, hr⟩ := ite'_some hr
    obtain ⟨s, hs, hr⟩ := ob_eq hr
    obtain ⟨hn, hr⟩ := ite'_some hr
    obtain ⟨o2, ho2, hr⟩ := ob_eq hr
    obtain ⟨hc2, hr⟩ := ite'_some hr
    obtain ⟨s2, hs2, hr⟩ := ob_eq hr
    simp only [ob_some]
    rw [hc, ite'_true, exec1_mono h _ hs, ob_some, hn, ite'_true, ho2, ob_some, hc2, ite'_true, exec1_mono h _ hs2]; exact hr
theorem ex_succ {tab : Nat → Option AFunc} : ∀ n, Le (ex tab n) (ex tab (n + 1)) := by
  intro n
  induction n with
  | zero => exact ⟨(fun b c e H r hr => by cases hr), (fun f args H r hr => by cases hr), (fun a args H r hr => by cases hr)⟩
  | succ n ih => exact exS_mono ih
theorem ex_le {tab : Nat → Option AFunc} {n m : Nat} (h : n ≤ m) : Le (ex tab n) (ex tab m) := by
  induction m with
  | zero => have : n = 0 := by omega
            subst this; exact ⟨fun _ _ _ _ _ h => h, fun _ _ _ _ h => h, fun _ _ _ _ h => h⟩
  | succ m ih =>
    by_cases he : n = m + 1
    · subst he; exact ⟨fun _ _ _ _ _ h => h, fun _ _ _ _ h => h, fun _ _ _ _ h => h⟩
    · have h1 := ih (by omega)
      have h2 := ex_succ (tab := tab) m
      exact ⟨fun b c e H r hr => h2.exec b c e H r (h1.exec b c e H r hr), fun f a H r hr => h2.call f a H r (h1.call f a H r hr), fun a g H r hr => h2.yield a g H r (h1.yield a g H r hr)⟩
/-! ### runs, whatever the fuel -/
def Does (tab : Nat → Option AFunc) (c : ACode) (b : Nat) (e : Env) (H : Heap) (r : AExit × Env × Heap) : Prop := ∃ n, exec1 c (ex tab n) b e H = some r
def Runs (tab : Nat → Option AFunc) (f : Nat) (args : List AVal) (H : Heap) (v : AVal) (H' : Heap) : Prop := ∃ n, acall tab n f args H = some (v, H')
section
variable {tab : Nat → Option AFunc}
theorem Does.seq {x y : ACode} {b : Nat} {e e1 : Env} {H H1 : Heap} {r : AExit × Env × Heap} (h1 : Does tab x b e H (.normal, e1, H1)) (h2 : Does tab y b e1 H1 r) : Does tab (.seq x y) b e H r := by
  obtain ⟨n, h1⟩ := h1; obtain ⟨m, h2⟩ := h2
  refine ⟨n + m, ?_⟩
  show thenN (exec1 x _ b e H) (exec1 y _ b) = _
  unfold thenN
  rw [exec1_mono (ex_le (Nat.le_add_right n m)) x h1]
  exact exec1_mono (ex_le (Nat.le_add_left m n)) y h2
theorem Does.cond {c : Opnd} {x y : ACode} {b : Nat} {e : Env} {H : Heap} {r : AExit × Env × Heap} {t : Bool} (hc : asBool (c.ev e) = some t) (h : Does tab (ite' t x y) b e H r) : Does tab (.cond c x y) b e H r := by
  obtain ⟨n, h⟩ := h
  refine ⟨n, ?_⟩
  show ob (asBool (c.ev e)) _ = _
  rw [hc]
  cases t <;> exact h
theorem Does.block {id : Nat} {x : ACode} {b : Nat} {e : Env} {H : Heap} {r : AExit × Env × Heap} {s : AExit × Env × Heap} (h : Does tab x b e H s) (hr : blockN id (some s) = some r) : Does tab (.block id x) b e H r := by
  obtain ⟨n, h⟩ := h
  refine ⟨n, ?_⟩
  show blockN id (exec1 x _ b e H) = _
  rw [h]; exact hr
theorem Runs.of {f : Nat} {fn : AFunc} {args : List AVal} {H : Heap} {v : AVal} {H' : Heap} {s : AExit × Env × Heap} (hf : tab f = some fn) (h : Does tab fn.body (len H) (argEnv args 0) H s) (hr : ob (retN fn (some s)) (fun r => some (gcRet (len H) r)) = some (v, H')) : Runs tab f args H v H' := by
  obtain ⟨n, h⟩ := h
  refine ⟨n + 1, ?_⟩
  show call1 tab (ex tab n) f args H = _
  unfold call1
  rw [hf, ob_some, h]; exact hr
end
end Go.AI
