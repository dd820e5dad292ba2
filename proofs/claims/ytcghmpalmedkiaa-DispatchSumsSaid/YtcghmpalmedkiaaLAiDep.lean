/-
  ON WHAT AN OPERATION DEPENDS: the temporaries that it looks at; whether it reads or writes memory.
-/
import Derived.Test.YtcghmpalmedkiaaLAiPad
set_option linter.unusedVariables false
set_option linter.unusedSimpArgs false
namespace Go.AI
def Opnd.ts : Opnd → List Nat
  | .t n => [n]
  | .c _ => []
def tsL (l : List Opnd) : List Nat := l.flatMap Opnd.ts
def tsO : Option Opnd → List Nat
  | some x => x.ts
  | none => []
def ts2 (l : List (Nat × Opnd)) : List Nat := l.flatMap fun p => p.2.ts
def ts3 (l : List (Nat × Nat × Opnd)) : List Nat := l.flatMap fun p => p.2.2.ts
def AOp.ts : AOp → List Nat
  | .mv x => x.ts
  | .pick c a b => c.ts ++ (a.ts ++ b.ts)
  | .alloc _ _ => []
  | .box _ x => x.ts
  | .build _ ps => ts3 ps
  | .bslice _ _ _ _ ps => ts2 ps
  | .load _ _ x => x.ts
  | .store _ a v => a.ts ++ v.ts
  | .bin _ x y => x.ts ++ y.ts
  | .eq _ _ x y => x.ts ++ y.ts
  | .un _ x => x.ts
  | .conv _ x => x.ts
  | .bytes _ x => x.ts
  | .mkf _ a c => tsL a ++ tsL c
  | .mkmap => []
  | .mkslice _ _ _ _ l c => l.ts ++ c.ts
  | .slice _ x lo hi mx => x.ts ++ (tsO lo ++ (tsO hi ++ tsO mx))
  | .faddr _ x => x.ts
  | .field _ _ _ x => x.ts
  | .iaddr _ x i => x.ts ++ i.ts
  | .iarr _ _ x i => x.ts ++ i.ts
  | .index _ _ _ x i => x.ts ++ i.ts
  | .sindex x i => x.ts ++ i.ts
  | .look _ _ m k _ => m.ts ++ k.ts
  | .mupd _ m k v => m.ts ++ (k.ts ++ v.ts)
  | .ext x _ => x.ts
  | .len _ x => x.ts
  | .minmax _ x xs => x.ts ++ tsL xs
  | .app _ _ _ _ s x => s.ts ++ x.ts
  | .call _ xs => tsL xs
  | .callv g xs => g.ts ++ tsL xs
  | .nils _ x => x.ts
  | .nbuild _ _ ps => ts3 ps
  | .nalloc _ _ _ => []
  | .nilm x => x.ts
  | .mkmat _ _ l c => l.ts ++ c.ts
  | .storem a v => a.ts ++ v.ts
  | .appm _ _ s x => s.ts ++ x.ts
  | .stop => []
  | .nilck x => x.ts
  | .cap x => x.ts
  | .copy _ d s => d.ts ++ s.ts
  | .clear _ _ _ x => x.ts
def Same (l : List Nat) (e e' : Env) : Prop := ∀ t ∈ l, eget e t = eget e' t
theorem Same.left {l k : List Nat} {e e' : Env} (h : Same (l ++ k) e e') : Same l e e' := fun t ht => h t (List.mem_append_left _ ht)
theorem Same.right {l k : List Nat} {e e' : Env} (h : Same (l ++ k) e e') : Same k e e' := fun t ht => h t (List.mem_append_right _ ht)
theorem Same.ev {x : Opnd} {e e' : Env} (h : Same x.ts e e') : x.ev e = x.ev e' := by
  cases x with
  | t n => exact h n (by simp [Opnd.ts])
  | c v => rfl
theorem Same.evL {l : List Opnd} {e e' : Env} (h : Same (tsL l) e e') : evL e l = evL e' l := by
  induction l with
  | nil => rfl
  | cons x l ih =>
    have h : Same (x.ts ++ tsL l) e e' := h
    rw [evL_cons, evL_cons, h.left.ev, ih h.right]
theorem Same.oev {x : Option Opnd} {e e' : Env} (h : Same (tsO x) e e') : oev e x = oev e' x := by
  cases x with
  | none => rfl
  | some y => exact congrArg some (Same.ev (x := y) h)
theorem Same.parts2 {l : List (Nat × Opnd)} {n : Nat} {e e' : Env} (h : Same (ts2 l) e e') : parts2 e n l = parts2 e' n l := by
  induction l with
  | nil => rfl
  | cons p l ih =>
    have h : Same (p.2.ts ++ ts2 l) e e' := h
    show (Nat.mul p.1 n, n, p.2.ev e) :: AI.parts2 e n l = (Nat.mul p.1 n, n, p.2.ev e') :: AI.parts2 e' n l
    rw [h.left.ev, ih h.right]
theorem Same.parts3 {l : List (Nat × Nat × Opnd)} {e e' : Env} (h : Same (ts3 l) e e') : parts3 e l = parts3 e' l := by
  induction l with
  | nil => rfl
  | cons p l ih =>
    have h : Same (p.2.2.ts ++ ts3 l) e e' := h
    show (p.1, p.2.1, p.2.2.ev e) :: AI.parts3 e l = (p.1, p.2.1, p.2.2.ev e') :: AI.parts3 e' l
    rw [h.left.ev, ih h.right]
theorem aoper_congr {op : AOp} {e e' : Env} (h : Same op.ts e e') (p : Ex) (q : Bool) (H : Heap) : aoper op p q e H = aoper op p q e' H := by
  cases op with
  | mv x => show oMv x e H = oMv x e' H; unfold oMv; rw [Same.ev h]
  | pick c a b => show oPick c a b e H = oPick c a b e' H; unfold oPick; rw [h.left.ev, h.right.left.ev, h.right.right.ev]
  | alloc t z => rfl
  | box t x => show oBox t x e H = oBox t x e' H; unfold oBox; rw [Same.ev h]
  | build z ps => show oBuild z ps e H = oBuild z ps e' H; unfold oBuild; rw [Same.parts3 h]
  | bslice t s l z ps => show oBslice t s l z ps e H = oBslice t s l z ps e' H; unfold oBslice; rw [Same.parts2 h]
  | load s g x => show oLoad s g x e H = oLoad s g x e' H; unfold oLoad; rw [Same.ev h]
  | store s a v => show oStore s a v e H = oStore s a v e' H; unfold oStore; rw [h.left.ev, h.right.ev]
  | bin o x y => show oBin o x y e H = oBin o x y e' H; unfold oBin; rw [h.left.ev, h.right.ev]
  | eq n k x y => show oEq n k x y e H = oEq n k x y e' H; unfold oEq; rw [h.left.ev, h.right.ev]
  | un o x => show oUn o x e H = oUn o x e' H; unfold oUn; rw [Same.ev h]
  | conv k x => show oConv k x e H = oConv k x e' H; unfold oConv; rw [Same.ev h]
  | bytes t x => show oBytes t x e H = oBytes t x e' H; unfold oBytes; rw [Same.ev h]
  | mkf f a c => show oMkf f a c e H = oMkf f a c e' H; unfold oMkf; rw [h.left.evL, h.right.evL]
  | mkmap => rfl
  | mkslice t s b z l c => show oMkslice t s b z l c e H = oMkslice t s b z l c e' H; unfold oMkslice; rw [h.left.ev, h.right.ev]
  | slice s x lo hi mx => show oSlice s x lo hi mx e H = oSlice s x lo hi mx e' H; unfold oSlice; rw [h.left.ev, h.right.left.oev, h.right.right.left.oev, h.right.right.right.oev]
  | faddr o x => show oFaddr o x e H = oFaddr o x e' H; unfold oFaddr; rw [Same.ev h]
  | field o s g x => show oField o s g x e H = oField o s g x e' H; unfold oField; rw [Same.ev h]
  | iaddr s x i => show oIaddr s x i e H = oIaddr s x i e' H; unfold oIaddr; rw [h.left.ev, h.right.ev]
  | iarr s l x i => show oIarr s l x i e H = oIarr s l x i e' H; unfold oIarr; rw [h.left.ev, h.right.ev]
  | index s l g x i => show oIndex s l g x i e H = oIndex s l g x i e' H; unfold oIndex; rw [h.left.ev, h.right.ev]
  | sindex x i => show oSindex x i e H = oSindex x i e' H; unfold oSindex; rw [h.left.ev, h.right.ev]
  | look s z m k o => show oLook s z m k o e H = oLook s z m k o e' H; unfold oLook; rw [h.left.ev, h.right.ev]
  | mupd s m k v => show oMupd s m k v e H = oMupd s m k v e' H; unfold oMupd; rw [h.left.ev, h.right.left.ev, h.right.right.ev]
  | ext x i => show oExt x i e H = oExt x i e' H; unfold oExt; rw [Same.ev h]
  | len s x => show oLen s x e H = oLen s x e' H; unfold oLen; rw [Same.ev h]
  | minmax m x xs => show oMinmax m x xs e H = oMinmax m x xs e' H; unfold oMinmax; rw [h.left.ev, h.right.evL]
  | app t s b z x y => show oApp t s b z x y e H = oApp t s b z x y e' H; unfold oApp; rw [h.left.ev, h.right.ev]
  | call f xs => show callOn (p.call f) q (evL e xs) H = callOn (p.call f) q (evL e' xs) H; rw [Same.evL h]
  | callv g xs => show callVal p q (evL e xs) H (g.ev e) = callVal p q (evL e' xs) H (g.ev e'); rw [h.left.ev, h.right.evL]
  | nils s x => show oNils s x e H = oNils s x e' H; unfold oNils; rw [Same.ev h]
  | nbuild s z ps => show oNbuild s z ps e H = oNbuild s z ps e' H; unfold oNbuild; rw [Same.parts3 h]
  | nalloc s t z => rfl
  | nilm x => show oNilm x e H = oNilm x e' H; unfold oNilm; rw [Same.ev h]
  | mkmat t b l c => show oMkmat t b l c e H = oMkmat t b l c e' H; unfold oMkmat; rw [h.left.ev, h.right.ev]
  | storem a v => show oStorem a v e H = oStorem a v e' H; unfold oStorem; rw [h.left.ev, h.right.ev]
  | appm t b s x => show oAppm t b s x e H = oAppm t b s x e' H; unfold oAppm; rw [h.left.ev, h.right.ev]
  | stop => rfl
  | nilck x => show oNilck x e H = oNilck x e' H; unfold oNilck; rw [Same.ev h]
  | cap x => show oCap x e H = oCap x e' H; unfold oCap; rw [Same.ev h]
  | copy t d s => show oCopy t d s e H = oCopy t d s e' H; unfold oCopy; rw [h.left.ev, h.right.ev]
  | clear t n z x => show oClear t n z x e H = oClear t n z x e' H; unfold oClear; rw [Same.ev h]
theorem restr_mem {e : Env} {l : List Nat} {t : Nat} (h : t ∈ l) : eget (restr e l) t = eget e t := by
  induction l with
  | nil => cases h
  | cons s l ih =>
    have h1 : eget (restr e (s :: l)) t = if s = t then eget e s else eget (restr e l) t := eget_cons _ _ _ _
    rw [h1]; split
    · rename_i h'; rw [h']
    · rename_i h'
      rcases List.mem_cons.1 h with rfl | h
      · exact absurd rfl h'
      · exact ih h
theorem restr_not {e : Env} {l : List Nat} {t : Nat} (h : t ∉ l) : eget (restr e l) t = .undef := by
  induction l with
  | nil => rfl
  | cons s l ih =>
    have h1 : eget (restr e (s :: l)) t = if s = t then eget e s else eget (restr e l) t := eget_cons _ _ _ _
    rw [h1, if_neg (fun h' => h (by subst h'; exact .head _)), ih (fun h' => h (.tail _ h'))]
/-! ### kinds: 0 no memory is touched, 1 one object is read, 2 one row is written, 3 a new object, 4 a call or append, 5 the others -/
def AOp.kind : AOp → Nat
  | .load .. | .look .. => 1
  | .store .. => 2
  | .alloc .. | .box .. | .bslice .. | .mkmap | .mkslice .. => 3
  | .call .. | .callv .. | .app .. => 4
  | .bytes .. | .mupd .. | .nils .. | .nbuild .. | .nalloc .. | .nilm .. | .mkmat .. | .storem .. | .appm .. | .stop | .copy .. | .clear .. => 5
  | _ => 0
theorem rv_pure {o : Option AVal} {H H' : Heap} {v : AVal} (h : rv H o = some (v, H')) : H' = H ∧ ∀ K, rv K o = some (v, K) := by
  obtain ⟨u, hu, h⟩ := ob_eq h
  cases h
  exact ⟨rfl, fun K => by unfold rv; rw [hu]; rfl⟩
theorem pure_run {op : AOp} (hk : op.kind = 0) {p : Ex} {q : Bool} {e : Env} {H : Heap} {v : AVal} {H' : Heap} (h : aoper op p q e H = some (v, H')) : H' = H ∧ ∀ K q', aoper op p q' e K = some (v, K) := by
  cases op <;> first
    | (cases hk; done)
    | skip
  case mv x => cases h; exact ⟨rfl, fun K _ => rfl⟩
  case pick c a b =>
    obtain ⟨u, hu, h⟩ := ob_eq (h : oPick c a b e H = _)
    cases h
    exact ⟨rfl, fun K _ => by show oPick c a b e K = _; unfold oPick; rw [hu]; rfl⟩
  case build z ps =>
    obtain ⟨u, hu, h⟩ := ob_eq (h : oBuild z ps e H = _)
    cases h
    exact ⟨rfl, fun K _ => by show oBuild z ps e K = _; unfold oBuild; rw [hu]; rfl⟩
  case bin o x y => exact ⟨(rv_pure h).1, fun K _ => (rv_pure h).2 K⟩
  case eq n k x y =>
    obtain ⟨u, hu, h⟩ := ob_eq (h : oEq n k x y e H = _)
    cases h
    exact ⟨rfl, fun K _ => by show oEq n k x y e K = _; unfold oEq; rw [hu]; rfl⟩
  case un o x => exact ⟨(rv_pure h).1, fun K _ => (rv_pure h).2 K⟩
  case conv k x =>
    obtain ⟨u, hu, h⟩ := ob_eq (h : oConv k x e H = _)
    cases h
    exact ⟨rfl, fun K _ => by show oConv k x e K = _; unfold oConv; rw [hu]; rfl⟩
  case mkf f a c => cases h; exact ⟨rfl, fun K _ => rfl⟩
  case slice s x lo hi mx => exact ⟨(rv_pure h).1, fun K _ => (rv_pure h).2 K⟩
  case faddr o x =>
    obtain ⟨u, hu, h⟩ := ob_eq (h : oFaddr o x e H = _)
    cases h
    exact ⟨rfl, fun K _ => by show oFaddr o x e K = _; unfold oFaddr; rw [hu]; rfl⟩
  case field o s g x => exact ⟨(rv_pure h).1, fun K _ => (rv_pure h).2 K⟩
  case iaddr s x i =>
    obtain ⟨u, hu, h⟩ := ob_eq (h : oIaddr s x i e H = _)
    obtain ⟨u2, hu2, h⟩ := ob_eq h
    obtain ⟨u3, hu3, h⟩ := ob_eq h
    cases h
    exact ⟨rfl, fun K _ => by show oIaddr s x i e K = _; unfold oIaddr; rw [hu, ob_some, hu2, ob_some, hu3]; rfl⟩
  case iarr s l x i =>
    obtain ⟨u, hu, h⟩ := ob_eq (h : oIarr s l x i e H = _)
    obtain ⟨u2, hu2, h⟩ := ob_eq h
    obtain ⟨u3, hu3, h⟩ := ob_eq h
    cases h
    exact ⟨rfl, fun K _ => by show oIarr s l x i e K = _; unfold oIarr; rw [hu, ob_some, hu2, ob_some, hu3]; rfl⟩
  case index s l g x i => exact ⟨(rv_pure h).1, fun K _ => (rv_pure h).2 K⟩
  case sindex x i => exact ⟨(rv_pure h).1, fun K _ => (rv_pure h).2 K⟩
  case ext x i => exact ⟨(rv_pure h).1, fun K _ => (rv_pure h).2 K⟩
  case len s x =>
    obtain ⟨u, hu, h⟩ := ob_eq (h : oLen s x e H = _)
    cases h
    exact ⟨rfl, fun K _ => by show oLen s x e K = _; unfold oLen; rw [hu]; rfl⟩
  case minmax m x xs => exact ⟨(rv_pure h).1, fun K _ => (rv_pure h).2 K⟩
  case nilck x =>
    have h : ite' (isSome' (asPtr (x.ev e))) (some (x.ev e, H)) (ite' (isFn (x.ev e)) (some (x.ev e, H)) none) = some (v, H') := h
    cases hb : isSome' (asPtr (x.ev e)) with
    | true => rw [hb] at h; cases h; exact ⟨rfl, fun K _ => by show oNilck x e K = _; unfold oNilck; rw [hb]; rfl⟩
    | false =>
      rw [hb] at h
      obtain ⟨hf, h⟩ := ite'_some (by exact h : ite' (isFn (x.ev e)) (some (x.ev e, H)) none = some (v, H'))
      cases h
      exact ⟨rfl, fun K _ => by show oNilck x e K = _; unfold oNilck; rw [hb, hf]; rfl⟩
  case cap x =>
    have h : ite' (isNilS (x.ev e)) (some (.int .i64 0, H)) (ob (asSl (x.ev e)) fun s => ite' s.ex (some (.int .i64 (Int.ofNat s.cap), H)) none) = some (v, H') := h
    cases hb : isNilS (x.ev e) with
    | true => rw [hb] at h; cases h; exact ⟨rfl, fun K _ => by show oCap x e K = _; unfold oCap; rw [hb]; rfl⟩
    | false =>
      rw [hb] at h
      obtain ⟨s, hs, h⟩ := ob_eq (by exact h : ob (asSl (x.ev e)) (fun s => ite' s.ex (some (.int .i64 (Int.ofNat s.cap), H)) none) = some (v, H'))
      obtain ⟨hx, h⟩ := ite'_some h
      cases h
      exact ⟨rfl, fun K _ => by show oCap x e K = _; unfold oCap; rw [hb, hs]; show ite' s.ex _ none = _; rw [hx]; rfl⟩
noncomputable def AOp.objOf (op : AOp) (e : Env) : Option Nat := match op.at? with
  | some x => nameOf (x.ev e)
  | none => none
theorem load_run' {op : AOp} (hk : op.kind = 1) {p : Ex} {q : Bool} {e : Env} {H : Heap} {v : AVal} {H' : Heap} (h : aoper op p q e H = some (v, H')) :
    ∃ a, op.objOf e = some a ∧ H' = H ∧ hget H a ≠ .dead ∧ ∀ K q', hget K a = hget H a → aoper op p q' e K = some (v, K) := by
  cases op <;> first
    | (cases hk; done)
    | skip
  case load s g x =>
    obtain ⟨u, hu, h⟩ := ob_eq (h : oLoad s g x e H = _)
    cases h
    have hu0 := hu
    obtain ⟨b, hb, hu⟩ := ob_eq hu
    refine ⟨b.1.base, ?_, rfl, ?_, fun K q' hK => ?_⟩
    · show nameOf (x.ev e) = _; unfold nameOf; rw [hb]
    · intro h
      have hn : nget H b.1 = .dead := by rw [nget_see, h, see_dead]
      rw [hn] at hu
      have hu : aloadM H s g b = some v := hu
      obtain ⟨_, hu⟩ := ite'_some hu
      obtain ⟨c, hc, hu⟩ := ob_eq hu
      obtain ⟨r, hr, hu⟩ := ob_eq hu
      rw [plain_some hc] at h
      have h : hget H c = .dead := h
      rw [h] at hr; cases hr
    · have hn : nget K b.1 = nget H b.1 := by rw [nget_see, hK, ← nget_see]
      have hm : aloadM K s g b = aloadM H s g b := by
        unfold aloadM
        cases hp : b.1.plain with
        | none => rfl
        | some c =>
          have : hget K c = hget H c := by rw [plain_some hp] at hK; exact hK
          rw [ob_some, ob_some, this]
      have : aload K s g (x.ev e) = some v := by unfold aload; rw [hb, ob_some, hn, hm]; exact hu
      show rv K (aload K s g (x.ev e)) = _
      rw [this]; rfl
  case look s z m k o =>
    obtain ⟨u, hu, h⟩ := ob_eq (h : oLook s z m k o e H = _)
    cases h
    obtain ⟨b, hb, hu⟩ := ob_eq hu
    obtain ⟨r, hr, hu⟩ := ob_eq hu
    refine ⟨b, ?_, rfl, ?_, fun K q' hK => ?_⟩
    · show nameOf (m.ev e) = _; unfold nameOf; rw [hb, asMap_some hb]; rfl
    · intro h; rw [h] at hr; cases hr
    · show rv K (ob (asMap (m.ev e)) fun a => ob (mapOf (hget K a)) fun r => _) = _
      rw [hb, ob_some, hK, hr, ob_some, hu]; rfl
theorem store_run' {op : AOp} (hk : op.kind = 2) {p : Ex} {q : Bool} {e : Env} {H : Heap} {v : AVal} {H' : Heap} (h : aoper op p q e H = some (v, H')) :
    ∃ a o, op.objOf e = some a ∧ H' = H.set a o ∧ hget H a ≠ .dead ∧ ∀ K q', hget K a = hget H a → aoper op p q' e K = some (v, K.set a o) := by
  cases op <;> first
    | (cases hk; done)
    | skip
  case store s x y =>
    obtain ⟨K, hK, h⟩ := ob_eq (h : oStore s x y e H = _)
    cases h
    obtain ⟨b, hb, hu⟩ := ob_eq hK
    obtain ⟨r, hr, hu⟩ := ob_eq hu
    obtain ⟨hc, hu⟩ := ite'_some hu
    obtain ⟨cs, hcs, hu⟩ := ob_eq hu
    cases hu
    let f := andB r.2.1 (AVal.flatL (y.ev e).cells)
    have hset : ∀ K, hget K b.1.base = hget H b.1.base → nset K b.1 f cs = K.set b.1.base (Nm.rec (motive := fun _ => AObj) (fun _ => .row true f cs) (fun _ i => setIn i cs (hget H b.1.base)) b.1) := fun K hK => by
      cases hb1 : b.1 with
      | p c => show upd K c _ = _; rw [upd_eq]; rfl
      | v c i =>
        rw [hb1] at hK
        show upd K c (setIn i cs (hget K c)) = _
        rw [upd_eq, show hget K c = hget H c from hK]; rfl
    refine ⟨b.1.base, _, ?_, hset H rfl, ?_, fun K q' hK => ?_⟩
    · show nameOf (x.ev e) = _; unfold nameOf; rw [hb]
    · intro h
      have hn : nget H b.1 = .dead := by rw [nget_see, h, see_dead]
      rw [hn] at hr; cases hr
    · have hn : nget K b.1 = nget H b.1 := by rw [nget_see, hK, ← nget_see]
      have : astore K s (x.ev e) (y.ev e) = some (K.set b.1.base (Nm.rec (motive := fun _ => AObj) (fun _ => .row true f cs) (fun _ i => setIn i cs (hget H b.1.base)) b.1)) := by
        unfold astore; rw [hb, ob_some, hn, hr, ob_some, hc, ite'_true, hcs, ob_some, ← hset K hK]
      show ob (astore K s (x.ev e) (y.ev e)) _ = _
      rw [this]; rfl
end Go.AI
