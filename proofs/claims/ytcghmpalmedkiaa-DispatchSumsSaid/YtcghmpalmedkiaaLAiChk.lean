/-
  WHEN AN ABSTRACT CODE IS THE MODEL's CODE: a check, a Bool, over a program.
-/
import Derived.Test.YtcghmpalmedkiaaLAiNum
set_option linter.unusedVariables false
set_option linter.unusedSimpArgs false
namespace Go.AI
def const1 : AVal → Value → Bool
  | .bool a, .bool b => a == b
  | .int k n, .int k' m => decide (k = k') && decide (n = m)
  | .str s, .string t => decide (s.data.toList = t.data.toList)
  | .nilPtr, .pointer none => true
  | .nilSlice, .slice none 0 0 => true
  | .nilMap, .map none => true
  | .nilFunc, .nilFunc => true
  | .nilIface, .nilIface => true
  | _, _ => false
def constL : List AVal → List Value → Bool
  | [], [] => true
  | a :: as, b :: bs => const1 a b && constL as bs
  | _, _ => false
def constOk : AVal → Value → Bool
  | .agg xs, .agg ys => constL xs ys.toList
  | .tup xs, .tuple ys => constL xs ys.toList
  | a, b => const1 a b
theorem const1_VR {ρ : Rho} {a : AVal} {b : Value} (h : const1 a b = true) : VR ρ a b ∧ a.flat = true ∧ a.one = true := by
  unfold const1 at h
  split at h
  · simp at h; subst h; exact ⟨.bool _, rfl, rfl⟩
  · simp at h; obtain ⟨rfl, rfl⟩ := h; exact ⟨.int _ _, rfl, rfl⟩
  · rename_i s t
    simp at h
    have : s = t := by cases s; cases t; simp at h; exact congrArg ByteArray.mk h
    subst this; exact ⟨.str _, rfl, rfl⟩
  · exact ⟨.nilPtr, rfl, rfl⟩
  · exact ⟨.nilSlice, rfl, rfl⟩
  · exact ⟨.nilMap, rfl, rfl⟩
  · exact ⟨.nilFunc, rfl, rfl⟩
  · exact ⟨.nilIface, rfl, rfl⟩
  · cases h
theorem constL_VRL {ρ : Rho} {as : List AVal} {bs : List Value} (h : constL as bs = true) : VRL ρ as bs ∧ AVal.flatL as = true ∧ oneL as = true := by
  induction as generalizing bs with
  | nil => cases bs with
    | nil => exact ⟨.nil, rfl, rfl⟩
    | cons _ _ => cases h
  | cons a as ih => cases bs with
    | nil => cases h
    | cons b bs =>
      simp [constL] at h
      obtain ⟨h1, h2⟩ := h
      obtain ⟨h3, h4, h5⟩ := const1_VR (ρ := ρ) h1
      obtain ⟨h6, h7, h8⟩ := ih h2
      refine ⟨.cons _ _ _ _ h3 h6, by simp [h4, h7], ?_⟩
      show andB a.one (oneL as) = true
      simp [h5, h8]
theorem constOk_VR {ρ : Rho} {a : AVal} {b : Value} (h : constOk a b = true) : VR ρ a b := by
  unfold constOk at h
  split at h
  · have := (constL_VRL (ρ := ρ) h).1; simpa using VR.agg _ _ this
  · have := (constL_VRL (ρ := ρ) h).1; simpa using VR.tup _ _ this
  · exact (const1_VR h).1
def opndOk : Opnd → Operand → Bool
  | .t n, .tmp m => n == m
  | .c v, .const w => constOk v w
  | .c (.func f [] []), .func g => f == g
  | _, _ => false
theorem opnd_VR {ρ : Rho} {N : Nat} {e : Env} {a : Act} {x : Opnd} {y : Operand} (h : opndOk x y = true) (he : ER ρ N e a.tmps) : VR ρ (x.ev e) (a.eval y) := by
  unfold opndOk at h
  split at h
  · simp at h; subst h; exact he.2 _
  · exact constOk_VR h
  · simp at h; subst h
    have := VR.func (ρ := ρ) (by assumption : Nat) [] [] [] [] .nil .nil
    exact this
  · cases h
def opndsOk : List Opnd → List Operand → Bool
  | [], [] => true
  | a :: as, b :: bs => opndOk a b && opndsOk as bs
  | _, _ => false
theorem evL_nil (e : Env) : evL e [] = [] := rfl
theorem evL_cons (e : Env) (x : Opnd) (xs : List Opnd) : evL e (x :: xs) = x.ev e :: evL e xs := rfl
theorem opnds_VRL {ρ : Rho} {N : Nat} {e : Env} {a : Act} {xs : List Opnd} {ys : List Operand} (h : opndsOk xs ys = true) (he : ER ρ N e a.tmps) : VRL ρ (evL e xs) (ys.map a.eval) := by
  induction xs generalizing ys with
  | nil => cases ys with
    | nil => exact .nil
    | cons _ _ => cases h
  | cons x xs ih => cases ys with
    | nil => cases h
    | cons y ys =>
      simp [opndsOk] at h
      exact .cons _ _ _ _ (opnd_VR h.1 he) (ih h.2)
def oopOk : Option Opnd → Option Operand → Bool
  | none, none => true
  | some a, some b => opndOk a b
  | _, _ => false

/-! types -/
def sizeIs (P : Program) (t : TypeId) (n : Nat) : Bool := match P.info? t with | some i => i.size == n | none => false
def bytesIs (P : Program) (t : TypeId) (n : Nat) : Bool := match P.info? t with | some i => i.bytes == n | none => false
def aggIs (P : Program) (t : TypeId) (b : Bool) : Bool := match P.underlying t with
  | some (.struct _) | some (.array _ _) => b
  | some _ => !b
  | none => false
def zeroIs (P : Program) (t : TypeId) (z : List AVal) : Bool := match P.info? t with
  | some i => match i.zero with
    | some v => constL z v.cells.toList && decide (v.cells.size = i.size)
    | none => false
  | none => false
def sliceOf (P : Program) (t e : TypeId) : Bool := match P.underlying t with
  | some (.slice e') => e == e'
  | _ => false
def place (P : Program) (u : TypeDesc) (i : Nat) : Option (Nat × Nat) := match u with
  | .struct fs => match fs[i]? with
    | some f => match P.info? f.type with
      | some inf => some (f.offset, inf.size)
      | none => none
    | none => none
  | .array _ e => match P.info? e with
    | some inf => some (i * inf.size, inf.size)
    | none => none
  | _ => none
def allSized (P : Program) : List Field → Bool
  | [] => true
  | f :: fs => (P.info? f.type).isSome && allSized P fs
def buildable (P : Program) (u : TypeDesc) : Bool := match u with
  | .struct fs => allSized P fs.toList
  | .array _ e => (P.info? e).isSome
  | _ => false
def parts3Ok (P : Program) (u : TypeDesc) : List (Nat × Nat × Opnd) → List (Nat × Operand) → Bool
  | [], [] => true
  | (o, s, x) :: l, (i, y) :: k => decide (place P u i = some (o, s)) && decide (0 < s) && opndOk x y && parts3Ok P u l k
  | _, _ => false
def parts2Ok : List (Nat × Opnd) → List (Nat × Operand) → Bool
  | [], [] => true
  | (i, x) :: l, (j, y) :: k => i == j && opndOk x y && parts2Ok l k
  | _, _ => false
def flatFields (P : Program) : List Field → Nat → List Nat → Bool
  | [], _, [] => true
  | f :: fs, i, k :: ks => (f.name != "_") && (f.offset == i) && sizeIs P f.type 1 &&
      (match P.underlying f.type with | some (.int _) => k == 1 | some .bool => k == 2 | some .string => k == 3 | _ => false) && flatFields P fs (i + 1) ks
  | _, _, _ => false
def eqType (P : Program) (t : TypeId) (kd : List Nat) : Bool := match P.underlying t with
  | some .bool => decide (kd = [0])
  | some (.slice _) => decide (kd = [9])
  | some (.struct fs) => flatFields P fs.toList 0 kd && !P.stoodInHeld t && !P.eqGuardType P.depth t && (match kd with | k :: _ => k != 0 && k != 9 | [] => false)
  | _ => false
def keyTy (P : Program) (k : TypeId) (str : Bool) : Bool := match P.underlying k with
  | some (.int _) => !str
  | some .string => str
  | _ => false
def zeroOne (P : Program) (t : TypeId) (z : AVal) : Bool := match P.info? t with
  | some i => match i.zero with
    | some v => const1 z v
    | none => false
  | none => false
def keyKind (P : Program) (t : TypeId) (str : Bool) (z : AVal) : Bool := match P.underlying t with
  | some (.map k e) => keyTy P k str && zeroOne P e z
  | _ => false
def mapKey (P : Program) (t : TypeId) (str : Bool) : Bool := match P.underlying t with
  | some (.map k _) => keyTy P k str
  | _ => false
def fieldOff (P : Program) (t : TypeId) (i off : Nat) : Bool := match P.underlying t with
  | some (.struct fs) => match fs[i]? with
    | some f => f.offset == off
    | none => false
  | _ => false
def faddrOk (P : Program) (t : TypeId) (i off : Nat) : Bool := match P.underlying t with
  | some (.struct fs) => match fs[i]? with
    | some f => f.offset == off && (match P.info? f.type with | some inf => decide (inf.size ≠ 0) | none => false)
    | none => false
  | _ => false
def fieldTy (P : Program) (t : TypeId) (i : Nat) : Option TypeId := match P.underlying t with
  | some (.struct fs) => (fs[i]?).map (·.type)
  | _ => none
def lenTy (P : Program) (t : TypeId) (str : Bool) : Bool := match P.underlying t with
  | some .string => str
  | some (.slice _) => !str
  | _ => false
def sliceTy (P : Program) (t : TypeId) (sz : Nat) : Bool := match P.underlying t with
  | some (.slice e) => sizeIs P e sz && decide (0 < sz)
  | some .string => sz == 0
  | _ => false

def opOk (P : Program) (a : AOp) (o : Op) : Bool := match a, o with
  | .mv x, .move y => opndOk x y
  | .mv x, .assign y => opndOk x y
  | .pick c x y, .pick c' x' y' => opndOk c c' && opndOk x x' && opndOk y y'
  | .alloc t z, .alloc t' => t == t' && zeroIs P t z
  | .box t x, .box t' y => t == t' && opndOk x y
  | .build z ps, .build t qs => zeroIs P t z && (match P.underlying t with | some u => buildable P u && parts3Ok P u ps qs.toList | none => false)
  | .bslice e sz l z ps, .buildSlice t l' qs => sliceOf P t e && sizeIs P e sz && zeroIs P e z && l == l' && decide (l * sz ≤ 16777216) && decide (0 < sz) && parts2Ok ps qs.toList
  | .load sz ag x, .load t y => sizeIs P t sz && aggIs P t ag && opndOk x y
  | .store sz x v, .store t y u => sizeIs P t sz && opndOk x y && opndOk v u
  | .bin op x y, .binOp op' t x' y' _ => decide (op = op') && opndOk x x' && opndOk y y'
  | .eq ne kd x y, .binOp op' t x' y' _ => (match op' with | .eql => !ne | .neq => ne | _ => false) && eqType P t kd && opndOk x x' && opndOk y y'
  | .un op x, .unOp op' _ y => decide (op = op') && opndOk x y
  | .conv k x, .convert s t y => (P.underlying s).isSome && (match P.underlying t with | some (.int k') => decide (k = k') | _ => false) && opndOk x y
  | .bytes e x, .convert s t y => (match P.underlying s with | some .string => true | _ => false) && sliceOf P t e && (match P.underlying e with | some (.int .u8) => true | _ => false) && opndOk x y
  | .mkf f xs ys, .makeFunc (.func g) xs' ys' => f == g && opndsOk xs xs'.toList && opndsOk ys ys'.toList
  | .mkmap, .makeMap t none => true
  | .mkslice e sz b z l c, .makeSlice t l' c' => sliceOf P t e && sizeIs P e sz && bytesIs P e b && zeroIs P e z && decide (0 < b) && decide (0 < sz) && opndOk l l' && opndOk c c'
  | .slice sz x lo hi mx, .slice t y lo' hi' mx' => sliceTy P t sz && opndOk x y && oopOk lo lo' && oopOk hi hi' && oopOk mx mx'
  | .faddr off x, .fieldAddr t y i => faddrOk P t i off && opndOk x y
  | .field off sz ag x, .field t y i => fieldOff P t i off && (match fieldTy P t i with | some u => sizeIs P u sz && aggIs P u ag | none => false) && opndOk x y
  | .iaddr sz x i, .indexAddr t y j => (match P.underlying t with | some (.slice e) => sizeIs P e sz | _ => false) && opndOk x y && opndOk i j
  | .iarr sz l x i, .indexAddr t y j => (match P.underlying t with | some (.array l' e) => l == l' && sizeIs P e sz | _ => false) && opndOk x y && opndOk i j
  | .index sz l ag x i, .index t y j => (match P.underlying t with | some (.array l' e) => l == l' && sizeIs P e sz && aggIs P e ag | _ => false) && opndOk x y && opndOk i j
  | .sindex x i, .index t y j => (match P.underlying t with | some .string => true | _ => false) && opndOk x y && opndOk i j
  | .look s z m k ok, .lookup t m' k' ok' => keyKind P t s z && ok == ok' && opndOk m m' && opndOk k k'
  | .mupd s m k v, .mapUpdate t m' k' v' => mapKey P t s && opndOk m m' && opndOk k k' && opndOk v v'
  | .mupd s m k v, .insert t m' k' v' => mapKey P t s && opndOk m m' && opndOk k k' && opndOk v v'
  | .ext x i, .extract y j => i == j && opndOk x y
  | .len s x, .call c => (match c.callee with | .builtin .len => true | _ => false) && decide (c.args.size = 1) && (match c.argTypes[0]? with | some t => lenTy P t s | none => false) && decide (c.argTypes.size = 1) && opndsOk [x] c.args.toList
  | .minmax mx x xs, .call c => (match c.callee with | .builtin .max => mx | .builtin .min => !mx | _ => false) && opndsOk (x :: xs) c.args.toList
  | .app e sz b z s x, .call c => (match c.callee with | .builtin .append => true | _ => false) && decide (c.args.size = 2) &&
      (match c.argTypes[0]?, c.argTypes[1]? with | some t, some u => sliceOf P t e && decide (t = u) | _, _ => false) && decide (c.argTypes.size = 2) &&
      sizeIs P e sz && bytesIs P e b && zeroIs P e z && decide (0 < b) && decide (0 < sz) && opndsOk [s, x] c.args.toList
  | .call f xs, .call c => (match c.callee with | .value (.func g) => f == g | _ => false) && (match P.funcs[f]? with | some fn => fn.body.isSome && fn.name != "runtime.NumGoroutine" | none => false) && opndsOk xs c.args.toList
  | .nils sz x, .move y => opndOk x y
  | .nils sz x, .assign y => opndOk x y
  | .nbuild _ z ps, .build t qs => zeroIs P t z && (match P.underlying t with | some u => buildable P u && parts3Ok P u ps qs.toList | none => false)
  | .nalloc _ t z, .alloc t' => t == t' && zeroIs P t z
  | .nilm x, .move y => opndOk x y
  | .nilm x, .assign y => opndOk x y
  | .mkmat e b l c, .makeSlice t l' c' => sliceOf P t e && sizeIs P e 1 && bytesIs P e b && zeroIs P e [.nilSlice] && decide (0 < b) && opndOk l l' && opndOk c c'
  | .storem x v, .store t y u => sizeIs P t 1 && opndOk x y && opndOk v u
  | .appm e b s x, .call c => (match c.callee with | .builtin .append => true | _ => false) && decide (c.args.size = 2) &&
      (match c.argTypes[0]?, c.argTypes[1]? with | some t, some u => sliceOf P t e && decide (t = u) | _, _ => false) && decide (c.argTypes.size = 2) &&
      sizeIs P e 1 && bytesIs P e b && zeroIs P e [.nilSlice] && decide (0 < b) && opndsOk [s, x] c.args.toList
  | .stop, .makeInterface _ _ => true
  | .stop, .panic _ => true
  | .nilck x, .nilCheck y => opndOk x y
  | .cap x, .call c => (match c.callee with | .builtin .cap => true | _ => false) && decide (c.args.size = 1) && (match c.argTypes[0]? with | some t => lenTy P t false | none => false) && decide (c.argTypes.size = 1) && opndsOk [x] c.args.toList
  | .copy e d s, .call c => (match c.callee with | .builtin .copy => true | _ => false) && decide (c.args.size = 2) &&
      (match c.argTypes[0]? with | some t => sliceOf P t e | _ => false) && decide (c.argTypes.size = 2) && sizeIs P e 1 && opndsOk [d, s] c.args.toList
  | .clear e sz z x, .call c => (match c.callee with | .builtin .clear => true | _ => false) && decide (c.args.size = 1) &&
      (match c.argTypes[0]? with | some t => sliceOf P t e | _ => false) && decide (c.argTypes.size = 1) && sizeIs P e sz && zeroIs P e z && decide (0 < sz) && opndsOk [x] c.args.toList
  | .callv g xs, .call c => (match c.callee with | .value h => opndOk g h | _ => false) && opndsOk xs c.args.toList
  | _, _ => false
end Go.AI
