/-
  AN ABSTRACT INTERPRETER OF THE MODEL'S CODE: values whose blocks bear names of its own, a heap of named objects, one order of evaluation.
  No program in sight. The text YtcghmpalmedkiaaAiSound proves that what it computes the machine does, whatever the tape answers.
-/
import GoSem.Dispatch
set_option linter.unusedVariables false
namespace Go.AI
noncomputable section

inductive Nm where
  | p (a : Nat)
  | v (a i : Nat)
  deriving Inhabited, DecidableEq

inductive AVal where
  | undef
  | bool (b : Bool)
  | int (k : IntKind) (n : Int)
  | str (s : ByteArray)
  | nilPtr | nilSlice | nilMap | nilFunc | nilIface
  | ptr (a : Nm) (off : Nat)
  | slice (a : Nm) (off len cap sz : Nat) (ex : Bool)
  | map (a : Nat)
  | func (f : Nat) (first cap : List AVal)
  | yield (a : Nat)
  | agg (cs : List AVal)
  | tup (vs : List AVal)
  deriving Inhabited

inductive Opnd where
  | t (n : Nat)
  | c (v : AVal)
  deriving Inhabited

inductive AOp where
  | mv (x : Opnd)
  | pick (c a b : Opnd)
  | alloc (elem : TypeId) (zero : List AVal)
  | box (elem : TypeId) (x : Opnd)
  | build (zero : List AVal) (parts : List (Nat × Nat × Opnd))
  | bslice (elem : TypeId) (esz len : Nat) (zero : List AVal) (parts : List (Nat × Opnd))
  | load (sz : Nat) (ag : Bool) (x : Opnd)
  | store (sz : Nat) (a v : Opnd)
  | bin (op : BinOp) (x y : Opnd)
  /-- equality; of what: [0] bools, [9] a slice with nil, else a struct's fields: 1 numbers, 2 bools, 3 strings -/
  | eq (ne : Bool) (kd : List Nat) (x y : Opnd)
  | un (op : UnOp) (x : Opnd)
  | conv (k : IntKind) (x : Opnd)
  | bytes (elem : TypeId) (x : Opnd)
  | mkf (f : Nat) (first cap : List Opnd)
  | mkmap
  | mkslice (elem : TypeId) (esz bytes : Nat) (zero : List AVal) (l c : Opnd)
  | slice (esz : Nat) (x : Opnd) (lo hi mx : Option Opnd)
  | faddr (off : Nat) (x : Opnd)
  | field (off sz : Nat) (ag : Bool) (x : Opnd)
  | iaddr (esz : Nat) (x i : Opnd)
  | iarr (esz len : Nat) (x i : Opnd)
  | index (esz len : Nat) (ag : Bool) (x i : Opnd)
  | sindex (x i : Opnd)
  /-- a map's entry, keys being strings or numbers -/
  | look (str : Bool) (zero : AVal) (m k : Opnd) (ok : Bool)
  | mupd (str : Bool) (m k v : Opnd)
  | ext (x : Opnd) (i : Nat)
  | len (str : Bool) (x : Opnd)
  | minmax (mx : Bool) (x : Opnd) (xs : List Opnd)
  | app (elem : TypeId) (esz bytes : Nat) (zero : List AVal) (s x : Opnd)
  | call (f : Nat) (args : List Opnd)
  | callv (g : Opnd) (args : List Opnd)
  /-- a nil slice, as a slice of no elements that has a row of its own; a struct, its nil slices read so -/
  | nils (sz : Nat) (x : Opnd)
  | nbuild (szs : List Nat) (zero : List AVal) (parts : List (Nat × Nat × Opnd))
  | nalloc (szs : List Nat) (elem : TypeId) (zero : List AVal)
  /-- rows of slices: a nil one, a new one, a slice put into one, one appended to -/
  | nilm (x : Opnd)
  | mkmat (elem : TypeId) (bytes : Nat) (l c : Opnd)
  | storem (a v : Opnd)
  | appm (elem : TypeId) (bytes : Nat) (s x : Opnd)
  /-- never carried out -/
  | stop
  | nilck (x : Opnd)
  | cap (x : Opnd)
  | copy (elem : TypeId) (d s : Opnd)
  | clear (elem : TypeId) (esz : Nat) (zero : List AVal) (x : Opnd)
  deriving Inhabited

structure AOper where
  dst : Option Nat
  op : AOp
  guard : Option (Nat × Bool) := none
  /-- in a region that draws: the operation's order to some other one is open -/
  q : Bool := false
  /-- the earlier operations of the region to which its order is open, where they may make objects -/
  inc : List Nat := []
  deriving Inhabited

inductive ACode where
  | skip
  | region (draw : Bool) (ops : List AOper)
  | seq (a b : ACode)
  | cond (c : Opnd) (thn els : ACode)
  | block (id : Nat) (body : ACode)
  /-- what is live at its head; what is live behind it -/
  | loop (live outs : List Nat) (body : ACode)
  | exit (id : Nat)
  | ret
  | rangeFunc (live : List Nat) (g : Opnd) (params : List Nat) (assign body : ACode)
  deriving Inhabited

inductive AExit where
  | normal
  | exit (id : Nat)
  | ret
  deriving DecidableEq, Inhabited

inductive AObj where
  | dead
  | row (rw flat : Bool) (cells : List AVal)
  | map (rw : Bool) (es : List (AVal × AVal))
  /-- a loop over a function: ready (or busy, done), the frame's temporaries, the jump that is pending -/
  | loop (rw : Bool) (st : LoopState) (tmps : List (Nat × AVal)) (params : List Nat) (assign body : ACode) (pend : AExit)
  /-- a row of slices, each with a row of its own; none: not yet set -/
  | mat (rw : Bool) (rows : List (Option (List AVal)))
  deriving Inhabited

abbrev Heap := List AObj
abbrev Env := List (Nat × AVal)


/-! Every function here is spelled by recursors whose arms are closed terms: the kernel, reckoning, then copies none of them. -/
def nth {α : Type} (l : List α) : Nat → Option α := List.rec (motive := fun _ => Nat → Option α) (fun _ => none) (fun x _ ih n => Nat.rec (some x) (fun m _ => ih m) n) l
def len {α : Type} (l : List α) : Nat := List.rec (motive := fun _ => Nat) 0 (fun _ _ n => Nat.succ n) l
def upd {α : Type} (l : List α) : Nat → α → List α :=
  List.rec (motive := fun _ => Nat → α → List α) (fun _ _ => []) (fun x t ih n y => Nat.rec (y :: t) (fun m _ => x :: ih m y) n) l
def apd {α : Type} (l : List α) : List α → List α := List.rec (motive := fun _ => List α → List α) (fun k => k) (fun x _ ih k => x :: ih k) l
def fst {α : Type} (l : List α) : Nat → List α := List.rec (motive := fun _ => Nat → List α) (fun _ => []) (fun x _ ih n => Nat.rec [] (fun m _ => x :: ih m) n) l
def rest {α : Type} (l : List α) : Nat → List α := List.rec (motive := fun _ => Nat → List α) (fun _ => []) (fun x t ih n => Nat.rec (x :: t) (fun m _ => ih m) n) l
def upto (n : Nat) : Nat → List Nat := Nat.rec (motive := fun _ => Nat → List Nat) (fun _ => []) (fun _ ih i => i :: ih (Nat.succ i)) n
def ite' {α : Type} (b : Bool) (x y : α) : α := Bool.rec y x b
def ob' {α : Type} (o : Option α) (f : α → AObj) : AObj := Option.rec .dead f o
def ob {α β : Type} (o : Option α) (f : α → Option β) : Option β := Option.rec none f o
def andB (a b : Bool) : Bool := Bool.rec false b a
def orB (a b : Bool) : Bool := Bool.rec b true a
def notB (a : Bool) : Bool := Bool.rec true false a
def beqB (a b : Bool) : Bool := Bool.rec (notB b) b a

/-! ### names -/
def Nm.base (x : Nm) : Nat := Nm.rec (fun a => a) (fun a _ => a) x
def Nm.to (x : Nm) (b : Nat) : Nm := Nm.rec (fun _ => .p b) (fun _ i => .v b i) x
def Nm.plain (x : Nm) : Option Nat := Nm.rec (fun a => some a) (fun _ _ => none) x
def AVal.flat (v : AVal) : Bool :=
  AVal.rec (motive_1 := fun _ => Bool) (motive_2 := fun _ => Bool) false (fun _ => true) (fun _ _ => true) (fun _ => true) true true true true true
    (fun _ _ => false) (fun _ _ _ _ _ _ => false) (fun _ => false) (fun _ _ _ a b => andB a b) (fun _ => false) (fun _ a => a) (fun _ a => a) true (fun _ _ a b => andB a b) v
def AVal.flatL (l : List AVal) : Bool := List.rec (motive := fun _ => Bool) true (fun v _ ih => andB v.flat ih) l
def AVal.names (v : AVal) : List Nat :=
  AVal.rec (motive_1 := fun _ => List Nat) (motive_2 := fun _ => List Nat) [] (fun _ => []) (fun _ _ => []) (fun _ => []) [] [] [] [] []
    (fun a _ => [a.base]) (fun a _ _ _ _ _ => [a.base]) (fun a => [a]) (fun _ _ _ a b => apd a b) (fun a => [a]) (fun _ a => a) (fun _ a => a) [] (fun _ _ a b => apd a b) v
def AVal.namesL (l : List AVal) : List Nat := List.rec (motive := fun _ => List Nat) [] (fun v _ ih => apd v.names ih) l
def named (o : Option Nat) (f : Nat → AVal) : AVal := Option.rec .undef f o
def namedN (o : Option Nat) (x : Nm) (f : Nm → AVal) : AVal := Option.rec .undef (fun b => f (x.to b)) o
def AVal.ren (m : Nat → Option Nat) (v : AVal) : AVal :=
  AVal.rec (motive_1 := fun _ => AVal) (motive_2 := fun _ => List AVal) .undef .bool .int .str .nilPtr .nilSlice .nilMap .nilFunc .nilIface
    (fun a o => namedN (m a.base) a fun b => .ptr b o) (fun a o l c z e => namedN (m a.base) a fun b => .slice b o l c z e) (fun a => named (m a) .map)
    (fun f _ _ a b => .func f a b) (fun a => named (m a) .yield) (fun _ a => .agg a) (fun _ a => .tup a) [] (fun _ _ a b => a :: b) v
def AVal.renL (m : Nat → Option Nat) (l : List AVal) : List AVal := List.rec (motive := fun _ => List AVal) [] (fun v _ ih => v.ren m :: ih) l
def namesE (e : Env) : List Nat := List.rec (motive := fun _ => List Nat) [] (fun p _ ih => apd p.2.names ih) e
def renE (m : Nat → Option Nat) (e : Env) : Env := List.rec (motive := fun _ => Env) [] (fun p _ ih => (p.1, p.2.ren m) :: ih) e

def AObj.names (o : AObj) : List Nat :=
  AObj.rec (motive := fun _ => List Nat) [] (fun _ f cells => Bool.rec (AVal.namesL cells) [] f) (fun _ _ => []) (fun _ _ tmps _ _ _ _ => namesE tmps) (fun _ _ => []) o
def AObj.ren (m : Nat → Option Nat) (o : AObj) : AObj :=
  AObj.rec (motive := fun _ => AObj) .dead (fun rw f cells => Bool.rec (.row rw false (AVal.renL m cells)) (.row rw true cells) f) .map
    (fun rw st tmps ps a b pd => .loop rw st (renE m tmps) ps a b pd) .mat o
def AObj.ro (o : AObj) : AObj :=
  AObj.rec (motive := fun _ => AObj) .dead (fun _ f cells => .row false f cells) (fun _ es => .map false es) (fun _ st tmps ps a b pd => .loop false st tmps ps a b pd) (fun _ rows => .mat false rows) o

def hget (H : Heap) : Nat → AObj := List.rec (motive := fun _ => Nat → AObj) (fun _ => .dead) (fun o _ ih n => Nat.rec o (fun m _ => ih m) n) H
def inner (i : Nat) (o : AObj) : AObj :=
  AObj.rec (motive := fun _ => AObj) .dead (fun _ _ _ => .dead) (fun _ _ => .dead) (fun _ _ _ _ _ _ _ => .dead)
    (fun rw rows => ob' (nth rows i) fun r => ob' r fun cs => .row rw true cs) o
def nget (H : Heap) (x : Nm) : AObj := Nm.rec (fun a => hget H a) (fun a i => inner i (hget H a)) x
def has (a : Nat) (l : List Nat) : Bool := List.rec (motive := fun _ => Bool) false (fun b _ ih => ite' (Nat.beq a b) true ih) l
def idx (a : Nat) (l : List Nat) : Nat → Option Nat :=
  List.rec (motive := fun _ => Nat → Option Nat) (fun _ => none) (fun b _ ih i => ite' (Nat.beq a b) (some i) (ih (Nat.succ i))) l
def reach (H : Heap) (n : Nat) : List Nat → List Nat → List Nat :=
  Nat.rec (motive := fun _ => List Nat → List Nat → List Nat) (fun _ acc => acc)
    (fun _ ih todo acc => List.rec (motive := fun _ => List Nat) acc
      (fun a todo _ => ite' (has a acc) (ih todo acc) (ih (apd (hget H a).names todo) (apd acc [a]))) todo) n
def reachFuel : Nat := 4096
def objNames (l : List AObj) : List Nat := List.rec (motive := fun _ => List Nat) [] (fun o _ ih => apd o.names ih) l
def fromOn (b : Nat) (l : List Nat) : List Nat := List.rec (motive := fun _ => List Nat) [] (fun a _ ih => ite' (Nat.ble b a) (a :: ih) ih) l
def pick (H : Heap) (m : Nat → Option Nat) (l : List Nat) : Heap := List.rec (motive := fun _ => Heap) [] (fun a _ ih => (hget H a).ren m :: ih) l
def pickRo (H : Heap) (m : Nat → Option Nat) (l : List Nat) : Heap := List.rec (motive := fun _ => Heap) [] (fun a _ ih => ((hget H a).ren m).ro :: ih) l
def backTo (m : Nat → Option Nat) (keep : List Nat) : Heap → Heap → Heap :=
  List.rec (motive := fun _ => Heap → Heap → Heap) (fun _ H => H)
    (fun a _ ih H' H => List.rec (motive := fun _ => Heap) H (fun o H' _ => ih H' (upd H a (o.ren m))) H') keep
def mapIn (keep : List Nat) (a : Nat) : Option Nat := idx a keep 0
def mapOut (keep new : List Nat) (k base : Nat) (i : Nat) : Option Nat :=
  ite' (Nat.blt i k) (nth keep i) (ob (idx i new 0) fun j => some (Nat.add base j))
def backOn (quiet : Bool) (keep : List Nat) (H : Heap) (v : AVal) (H' : Heap) (new : List Nat) : AVal × Heap :=
  (v.ren (mapOut keep new (len keep) (len H)),
    apd (ite' quiet H (backTo (mapOut keep new (len keep) (len H)) keep (fst H' (len keep)) H)) (pick H' (mapOut keep new (len keep) (len H)) new))
def newOn (quiet : Bool) (k : Nat) (v : AVal) (H' : Heap) : List Nat :=
  fromOn k (reach H' reachFuel (apd v.names (ite' quiet [] (objNames (fst H' k)))) [])
def AVal.unex (v : AVal) : AVal :=
  AVal.rec (motive_1 := fun _ => AVal) (motive_2 := fun _ => List AVal) .undef .bool .int .str .nilPtr .nilSlice .nilMap .nilFunc .nilIface
    .ptr (fun a o l c z _ => .slice a o l c z false) .map (fun f _ _ a b => .func f a b) .yield (fun _ a => .agg a) (fun _ a => .tup a) [] (fun _ _ a b => a :: b) v
def unexV (l : List AVal) : List AVal := List.rec (motive := fun _ => List AVal) [] (fun v _ ih => v.unex :: ih) l
def unexE (e : Env) : Env := List.rec (motive := fun _ => Env) [] (fun p _ ih => (p.1, p.2.unex) :: ih) e
def callOn1 (run : List AVal → Heap → Option (AVal × Heap)) (quiet : Bool) (args : List AVal) (H : Heap) (keep : List Nat) : Option (AVal × Heap) :=
  ob (run (unexV (AVal.renL (mapIn keep) args)) (ite' quiet (pickRo H (mapIn keep) keep) (pick H (mapIn keep) keep)))
    fun r => some (backOn quiet keep H r.1 r.2 (newOn quiet (len keep) r.1 r.2))
def belowN (n : Nat) (l : List Nat) : List Nat := List.rec (motive := fun _ => List Nat) [] (fun a _ ih => ite' (Nat.blt a n) (a :: ih) ih) l
def callOn (run : List AVal → Heap → Option (AVal × Heap)) (quiet : Bool) (args : List AVal) (H : Heap) : Option (AVal × Heap) :=
  callOn1 run quiet args H (belowN (len H) (reach H reachFuel (AVal.namesL args) []))

/-! ### the temporaries -/
def eget (e : Env) : Nat → AVal := List.rec (motive := fun _ => Nat → AVal) (fun _ => .undef) (fun p _ ih t => ite' (Nat.beq p.1 t) p.2 (ih t)) e
def Opnd.ev (e : Env) (x : Opnd) : AVal := Opnd.rec (motive := fun _ => AVal) (eget e) (fun v => v) x
def evL (e : Env) (l : List Opnd) : List AVal := List.rec (motive := fun _ => List AVal) [] (fun x _ ih => x.ev e :: ih) l
def put (e : Env) (d : Option Nat) (v : AVal) : Env := Option.rec e (fun d => (d, v) :: e) d
def restr (e : Env) (l : List Nat) : Env := List.rec (motive := fun _ => Env) [] (fun t _ ih => (t, eget e t) :: ih) l
def gcKeep (b : Nat) (e1 : Env) (H : Heap) : List Nat := apd (upto b 0) (fromOn b (reach H reachFuel (apd (namesE e1) (objNames (fst H b))) []))
def gcE (keep : List Nat) (e1 : Env) : Env := renE (mapIn keep) e1
def gcH (keep : List Nat) (H : Heap) : Heap := pick H (mapIn keep) keep

/-! ### numbers -/
def klo (k : IntKind) : Int := IntKind.rec (motive := fun _ => Int) (-128) (-32768) (-2147483648) (-9223372036854775808) 0 0 0 0 k
def khi (k : IntKind) : Int := IntKind.rec (motive := fun _ => Int) 127 32767 2147483647 9223372036854775807 255 65535 4294967295 18446744073709551615 k
def ile (x : Int) (y : Int) : Bool :=
  Int.rec (motive := fun _ => Int → Bool) (fun a y => Int.rec (motive := fun _ => Bool) (fun b => Nat.ble a b) (fun _ => false) y)
    (fun a y => Int.rec (motive := fun _ => Bool) (fun _ => true) (fun b => Nat.ble b a) y) x y
def ieq (x : Int) (y : Int) : Bool :=
  Int.rec (motive := fun _ => Int → Bool) (fun a y => Int.rec (motive := fun _ => Bool) (fun b => Nat.beq a b) (fun _ => false) y)
    (fun a y => Int.rec (motive := fun _ => Bool) (fun _ => false) (fun b => Nat.beq a b) y) x y
def aw (k : IntKind) (n : Int) : Int := ite' (andB (ile (klo k) n) (ile n (khi k))) n (k.wrap n)
def kno (k : IntKind) : Nat := IntKind.rec (motive := fun _ => Nat) 0 1 2 3 4 5 6 7 k
def keq (a b : IntKind) : Bool := Nat.beq (kno a) (kno b)
def inx (n : Int) (l : Nat) : Option Nat := Int.rec (motive := fun _ => Option Nat) (fun m => ite' (Nat.blt m l) (some m) none) (fun _ => none) n

/-! ### what a value is -/
def asInt (v : AVal) : Option (IntKind × Int) :=
  AVal.rec (motive_1 := fun _ => Option (IntKind × Int)) (motive_2 := fun _ => Unit) none (fun _ => none) (fun k n => some (k, n)) (fun _ => none) none none none none none
    (fun _ _ => none) (fun _ _ _ _ _ _ => none) (fun _ => none) (fun _ _ _ _ _ => none) (fun _ => none) (fun _ _ => none) (fun _ _ => none) () (fun _ _ _ _ => ()) v
def asBool (v : AVal) : Option Bool :=
  AVal.rec (motive_1 := fun _ => Option Bool) (motive_2 := fun _ => Unit) none some (fun _ _ => none) (fun _ => none) none none none none none
    (fun _ _ => none) (fun _ _ _ _ _ _ => none) (fun _ => none) (fun _ _ _ _ _ => none) (fun _ => none) (fun _ _ => none) (fun _ _ => none) () (fun _ _ _ _ => ()) v
def asStr (v : AVal) : Option ByteArray :=
  AVal.rec (motive_1 := fun _ => Option ByteArray) (motive_2 := fun _ => Unit) none (fun _ => none) (fun _ _ => none) some none none none none none
    (fun _ _ => none) (fun _ _ _ _ _ _ => none) (fun _ => none) (fun _ _ _ _ _ => none) (fun _ => none) (fun _ _ => none) (fun _ _ => none) () (fun _ _ _ _ => ()) v
def asPtr (v : AVal) : Option (Nm × Nat) :=
  AVal.rec (motive_1 := fun _ => Option (Nm × Nat)) (motive_2 := fun _ => Unit) none (fun _ => none) (fun _ _ => none) (fun _ => none) none none none none none
    (fun a o => some (a, o)) (fun _ _ _ _ _ _ => none) (fun _ => none) (fun _ _ _ _ _ => none) (fun _ => none) (fun _ _ => none) (fun _ _ => none) () (fun _ _ _ _ => ()) v
def asMap (v : AVal) : Option Nat :=
  AVal.rec (motive_1 := fun _ => Option Nat) (motive_2 := fun _ => Unit) none (fun _ => none) (fun _ _ => none) (fun _ => none) none none none none none
    (fun _ _ => none) (fun _ _ _ _ _ _ => none) some (fun _ _ _ _ _ => none) (fun _ => none) (fun _ _ => none) (fun _ _ => none) () (fun _ _ _ _ => ()) v
def asAgg (v : AVal) : Option (List AVal) :=
  AVal.rec (motive_1 := fun _ => Option (List AVal)) (motive_2 := fun _ => Unit) none (fun _ => none) (fun _ _ => none) (fun _ => none) none none none none none
    (fun _ _ => none) (fun _ _ _ _ _ _ => none) (fun _ => none) (fun _ _ _ _ _ => none) (fun _ => none) (fun cs _ => some cs) (fun _ _ => none) () (fun _ _ _ _ => ()) v
def asTup (v : AVal) : Option (List AVal) :=
  AVal.rec (motive_1 := fun _ => Option (List AVal)) (motive_2 := fun _ => Unit) none (fun _ => none) (fun _ _ => none) (fun _ => none) none none none none none
    (fun _ _ => none) (fun _ _ _ _ _ _ => none) (fun _ => none) (fun _ _ _ _ _ => none) (fun _ => none) (fun _ _ => none) (fun cs _ => some cs) () (fun _ _ _ _ => ()) v
structure Sl where
  a : Nm
  off : Nat
  len : Nat
  cap : Nat
  sz : Nat
  ex : Bool
def asSl (v : AVal) : Option Sl :=
  AVal.rec (motive_1 := fun _ => Option Sl) (motive_2 := fun _ => Unit) none (fun _ => none) (fun _ _ => none) (fun _ => none) none none none none none
    (fun _ _ => none) (fun a o l c z e => some ⟨a, o, l, c, z, e⟩) (fun _ => none) (fun _ _ _ _ _ => none) (fun _ => none) (fun _ _ => none) (fun _ _ => none) () (fun _ _ _ _ => ()) v
def isNilS (v : AVal) : Bool :=
  AVal.rec (motive_1 := fun _ => Bool) (motive_2 := fun _ => Unit) false (fun _ => false) (fun _ _ => false) (fun _ => false) false true false false false
    (fun _ _ => false) (fun _ _ _ _ _ _ => false) (fun _ => false) (fun _ _ _ _ _ => false) (fun _ => false) (fun _ _ => false) (fun _ _ => false) () (fun _ _ _ _ => ()) v
def AVal.one (v : AVal) : Bool :=
  AVal.rec (motive_1 := fun _ => Bool) (motive_2 := fun _ => Unit) false (fun _ => true) (fun _ _ => true) (fun _ => true) true true true true true
    (fun _ _ => true) (fun _ _ _ _ _ _ => true) (fun _ => true) (fun _ _ _ _ _ => true) (fun _ => true) (fun _ _ => false) (fun _ _ => false) () (fun _ _ _ _ => ()) v
def AVal.cells (v : AVal) : List AVal := Option.rec [v] (fun cs => cs) (asAgg v)
def oneL (l : List AVal) : Bool := List.rec (motive := fun _ => Bool) true (fun v _ ih => andB v.one ih) l
def rowOf (o : AObj) : Option (Bool × Bool × List AVal) :=
  AObj.rec (motive := fun _ => Option (Bool × Bool × List AVal)) none (fun rw f cs => some (rw, f, cs)) (fun _ _ => none) (fun _ _ _ _ _ _ _ => none) (fun _ _ => none) o
def mapOf (o : AObj) : Option (Bool × List (AVal × AVal)) :=
  AObj.rec (motive := fun _ => Option (Bool × List (AVal × AVal))) none (fun _ _ _ => none) (fun rw es => some (rw, es)) (fun _ _ _ _ _ _ _ => none) (fun _ _ => none) o
def matOf (o : AObj) : Option (Bool × List (Option (List AVal))) :=
  AObj.rec (motive := fun _ => Option (Bool × List (Option (List AVal)))) none (fun _ _ _ => none) (fun _ _ => none) (fun _ _ _ _ _ _ _ => none) (fun rw rows => some (rw, rows)) o

def bytesEq (l : List UInt8) : List UInt8 → Bool :=
  List.rec (motive := fun _ => List UInt8 → Bool) (fun k => List.rec (motive := fun _ => Bool) true (fun _ _ _ => false) k)
    (fun a _ ih k => List.rec (motive := fun _ => Bool) false (fun b k _ => ite' (Nat.beq a.toNat b.toNat) (ih k) false) k) l
def strEq (a b : ByteArray) : Bool := bytesEq a.data.toList b.data.toList

def iand (k : IntKind) (x y : Int) : Int := k.wrap (BitVec.ofInt k.bits x &&& BitVec.ofInt k.bits y).toNat
def ior (k : IntKind) (x y : Int) : Int := k.wrap (BitVec.ofInt k.bits x ||| BitVec.ofInt k.bits y).toNat
def ixor (k : IntKind) (x y : Int) : Int := k.wrap (BitVec.ofInt k.bits x ^^^ BitVec.ofInt k.bits y).toNat
def ishl (k : IntKind) (x y : Int) : Int := k.wrap (x * 2 ^ min y.toNat k.bits)
def ishr (k : IntKind) (x y : Int) : Int := x.fdiv (2 ^ min y.toNat k.bits)
def ibin (op : BinOp) (k : IntKind) (x y : Int) : Option AVal := match op with
  | .add => some (.int k (aw k (Int.add x y)))
  | .sub => some (.int k (aw k (Int.sub x y)))
  | .mul => some (.int k (aw k (Int.mul x y)))
  | .quo => ite' (ieq y 0) none (some (.int k (aw k (Int.tdiv x y))))
  | .rem => ite' (ieq y 0) none (some (.int k (Int.tmod x y)))
  | .eql => some (.bool (ieq x y))
  | .neq => some (.bool (notB (ieq x y)))
  | .lss => some (.bool (notB (ile y x)))
  | .leq => some (.bool (ile x y))
  | .gtr => some (.bool (notB (ile x y)))
  | .geq => some (.bool (ile y x))
  | .and => some (.int k (iand k x y))
  | .or => some (.int k (ior k x y))
  | .xor => some (.int k (ixor k x y))
  | .shl => ite' (ile 0 y) (some (.int k (ishl k x y))) none
  | .shr => ite' (ile 0 y) (some (.int k (ishr k x y))) none
  | _ => none
def sbin (op : BinOp) (x y : ByteArray) : Option AVal := match op with
  | .eql => some (.bool (strEq x y))
  | .neq => some (.bool (notB (strEq x y)))
  | .add => ite' (Nat.blt (Nat.add x.size y.size) 1000000000000) (some (.str (x ++ y))) none
  | _ => none
def abin (op : BinOp) (x y : AVal) : Option AVal :=
  Option.rec (ob (asStr x) fun s => ob (asStr y) fun t => sbin op s t)
    (fun p => ob (asInt y) fun q => ite' (keq p.1 q.1) (ibin op p.1 p.2 q.2) none) (asInt x)
def eqI (x y : AVal) : Option Bool := ob (asInt x) fun p => ob (asInt y) fun q => ite' (keq p.1 q.1) (some (ieq p.2 q.2)) none
def eqB (x y : AVal) : Option Bool := ob (asBool x) fun a => ob (asBool y) fun b => some (beqB a b)
def eqS (x y : AVal) : Option Bool := ob (asStr x) fun s => ob (asStr y) fun t => some (strEq s t)
def eqN (x y : AVal) : Option Bool := ite' (isNilS y) (ite' (isNilS x) (some true) (ob (asSl x) fun s => ite' (andB (Nat.beq s.len 0) (Nat.beq s.cap 0)) none (some false))) none
def eq1 (k : Nat) (x y : AVal) : Option Bool := ite' (Nat.beq k 1) (eqI x y) (ite' (Nat.beq k 2) (eqB x y) (ite' (Nat.beq k 3) (eqS x y) none))
def eqFs (ks : List Nat) : List AVal → List AVal → Option Bool :=
  List.rec (motive := fun _ => List AVal → List AVal → Option Bool) (fun cs ds => ite' (andB (Nat.beq (len cs) 0) (Nat.beq (len ds) 0)) (some true) none)
    (fun k _ ih cs ds => List.rec (motive := fun _ => Option Bool) none (fun c cs _ => List.rec (motive := fun _ => Option Bool) none (fun d ds _ => ob (eq1 k c d) fun t => ite' t (ih cs ds) (some false)) ds) cs) ks
def eqv (kd : List Nat) (x y : AVal) : Option Bool :=
  List.rec none (fun k l _ => ite' (Nat.beq k 0) (eqB x y) (ite' (Nat.beq k 9) (eqN x y) (ob (asAgg x) fun cs => ob (asAgg y) fun ds => eqFs (k :: l) cs ds))) kd

def aun (op : UnOp) (v : AVal) : Option AVal := match op with
  | .not => ob (asBool v) fun b => some (.bool (notB b))
  | .neg => ob (asInt v) fun p => some (.int p.1 (aw p.1 (Int.sub 0 p.2)))
  | _ => none
def minmax2 (mx : Bool) (x y : AVal) : Option AVal :=
  ob (asInt x) fun p => ob (asInt y) fun q => ite' (keq p.1 q.1)
    (some (.int p.1 (ite' mx (ite' (ile q.2 p.2) p.2 q.2) (ite' (ile p.2 q.2) p.2 q.2)))) none
def minmaxL (mx : Bool) (l : List AVal) : AVal → Option AVal :=
  List.rec (motive := fun _ => AVal → Option AVal) some (fun y _ ih x => ob (minmax2 mx x y) ih) l

/-! ### memory -/
def readAt (n : Nat) (cells : List AVal) : Nat → Option (List AVal) :=
  Nat.rec (motive := fun _ => Nat → Option (List AVal)) (fun _ => some []) (fun _ ih off => ob (nth cells off) fun v => ob (ih (Nat.succ off)) fun vs => some (v :: vs)) n
def writeAt (l : List AVal) : List AVal → Nat → Option (List AVal) :=
  List.rec (motive := fun _ => List AVal → Nat → Option (List AVal)) (fun cells _ => some cells)
    (fun v _ ih cells off => ite' (Nat.blt off (len cells)) (ih (upd cells off v) (Nat.succ off)) none) l
def readCells (ag : Bool) (sz : Nat) (cells : List AVal) (off : Nat) : Option AVal :=
  ite' ag (ob (readAt sz cells off) fun vs => some (.agg vs)) (ite' (Nat.beq sz 1) (nth cells off) none)
def hdr (a i : Nat) (r : Option (List AVal)) : AVal := Option.rec .nilSlice (fun cs => .slice (.v a i) 0 (len cs) (len cs) 1 false) r
def aloadM (H : Heap) (sz : Nat) (ag : Bool) (q : Nm × Nat) : Option AVal :=
  ite' (andB (notB ag) (Nat.beq sz 1)) (ob q.1.plain fun a => ob (matOf (hget H a)) fun r => ob (nth r.2 q.2) fun o => some (hdr a q.2 o)) none
def aload (H : Heap) (sz : Nat) (ag : Bool) (p : AVal) : Option AVal :=
  ob (asPtr p) fun q => Option.rec (aloadM H sz ag q) (fun r => readCells ag sz r.2.2 q.2) (rowOf (nget H q.1))
def setIn (i : Nat) (cs : List AVal) (o : AObj) : AObj :=
  AObj.rec (motive := fun _ => AObj) .dead (fun _ _ _ => .dead) (fun _ _ => .dead) (fun _ _ _ _ _ _ _ => .dead) (fun rw rows => .mat rw (upd rows i (some cs))) o
def nset (H : Heap) (x : Nm) (f : Bool) (cs : List AVal) : Heap := Nm.rec (fun a => upd H a (.row true f cs)) (fun a i => upd H a (setIn i cs (hget H a))) x
def mayPut (x : Nm) (vs : List AVal) : Bool := Nm.rec (fun _ => true) (fun _ _ => AVal.flatL vs) x
def astore (H : Heap) (sz : Nat) (p v : AVal) : Option Heap :=
  ob (asPtr p) fun q => ob (rowOf (nget H q.1)) fun r =>
    ite' (andB r.1 (andB (Nat.beq (len v.cells) sz) (andB (notB (Nat.beq sz 0)) (andB (oneL v.cells) (mayPut q.1 v.cells)))))
      (ob (writeAt v.cells r.2.2 q.2) fun cs => some (nset H q.1 (andB r.2.1 (AVal.flatL v.cells)) cs)) none
def isNone' {α : Type} (x : Option α) : Bool := Option.rec true (fun _ => false) x
def wholeRow (H : Heap) (v : AVal) : Option (Nat × List AVal) :=
  ob (asSl v) fun s => ob s.a.plain fun c => ob (rowOf (hget H c)) fun u =>
    ite' (andB u.1 (andB u.2.1 (andB (Nat.beq s.off 0) (andB (Nat.beq s.sz 1) (Nat.beq (len u.2.2) s.len))))) (some (c, u.2.2)) none
def astoreM (H : Heap) (p v : AVal) : Option Heap :=
  ob (asPtr p) fun q => ob q.1.plain fun a => ob (matOf (hget H a)) fun r => ob (nth r.2 q.2) fun o => ob (wholeRow H v) fun u =>
    ite' (andB r.1 (isNone' o)) (some (upd (upd H a (.mat true (upd r.2 q.2 (some u.2)))) u.1 .dead)) none
def fillAt (l : List (Nat × Nat × AVal)) : List AVal → Option (List AVal) :=
  List.rec (motive := fun _ => List AVal → Option (List AVal)) some
    (fun p _ ih cells => ite' (andB (Nat.beq (len p.2.2.cells) p.2.1) (oneL p.2.2.cells)) (ob (writeAt p.2.2.cells cells p.1) ih) none) l
def parts3 (e : Env) (l : List (Nat × Nat × Opnd)) : List (Nat × Nat × AVal) :=
  List.rec (motive := fun _ => List (Nat × Nat × AVal)) [] (fun p _ ih => (p.1, p.2.1, p.2.2.ev e) :: ih) l
def parts2 (e : Env) (esz : Nat) (l : List (Nat × Opnd)) : List (Nat × Nat × AVal) :=
  List.rec (motive := fun _ => List (Nat × Nat × AVal)) [] (fun p _ ih => (Nat.mul p.1 esz, esz, p.2.ev e) :: ih) l
def repeatL (zero : List AVal) (n : Nat) : List AVal := Nat.rec (motive := fun _ => List AVal) [] (fun _ ih => apd zero ih) n
def newRow (H : Heap) (cs : List AVal) : Heap := apd H [.row true (AVal.flatL cs) cs]

def keyEq (str : Bool) (x y : AVal) : Option Bool := ite' str (eqS x y) (eqI x y)
def findKey (str : Bool) (k : AVal) (es : List (AVal × AVal)) : Option (Option AVal) :=
  List.rec (motive := fun _ => Option (Option AVal)) (some none) (fun p _ ih => ob (keyEq str k p.1) fun t => ite' t (some (some p.2)) ih) es
def putKey (str : Bool) (k v : AVal) (es : List (AVal × AVal)) : Option (List (AVal × AVal)) :=
  List.rec (motive := fun _ => Option (List (AVal × AVal))) (some [(k, v)])
    (fun p l ih => ob (keyEq str k p.1) fun t => ite' t (some ((k, v) :: l)) (ob ih fun es' => some (p :: es'))) es
def isSome' {α : Type} (x : Option α) : Bool := Option.rec false (fun _ => true) x
def isKey (str : Bool) (v : AVal) : Bool := ite' str (isSome' (asStr v)) (isSome' (asInt v))

def bnd (x : Option AVal) (dflt top : Nat) : Option Nat := Option.rec (some dflt) (fun v => ob (asInt v) fun p => inx p.2 (Nat.succ top)) x
def isZ (x : Option AVal) : Bool := Option.rec true (fun v => Option.rec false (fun p => ieq p.2 0) (asInt v)) x
def aslice (esz : Nat) (x : AVal) (lo hi mx : Option AVal) : Option AVal :=
  Option.rec
    (Option.rec (ite' (andB (notB (Nat.beq esz 0)) (andB (isNilS x) (andB (isZ lo) (andB (isZ hi) (andB (isZ mx) (notB (andB (isSome' mx) (notB (isSome' hi))))))))) (some .nilSlice) none)
      (fun s => ite' (andB (Nat.beq esz 0) (notB (isSome' mx))) (ob (bnd hi s.size s.size) fun h => ob (bnd lo 0 h) fun i => some (.str (s.extract i h))) none) (asStr x))
    (fun s => ob (bnd mx s.cap s.cap) fun m => ob (bnd hi s.len m) fun h => ob (bnd lo 0 h) fun i =>
      ite' (andB (notB (Nat.beq esz 0)) (andB (Nat.beq esz s.sz) (notB (andB (isSome' mx) (notB (isSome' hi))))))
        (some (.slice s.a (Nat.add s.off (Nat.mul i esz)) (Nat.sub h i) (Nat.sub m i) esz (ite' (isSome' mx) true s.ex))) none) (asSl x)

def srcCells (H : Heap) (esz : Nat) (x : AVal) : Option (Nat × List AVal) :=
  Option.rec (ite' (isNilS x) (some (0, [])) none)
    (fun s => Option.rec (ite' (Nat.beq s.len 0) (some (0, [])) none) (fun r => ob (readAt (Nat.mul s.len esz) r.2.2 s.off) fun vs => some (s.len, vs)) (rowOf (nget H s.a))) (asSl x)
def roomBytes : Nat := 140737488355328
def putRow (H : Heap) (x : Nm) (off : Nat) (vs : List AVal) : Option Heap :=
  ob (rowOf (nget H x)) fun q => ite' (andB q.1 (andB (oneL vs) (mayPut x vs))) (ob (writeAt vs q.2.2 off) fun cs => some (nset H x (andB q.2.1 (AVal.flatL vs)) cs)) none
def appSl (H : Heap) (esz bytes : Nat) (s : Sl) (n : Nat) (vs : List AVal) : Option (AVal × Heap) :=
  ite' (andB (Nat.beq n 0) (notB (andB s.ex (Nat.beq s.len 0)))) (some (.slice s.a s.off s.len s.cap s.sz s.ex, H))
    (ite' (andB (andB (Nat.beq esz s.sz) (Nat.beq s.len s.cap)) (Nat.ble (Nat.mul (Nat.add s.len n) bytes) roomBytes))
      (ob (rowOf (nget H s.a)) fun r => ob (readAt (Nat.mul s.len esz) r.2.2 s.off) fun us =>
        ite' (oneL us)
          (ite' s.ex (some (.slice (.p (len H)) 0 (Nat.add s.len n) (Nat.add s.len n) esz false, apd H [.row true (andB r.2.1 (AVal.flatL vs)) (apd us vs)]))
            (ob s.a.plain fun a => ite' (andB r.1 (Nat.beq (Nat.add s.off (Nat.mul s.len esz)) (len r.2.2)))
              (some (.slice (.p (len H)) 0 (Nat.add s.len n) (Nat.add s.len n) esz false, apd (upd H a .dead) [.row true (andB r.2.1 (AVal.flatL vs)) (apd us vs)])) none)) none)
      (ite' (andB (notB (Nat.beq n 0)) (andB (Nat.beq esz s.sz) (Nat.ble (Nat.add s.len n) s.cap)))
        (ob (putRow H s.a (Nat.add s.off (Nat.mul s.len esz)) vs) fun H' => some (.slice s.a s.off (Nat.add s.len n) s.cap s.sz s.ex, H')) none))
def aappend (H : Heap) (esz bytes : Nat) (s x : AVal) : Option (AVal × Heap) :=
  ob (srcCells H esz x) fun p => ite' (oneL p.2)
    (Option.rec (ite' (isNilS s) (ite' (Nat.beq p.1 0) (some (.nilSlice, H))
        (ite' (Nat.ble (Nat.mul p.1 bytes) roomBytes) (some (.slice (.p (len H)) 0 p.1 p.1 esz false, newRow H p.2)) none)) none)
      (fun t => appSl H esz bytes t p.1 p.2) (asSl s)) none
def byteCells (l : List UInt8) : List AVal := List.rec (motive := fun _ => List AVal) [] (fun b _ ih => .int .u8 (Int.ofNat b.toNat) :: ih) l

/-! ### operations -/
abbrev Res := Option (AVal × Heap)
def rv (H : Heap) (o : Option AVal) : Res := ob o fun v => some (v, H)
def oMv (x : Opnd) (e : Env) (H : Heap) : Res := some (x.ev e, H)
def oPick (c a b : Opnd) (e : Env) (H : Heap) : Res := ob (asBool (c.ev e)) fun t => some (ite' t (a.ev e) (b.ev e), H)
def oAlloc (_ : TypeId) (zero : List AVal) (e : Env) (H : Heap) : Res := some (.ptr (.p (len H)) 0, newRow H zero)
def oBox (_ : TypeId) (x : Opnd) (e : Env) (H : Heap) : Res := ite' (oneL (x.ev e).cells) (some (.ptr (.p (len H)) 0, newRow H (x.ev e).cells)) none
def oBuild (zero : List AVal) (ps : List (Nat × Nat × Opnd)) (e : Env) (H : Heap) : Res := ob (fillAt (parts3 e ps) zero) fun cs => some (.agg cs, H)
def oBslice (_ : TypeId) (esz l : Nat) (zero : List AVal) (ps : List (Nat × Opnd)) (e : Env) (H : Heap) : Res :=
  ob (fillAt (parts2 e esz ps) (repeatL zero l)) fun cs => ite' (oneL cs) (some (.slice (.p (len H)) 0 l l esz true, newRow H cs)) none
def oLoad (sz : Nat) (ag : Bool) (x : Opnd) (e : Env) (H : Heap) : Res := rv H (aload H sz ag (x.ev e))
def oStore (sz : Nat) (a v : Opnd) (e : Env) (H : Heap) : Res := ob (astore H sz (a.ev e) (v.ev e)) fun H' => some (.tup [], H')
def oBin (op : BinOp) (x y : Opnd) (e : Env) (H : Heap) : Res := rv H (abin op (x.ev e) (y.ev e))
def oEq (ne : Bool) (kd : List Nat) (x y : Opnd) (e : Env) (H : Heap) : Res := ob (eqv kd (x.ev e) (y.ev e)) fun b => some (.bool (ite' ne (notB b) b), H)
def oUn (op : UnOp) (x : Opnd) (e : Env) (H : Heap) : Res := rv H (aun op (x.ev e))
def oConv (k : IntKind) (x : Opnd) (e : Env) (H : Heap) : Res := ob (asInt (x.ev e)) fun p => some (.int k (aw k p.2), H)
def oBytes (_ : TypeId) (x : Opnd) (e : Env) (H : Heap) : Res :=
  ob (asStr (x.ev e)) fun s => ite' (Nat.blt s.size 1000000000000) (some (.slice (.p (len H)) 0 s.size s.size 1 false, apd H [.row false true (byteCells s.data.toList)])) none
def oMkf (f : Nat) (a c : List Opnd) (e : Env) (H : Heap) : Res := some (.func f (evL e a) (evL e c), H)
def oMkmap (e : Env) (H : Heap) : Res := some (.map (len H), apd H [.map true []])
def oMkslice (_ : TypeId) (esz bytes : Nat) (zero : List AVal) (l c : Opnd) (e : Env) (H : Heap) : Res :=
  ob (asInt (l.ev e)) fun p => ob (asInt (c.ev e)) fun q => ob (inx p.2 (Nat.succ roomBytes)) fun n =>
    ite' (andB (andB (keq p.1 .i64) (keq q.1 .i64)) (andB (ieq p.2 q.2) (Nat.ble (Nat.mul n bytes) roomBytes)))
      (some (.slice (.p (len H)) 0 n n esz true, apd H [.row true (AVal.flatL zero) (repeatL zero n)])) none
def oev (e : Env) (x : Option Opnd) : Option AVal := Option.rec none (fun y => some (y.ev e)) x
def oSlice (esz : Nat) (x : Opnd) (lo hi mx : Option Opnd) (e : Env) (H : Heap) : Res := rv H (aslice esz (x.ev e) (oev e lo) (oev e hi) (oev e mx))
def oFaddr (off : Nat) (x : Opnd) (e : Env) (H : Heap) : Res := ob (asPtr (x.ev e)) fun p => some (.ptr p.1 (Nat.add p.2 off), H)
def oField (off sz : Nat) (ag : Bool) (x : Opnd) (e : Env) (H : Heap) : Res := rv H (ob (asAgg (x.ev e)) fun cs => readCells ag sz cs off)
def oIaddr (esz : Nat) (x i : Opnd) (e : Env) (H : Heap) : Res :=
  ob (asSl (x.ev e)) fun s => ob (asInt (i.ev e)) fun p => ob (inx p.2 s.len) fun j => some (.ptr s.a (Nat.add s.off (Nat.mul j esz)), H)
def oIarr (esz l : Nat) (x i : Opnd) (e : Env) (H : Heap) : Res :=
  ob (asPtr (x.ev e)) fun q => ob (asInt (i.ev e)) fun p => ob (inx p.2 l) fun j => some (.ptr q.1 (Nat.add q.2 (Nat.mul j esz)), H)
def oIndex (esz l : Nat) (ag : Bool) (x i : Opnd) (e : Env) (H : Heap) : Res :=
  rv H (ob (asAgg (x.ev e)) fun cs => ob (asInt (i.ev e)) fun p => ob (inx p.2 l) fun j => readCells ag esz cs (Nat.mul j esz))
def oSindex (x i : Opnd) (e : Env) (H : Heap) : Res :=
  rv H (ob (asStr (x.ev e)) fun s => ob (asInt (i.ev e)) fun p => ob (inx p.2 s.size) fun j => ob (nth s.data.toList j) fun b => some (.int .u8 (Int.ofNat b.toNat)))
def oLook (str : Bool) (zero : AVal) (m k : Opnd) (ok : Bool) (e : Env) (H : Heap) : Res :=
  rv H (ob (asMap (m.ev e)) fun a => ob (mapOf (hget H a)) fun r => ite' (isKey str (k.ev e))
    (ob (findKey str (k.ev e) r.2) fun f => some (Option.rec (ite' ok (.tup [zero, .bool false]) zero) (fun v => ite' ok (.tup [v, .bool true]) v) f)) none)
def oMupd (str : Bool) (m k v : Opnd) (e : Env) (H : Heap) : Res :=
  ob (asMap (m.ev e)) fun a => ob (mapOf (hget H a)) fun r => ite' (andB r.1 (andB (isKey str (k.ev e)) (andB (v.ev e).flat (v.ev e).one)))
    (ob (putKey str (k.ev e) (v.ev e) r.2) fun es => some (.tup [], upd H a (.map true es))) none
def oExt (x : Opnd) (i : Nat) (e : Env) (H : Heap) : Res := rv H (ob (asTup (x.ev e)) fun vs => nth vs i)
def lenOf (str : Bool) (v : AVal) : Option Nat :=
  ite' str (ob (asStr v) fun s => some s.size) (Option.rec (ite' (isNilS v) (some 0) none) (fun s => some s.len) (asSl v))
def oLen (str : Bool) (x : Opnd) (e : Env) (H : Heap) : Res := ob (lenOf str (x.ev e)) fun n => some (.int .i64 (Int.ofNat n), H)
def oMinmax (mx : Bool) (x : Opnd) (xs : List Opnd) (e : Env) (H : Heap) : Res := rv H (minmaxL mx (evL e xs) (x.ev e))
def oApp (_ : TypeId) (esz bytes : Nat) (_ : List AVal) (s x : Opnd) (e : Env) (H : Heap) : Res := aappend H esz bytes (s.ev e) (x.ev e)
def nilRow : AObj := .row true true []
def oNils (sz : Nat) (x : Opnd) (e : Env) (H : Heap) : Res := ite' (isNilS (x.ev e)) (some (.slice (.p (len H)) 0 0 0 sz false, apd H [nilRow])) none
def consL (v : AVal) (r : List AVal × Heap) : List AVal × Heap := (v :: r.1, r.2)
def denilL (szs : List Nat) : List AVal → Heap → List AVal × Heap :=
  List.rec (motive := fun _ => List AVal → Heap → List AVal × Heap) (fun cs H => (cs, H))
    (fun sz _ ih cs H => List.rec (motive := fun _ => List AVal × Heap) ([], H)
      (fun v cs _ => ite' (andB (isNilS v) (notB (Nat.beq sz 0))) (consL (.slice (.p (len H)) 0 0 0 sz false) (ih cs (apd H [nilRow]))) (consL v (ih cs H))) cs) szs
def aggL (r : List AVal × Heap) : AVal × Heap := (.agg r.1, r.2)
def oNbuild (szs : List Nat) (zero : List AVal) (ps : List (Nat × Nat × Opnd)) (e : Env) (H : Heap) : Res := ob (fillAt (parts3 e ps) zero) fun cs => some (aggL (denilL szs cs H))
def rowL (a : Nat) (r : List AVal × Heap) : AVal × Heap := (.ptr (.p a) 0, upd r.2 a (.row true (AVal.flatL r.1) r.1))
def oNalloc (szs : List Nat) (_ : TypeId) (zero : List AVal) (_ : Env) (H : Heap) : Res := ite' (Nat.blt 0 (len zero)) (some (rowL (len H) (denilL szs zero (newRow H zero)))) none
def oNone (e : Env) (H : Heap) : Res := none
def oNilm (x : Opnd) (e : Env) (H : Heap) : Res := ite' (isNilS (x.ev e)) (some (.slice (.p (len H)) 0 0 0 1 false, apd H [.mat true []])) none
def nonesL (n : Nat) : List (Option (List AVal)) := Nat.rec (motive := fun _ => List (Option (List AVal))) [] (fun _ ih => none :: ih) n
def oMkmat (_ : TypeId) (bytes : Nat) (l c : Opnd) (e : Env) (H : Heap) : Res :=
  ob (asInt (l.ev e)) fun p => ob (asInt (c.ev e)) fun q => ob (inx p.2 (Nat.succ roomBytes)) fun n =>
    ite' (andB (andB (keq p.1 .i64) (keq q.1 .i64)) (andB (ieq p.2 q.2) (Nat.ble (Nat.mul n bytes) roomBytes)))
      (some (.slice (.p (len H)) 0 n n 1 true, apd H [.mat true (nonesL n)])) none
def oStorem (a v : Opnd) (e : Env) (H : Heap) : Res := ob (astoreM H (a.ev e) (v.ev e)) fun H' => some (.tup [], H')
def oneIn (H : Heap) (x : AVal) : Option AVal := ob (asSl x) fun s => ite' (andB (Nat.beq s.len 1) (Nat.beq s.sz 1)) (ob s.a.plain fun d => ob (rowOf (hget H d)) fun r => nth r.2.2 s.off) none
def aappm (H : Heap) (bytes : Nat) (s x : AVal) : Option (AVal × Heap) :=
  ob (oneIn H x) fun v => ob (wholeRow H v) fun u => ob (asSl s) fun t => ob t.a.plain fun a => ob (matOf (hget H a)) fun r =>
    ite' (andB (andB r.1 (andB (notB t.ex) (andB (Nat.beq t.off 0) (Nat.beq t.sz 1)))) (andB (andB (Nat.beq t.len (len r.2)) (Nat.beq t.cap (len r.2))) (Nat.ble (Nat.mul (Nat.succ (len r.2)) bytes) roomBytes)))
      (some (.slice (.p (len H)) 0 (Nat.succ (len r.2)) (Nat.succ (len r.2)) 1 false, apd (upd (upd H a .dead) u.1 .dead) [.mat true (apd r.2 [some u.2])])) none
def oStop (_ : Env) (_ : Heap) : Res := none
def isFn (v : AVal) : Bool :=
  AVal.rec (motive_1 := fun _ => Bool) (motive_2 := fun _ => Unit) false (fun _ => false) (fun _ _ => false) (fun _ => false) false false false false false
    (fun _ _ => false) (fun _ _ _ _ _ _ => false) (fun _ => false) (fun _ _ _ _ _ => true) (fun _ => false) (fun _ _ => false) (fun _ _ => false) () (fun _ _ _ _ => ()) v
def oNilck (x : Opnd) (e : Env) (H : Heap) : Res := ite' (isSome' (asPtr (x.ev e))) (some (x.ev e, H)) (ite' (isFn (x.ev e)) (some (x.ev e, H)) none)
def oCap (x : Opnd) (e : Env) (H : Heap) : Res :=
  ite' (isNilS (x.ev e)) (some (.int .i64 0, H)) (ob (asSl (x.ev e)) fun s => ite' s.ex (some (.int .i64 (Int.ofNat s.cap), H)) none)
def lenSl (v : AVal) : Option Nat := Option.rec (ite' (isNilS v) (some 0) none) (fun s => some s.len) (asSl v)
def acopy (H : Heap) (d s : AVal) : Res :=
  ob (lenSl d) fun ld => ob (lenSl s) fun ls => ite' (orB (Nat.beq ld 0) (Nat.beq ls 0)) (some (.int .i64 0, H))
    (ob (asSl d) fun t => ob (asSl s) fun u => ob (rowOf (nget H u.a)) fun r => ob (readAt (ite' (Nat.ble ld ls) ld ls) r.2.2 u.off) fun vs =>
      ob (putRow H t.a t.off vs) fun H' => some (.int .i64 (Int.ofNat (ite' (Nat.ble ld ls) ld ls)), H'))
def oCopy (_ : TypeId) (d s : Opnd) (e : Env) (H : Heap) : Res := acopy H (d.ev e) (s.ev e)
def aclear (H : Heap) (zero : List AVal) (x : AVal) : Res :=
  ob (lenSl x) fun n => ite' (Nat.beq n 0) (some (.tup [], H)) (ob (asSl x) fun s => ob (putRow H s.a s.off (repeatL zero n)) fun H' => some (.tup [], H'))
def oClear (_ : TypeId) (_ : Nat) (zero : List AVal) (x : Opnd) (e : Env) (H : Heap) : Res := aclear H zero (x.ev e)
def oAppm (_ : TypeId) (bytes : Nat) (s x : Opnd) (e : Env) (H : Heap) : Res := aappm H bytes (s.ev e) (x.ev e)
def aop (op : AOp) : Env → Heap → Res :=
  AOp.rec (motive := fun _ => Env → Heap → Res) oMv oPick oAlloc oBox oBuild oBslice oLoad oStore oBin oEq oUn oConv oBytes oMkf oMkmap oMkslice oSlice oFaddr oField oIaddr oIarr oIndex oSindex
    oLook oMupd oExt oLen oMinmax oApp (fun _ _ => oNone) (fun _ _ => oNone) oNils oNbuild oNalloc oNilm oMkmat oStorem oAppm oStop oNilck oCap oCopy oClear op

/-! ### code -/
inductive ARes where
  | tmp (t : Nat)
  | cell (t sz : Nat) (ag : Bool)
  deriving Inhabited
structure AFunc where
  ntmps : Nat
  results : List ARes
  body : ACode
  deriving Inhabited

structure Ex where
  exec : Nat → ACode → Env → Heap → Option (AExit × Env × Heap)
  call : Nat → List AVal → Heap → Option (AVal × Heap)
  yield : Nat → List AVal → Heap → Option (AVal × Heap)

def qCall (f : Nat) (args : List Opnd) (p : Ex) (quiet : Bool) (e : Env) (H : Heap) : Res := callOn (p.call f) quiet (evL e args) H
def callVal (p : Ex) (quiet : Bool) (args : List AVal) (H : Heap) (g : AVal) : Res :=
  AVal.rec (motive_1 := fun _ => Res) (motive_2 := fun _ => Unit) none (fun _ => none) (fun _ _ => none) (fun _ => none) none none none none none
    (fun _ _ => none) (fun _ _ _ _ _ _ => none) (fun _ => none) (fun f a c _ _ => callOn (p.call f) quiet (apd a (apd args c)) H) (fun a => ite' quiet none (p.yield a args H)) (fun _ _ => none) (fun _ _ => none) () (fun _ _ _ _ => ()) g
def qCallv (g : Opnd) (args : List Opnd) (p : Ex) (quiet : Bool) (e : Env) (H : Heap) : Res := callVal p quiet (evL e args) H (g.ev e)
def qOp (op : AOp) (p : Ex) (quiet : Bool) (e : Env) (H : Heap) : Res := aop op e H
def aoper (op : AOp) : Ex → Bool → Env → Heap → Res :=
  AOp.rec (motive := fun _ => Ex → Bool → Env → Heap → Res) (fun x => qOp (.mv x)) (fun c a b => qOp (.pick c a b)) (fun t z => qOp (.alloc t z)) (fun t x => qOp (.box t x)) (fun z ps => qOp (.build z ps))
    (fun t s l z ps => qOp (.bslice t s l z ps)) (fun s a x => qOp (.load s a x)) (fun s a v => qOp (.store s a v)) (fun o x y => qOp (.bin o x y)) (fun n k x y => qOp (.eq n k x y)) (fun o x => qOp (.un o x))
    (fun k x => qOp (.conv k x)) (fun t x => qOp (.bytes t x)) (fun f a c => qOp (.mkf f a c)) (qOp .mkmap) (fun t s b z l c => qOp (.mkslice t s b z l c)) (fun s x l h m => qOp (.slice s x l h m)) (fun o x => qOp (.faddr o x))
    (fun o s a x => qOp (.field o s a x)) (fun s x i => qOp (.iaddr s x i)) (fun s l x i => qOp (.iarr s l x i)) (fun s l a x i => qOp (.index s l a x i)) (fun x i => qOp (.sindex x i)) (fun s z m k o => qOp (.look s z m k o))
    (fun s m k v => qOp (.mupd s m k v)) (fun x i => qOp (.ext x i)) (fun s x => qOp (.len s x)) (fun m x xs => qOp (.minmax m x xs)) (fun t s b z x y => qOp (.app t s b z x y)) qCall qCallv (fun s x => qOp (.nils s x)) (fun s z ps => qOp (.nbuild s z ps)) (fun s t z => qOp (.nalloc s t z)) (fun x => qOp (.nilm x)) (fun t b l c => qOp (.mkmat t b l c)) (fun a v => qOp (.storem a v)) (fun t b s x => qOp (.appm t b s x)) (qOp .stop) (fun x => qOp (.nilck x)) (fun x => qOp (.cap x)) (fun t d s => qOp (.copy t d s)) (fun t z c x => qOp (.clear t z c x)) op

def isEmptyT (v : AVal) : Option Bool := ob (asTup v) fun l => List.rec (some false) (fun _ _ _ => none) l
def wanted (e : Env) (g : Option (Nat × Bool)) : Option Bool :=
  Option.rec (some true) (fun p => Option.rec (isEmptyT (eget e p.1)) (fun b => some (beqB b p.2)) (asBool (eget e p.1))) g

abbrev Ops := Option (Env × Heap)
def aops (p : Ex) (l : List AOper) : Env → Heap → Ops :=
  List.rec (motive := fun _ => Env → Heap → Ops) (fun e H => some (e, H))
    (fun o _ ih e H => ob (wanted e o.guard) fun w => ite' w (ob (aoper o.op p false e H) fun r => ih (put e o.dst r.1) r.2) (ih (put e o.dst (.tup [])) H)) l

def roAll (H : Heap) : Heap := List.rec (motive := fun _ => Heap) [] (fun o _ ih => o.ro :: ih) H
def maskN (n : Nat) : Heap → Nat → Heap := Nat.rec (motive := fun _ => Heap → Nat → Heap) (fun H _ => H) (fun _ ih H a => ih (upd H a .dead) (Nat.succ a)) n
def mask (rs : List (Nat × Nat)) (inc : List Nat) : Heap → Heap :=
  List.rec (motive := fun _ => Heap → Heap) (fun H => H) (fun i _ ih H => Option.rec (ih H) (fun p => ih (maskN (Nat.sub p.2 p.1) H p.1)) (nth rs i)) inc
def inSome (rs : List (Nat × Nat)) (a : Nat) (inc : List Nat) : Bool :=
  List.rec (motive := fun _ => Bool) false (fun i _ ih => Option.rec ih (fun p => ite' (andB (Nat.ble p.1 a) (Nat.blt a p.2)) true ih) (nth rs i)) inc
def nameOf (v : AVal) : Option Nat := Option.rec (asMap v) (fun p => some p.1.base) (asPtr v)
def AOp.at? (op : AOp) : Option Opnd := match op with
  | .load _ _ x => some x
  | .look _ _ m _ _ => some m
  | .store _ a _ => some a
  | _ => none
def aoperQ (p : Ex) (rs : List (Nat × Nat)) (inc : List Nat) (e : Env) (H : Heap) (op : AOp) : Option (AVal × Heap × Nat × Nat) :=
  Option.rec (ob (aoper op p true e (roAll (mask rs inc H))) fun r => some (r.1, apd H (rest r.2 (len H)), len H, len r.2))
    (fun x => ob (nameOf (x.ev e)) fun a => ite' (inSome rs a inc) none (ob (aop op e H) fun r => some (r.1, r.2, a, Nat.succ a))) op.at?
def lowSl (v : AVal) (H : Heap) : Nat := Option.rec (ite' (isNilS v) (len H) 0) (fun s => s.a.base) (asSl v)
def AOp.low (op : AOp) (e : Env) (H : Heap) : Nat := match op with
  | .app _ _ _ _ s _ => lowSl (s.ev e) H
  | _ => 0
def aopsD (p : Ex) (l : List AOper) : List (Nat × Nat) → Env → Heap → Ops :=
  List.rec (motive := fun _ => List (Nat × Nat) → Env → Heap → Ops) (fun _ e H => some (e, H))
    (fun o _ ih rs e H => ob (wanted e o.guard) fun w => ite' w
      (ite' o.q (ob (aoperQ p rs o.inc e H o.op) fun r => ih (apd rs [(r.2.2.1, r.2.2.2)]) (put e o.dst r.1) r.2.1)
        (ob (aoper o.op p false e H) fun r => ih (apd rs [(o.op.low e H, len r.2)]) (put e o.dst r.1) r.2))
      (ih (apd rs [(0, 0)]) (put e o.dst (.tup [])) H)) l

def ares (e : Env) (H : Heap) (l : List ARes) : Option (List AVal) :=
  List.rec (motive := fun _ => Option (List AVal)) (some [])
    (fun r _ ih => ob (ARes.rec (motive := fun _ => Option AVal) (fun t => some (eget e t)) (fun t sz ag => aload H sz ag (eget e t)) r) fun v => ob ih fun vs => some (v :: vs)) l
def tupOf (l : List AVal) : AVal := match l with
  | [v] => v
  | vs => .tup vs
def setParams (ps : List Nat) : List AVal → Env → Env :=
  List.rec (motive := fun _ => List AVal → Env → Env) (fun _ e => e) (fun p _ ih vs e => List.rec (motive := fun _ => Env) e (fun v vs _ => ih vs ((p, v) :: e)) vs) ps
def argEnv (l : List AVal) : Nat → Env := List.rec (motive := fun _ => Nat → Env) (fun _ => []) (fun v _ ih i => (i, v) :: ih (Nat.succ i)) l

abbrev CRes := Option (AExit × Env × Heap)
def thenN (r : CRes) (k : Env → Heap → CRes) : CRes := ob r fun q => AExit.rec (motive := fun _ => CRes) (k q.2.1 q.2.2) (fun i => some (.exit i, q.2.1, q.2.2)) (some (.ret, q.2.1, q.2.2)) q.1
def blockN (id : Nat) (r : CRes) : CRes :=
  ob r fun q => AExit.rec (motive := fun _ => CRes) (some (.normal, q.2.1, q.2.2)) (fun i => ite' (Nat.beq i id) (some (.normal, q.2.1, q.2.2)) (some (.exit i, q.2.1, q.2.2))) (some (.ret, q.2.1, q.2.2)) q.1
def normalN (r : Ops) : CRes := ob r fun q => some (.normal, q.1, q.2)
def loopN (k : Env → Heap → CRes) (b : Nat) (e1 : Env) (H : Heap) (keep : List Nat) : CRes := k (unexE (gcE keep e1)) (gcH keep H)
def outN (o : AExit) (e1 : Env) (H : Heap) (keep : List Nat) : CRes := some (o, unexE (gcE keep e1), gcH keep H)
def thenL (ou : List Nat) (b : Nat) (r : CRes) (k : Env → Heap → CRes) : CRes :=
  ob r fun q => AExit.rec (motive := fun _ => CRes) (k q.2.1 q.2.2) (fun i => outN (.exit i) (restr q.2.1 ou) q.2.2 (gcKeep b (restr q.2.1 ou) q.2.2)) (outN .ret (restr q.2.1 ou) q.2.2 (gcKeep b (restr q.2.1 ou) q.2.2)) q.1
structure LoopO where
  rw : Bool
  st : LoopState
  tmps : Env
  ps : List Nat
  asg : ACode
  body : ACode
  pd : AExit
def loopOf (o : AObj) : Option LoopO :=
  AObj.rec (motive := fun _ => Option LoopO) none (fun _ _ _ => none) (fun _ _ => none) (fun rw st tmps ps a b pd => some ⟨rw, st, tmps, ps, a, b, pd⟩) (fun _ _ => none) o
def stNo (s : LoopState) : Nat := LoopState.rec (motive := fun _ => Nat) 0 1 2 3 s
def rangeN (p : Ex) (e : Env) (H : Heap) (ps : List Nat) (asg body : ACode) (g : AVal) : CRes :=
  AVal.rec (motive_1 := fun _ => CRes) (motive_2 := fun _ => Unit) none (fun _ => none) (fun _ _ => none) (fun _ => none) none none none none none
    (fun _ _ => none) (fun _ _ _ _ _ _ => none) (fun _ => none)
    (fun f a c _ _ => ob (callOn (p.call f) false (apd a (.yield (len H) :: c)) (apd H [.loop true .ready e ps asg body .normal])) fun r =>
      ob (loopOf (hget r.2 (len H))) fun o => ite' (andB o.rw (notB (Nat.beq (stNo o.st) 1))) (some (o.pd, e, upd r.2 (len H) .dead)) none)
    (fun _ => none) (fun _ _ => none) (fun _ _ => none) () (fun _ _ _ _ => ()) g
def exec1 (c : ACode) : Ex → Nat → Env → Heap → CRes :=
  ACode.rec (motive := fun _ => Ex → Nat → Env → Heap → CRes)
    (fun _ _ e H => some (.normal, e, H))
    (fun d ops p _ e H => normalN (ite' d (aopsD p ops [] e H) (aops p ops e H)))
    (fun _ _ ix iy p b e H => thenN (ix p b e H) (iy p b))
    (fun c _ _ ix iy p b e H => ob (asBool (c.ev e)) fun t => ite' t (ix p b e H) (iy p b e H))
    (fun id _ ix p b e H => blockN id (ix p b e H))
    (fun lv ou x ix p b e H => thenL ou b (loopN (ix p b) b (restr e lv) H (gcKeep b (restr e lv) H)) (p.exec b (.loop lv ou x)))
    (fun id _ _ e H => some (.exit id, e, H))
    (fun _ _ e H => some (.ret, e, H))
    (fun lv g ps asg body _ _ p _ e H => rangeN p (restr e lv) H ps asg body (g.ev e)) c
def AExit.isNormal (x : AExit) : Bool := AExit.rec (motive := fun _ => Bool) true (fun _ => false) false x
def AExit.isExit (x : AExit) : Bool := AExit.rec (motive := fun _ => Bool) false (fun _ => true) false x
def retN (fn : AFunc) (r : CRes) : Res := ob r fun q => ite' q.1.isExit none (ob (ares q.2.1 q.2.2 fn.results) fun vs => some (tupOf vs, q.2.2))
def retOf (r : AVal × Heap) (keep : List Nat) : AVal × Heap := (eget (gcE keep [(0, r.1)]) 0, gcH keep r.2)
def gcRet (k : Nat) (r : AVal × Heap) : AVal × Heap := retOf r (gcKeep k [(0, r.1)] r.2)
def call1 (tab : Nat → Option AFunc) (p : Ex) (f : Nat) (args : List AVal) (H : Heap) : Res :=
  ob (tab f) fun fn => ob (retN fn (exec1 fn.body p (len H) (argEnv args 0) H)) fun r => some (gcRet (len H) r)
def endRound (a : Nat) (q : AExit × Env × Heap) : Res :=
  ob (loopOf (hget q.2.2 a)) fun o => ite' (andB o.rw (Nat.beq (stNo o.st) 1))
    (some (.bool q.1.isNormal, upd q.2.2 a (.loop true (ite' q.1.isNormal .ready .done) o.tmps o.ps o.asg o.body q.1))) none
def yield1 (p : Ex) (a : Nat) (args : List AVal) (H : Heap) : Res :=
  ob (loopOf (hget H a)) fun o => ite' (andB (andB o.rw (Nat.beq (stNo o.st) 0)) (Nat.beq (len args) (len o.ps)))
    (ob (exec1 o.asg p (len H) (setParams o.ps args o.tmps) H) fun q =>
      ite' q.1.isNormal (ob (loopOf (hget q.2.2 a)) fun o2 => ite' (andB o2.rw (Nat.beq (stNo o2.st) 0))
        (ob (exec1 o.body p (len H) q.2.1 (upd q.2.2 a (.loop true .busy o2.tmps o2.ps o2.asg o2.body o2.pd))) (endRound a)) none) none) none
def exNone : Ex := ⟨fun _ _ _ _ => none, fun _ _ _ => none, fun _ _ _ => none⟩
def exS (tab : Nat → Option AFunc) (p : Ex) : Ex := ⟨fun b c => exec1 c p b, call1 tab p, yield1 p⟩
def ex (tab : Nat → Option AFunc) (n : Nat) : Ex := Nat.rec (motive := fun _ => Ex) exNone (fun _ ih => exS tab ih) n
def acall (tab : Nat → Option AFunc) (n : Nat) : Nat → List AVal → Heap → Res := (ex tab n).call
end
end Go.AI
