/-
  ROWS OF NUMBERS, BOOLS, STRINGS; MAPS: what a walk reads and writes there.
-/
import Derived.Test.YtfglifekecijjaaEAiX
set_option linter.unusedVariables false
set_option linter.unusedSimpArgs false
set_option linter.defProp false
namespace Go.AI
/-! ### all that is known of the element at an index -/
theorem wr1 {α : Type} [Cell α] {l : List α} {j : Nat} {x : α} (h : l[j]? = some x) (hk : Cell.k α = 1) (y : α) : writeAt (Cell.enc y) (rowC l) j = some (rowC (l.set j y)) := by
  have := wr (List.getElem?_eq_some_iff.1 h).1 y
  rwa [hk, Nat.mul_one] at this
theorem ac_Int {l : List Int} {j : Nat} {x : Int} (h : l[j]? = some x) : ((rowC l)[j]? = some (.int .i64 x)) ∧ (∀ y, writeAt [.int .i64 y] (rowC l) j = some (rowC (l.set j y))) := ⟨rd1 h rfl, wr1 h rfl⟩
theorem ac_Bool {l : List Bool} {j : Nat} {x : Bool} (h : l[j]? = some x) : ((rowC l)[j]? = some (.bool x)) ∧ (∀ y, writeAt [.bool y] (rowC l) j = some (rowC (l.set j y))) := ⟨rd1 h rfl, wr1 h rfl⟩
theorem ac_ByteArray {l : List ByteArray} {j : Nat} {x : ByteArray} (h : l[j]? = some x) : ((rowC l)[j]? = some (.str x)) ∧ (∀ y, writeAt [.str y] (rowC l) j = some (rowC (l.set j y))) := ⟨rd1 h rfl, wr1 h rfl⟩
theorem ac_UInt8 {l : List UInt8} {j : Nat} {x : UInt8} (h : l[j]? = some x) : (rowC l)[j]? = some (.int .u8 (x.toNat : Int)) := rd1 h rfl
theorem rall {α : Type} [Cell α] (l : List α) : readAt (l.length * Cell.k α) (rowC l) 0 = some (rowC l) := readAt_all (by rw [rowC_length])
theorem rall1 {α : Type} [Cell α] (l : List α) (hk : Cell.k α = 1) : readAt l.length (rowC l) 0 = some (rowC l) := readAt_all (by rw [rowC_length, hk, Nat.mul_one])
theorem rc_Int : (∀ (x : Int) l, rowC (x :: l) = .int .i64 x :: rowC l) ∧ (∀ (x : Int) n, repeatL [.int .i64 x] n = rowC (List.replicate n x)) ∧ (∀ l : List Int, (rowC l).length = l.length) ∧ (∀ l : List Int, readAt l.length (rowC l) 0 = some (rowC l)) ∧ Cell.k Int = 1 :=
  ⟨fun x l => rowC_cons x l, fun x n => repeatL_eq x n, fun l => by rw [rowC_length]; exact Nat.mul_one _, fun l => rall1 l rfl, rfl⟩
theorem rc_Bool : (∀ (x : Bool) l, rowC (x :: l) = .bool x :: rowC l) ∧ (∀ (x : Bool) n, repeatL [.bool x] n = rowC (List.replicate n x)) ∧ (∀ l : List Bool, (rowC l).length = l.length) ∧ (∀ l : List Bool, readAt l.length (rowC l) 0 = some (rowC l)) ∧ Cell.k Bool = 1 :=
  ⟨fun x l => rowC_cons x l, fun x n => repeatL_eq x n, fun l => by rw [rowC_length]; exact Nat.mul_one _, fun l => rall1 l rfl, rfl⟩
theorem rc_ByteArray : (∀ (x : ByteArray) l, rowC (x :: l) = .str x :: rowC l) ∧ (∀ (x : ByteArray) n, repeatL [.str x] n = rowC (List.replicate n x)) ∧ (∀ l : List ByteArray, (rowC l).length = l.length) ∧ (∀ l : List ByteArray, readAt l.length (rowC l) 0 = some (rowC l)) ∧ Cell.k ByteArray = 1 :=
  ⟨fun x l => rowC_cons x l, fun x n => repeatL_eq x n, fun l => by rw [rowC_length]; exact Nat.mul_one _, fun l => rall1 l rfl, rfl⟩
theorem bytes_row (l : List UInt8) : byteCells l = rowC l := by rw [byteCells_eq]; induction l with
  | nil => rfl
  | cons x l ih => rw [List.map_cons, ih]; rfl
theorem rc_UInt8 : (∀ (x : UInt8) l, rowC (x :: l) = .int .u8 (x.toNat : Int) :: rowC l) ∧ (∀ l : List UInt8, (rowC l).length = l.length) ∧ (∀ l : List UInt8, readAt l.length (rowC l) 0 = some (rowC l)) ∧ (∀ l : List UInt8, byteCells l = rowC l) ∧ Cell.k UInt8 = 1 :=
  ⟨fun x l => rowC_cons x l, fun l => by rw [rowC_length]; exact Nat.mul_one _, fun l => rall1 l rfl, bytes_row, rfl⟩
theorem blist_len (s : ByteArray) : s.data.toList.length = s.size := by simp
/-! ### maps -/
class Prim (α : Type) where
  enc : α → AVal
  dec : DecidableEq α
instance : Prim Int := ⟨.int .i64, inferInstance⟩
instance : Prim Bool := ⟨.bool, inferInstance⟩
instance : Prim ByteArray := ⟨.str, inferInstance⟩
def mapC {κ ν : Type} [Prim κ] [Prim ν] (es : List (κ × ν)) : List (AVal × AVal) := es.map fun p => (Prim.enc p.1, Prim.enc p.2)
theorem mapC_nil {κ ν : Type} [Prim κ] [Prim ν] : mapC ([] : List (κ × ν)) = [] := rfl
def findM {κ ν : Type} [DecidableEq κ] (k : κ) : List (κ × ν) → Option ν
  | [] => none
  | (k', v) :: es => if k = k' then some v else findM k es
def putM {κ ν : Type} [DecidableEq κ] (k : κ) (v : ν) : List (κ × ν) → List (κ × ν)
  | [] => [(k, v)]
  | (k', v') :: es => if k = k' then (k, v) :: es else (k', v') :: putM k v es
section
variable {ν : Type} [Prim ν]
theorem find_str (k : ByteArray) (es : List (ByteArray × ν)) : findKey true (.str k) (mapC es) = some ((findM k es).map Prim.enc) := by
  induction es with
  | nil => rfl
  | cons p es ih =>
    obtain ⟨k', v⟩ := p
    show ob (eqS (.str k) (.str k')) (fun t => ite' t (some (some (Prim.enc v))) (findKey true (.str k) (mapC es))) = _
    have : eqS (.str k) (.str k') = some (decide (k = k')) := by rw [← strEq_dec]; rfl
    rw [this, ob_some, ih]
    by_cases h : k = k' <;> simp [h, findM]
theorem find_int (k : Int) (es : List (Int × ν)) : findKey false (.int .i64 k) (mapC es) = some ((findM k es).map Prim.enc) := by
  induction es with
  | nil => rfl
  | cons p es ih =>
    obtain ⟨k', v⟩ := p
    show ob (eqI (.int .i64 k) (.int .i64 k')) (fun t => ite' t (some (some (Prim.enc v))) (findKey false (.int .i64 k) (mapC es))) = _
    have : eqI (.int .i64 k) (.int .i64 k') = some (decide (k = k')) := by rw [← ieq_eq]; rfl
    rw [this, ob_some, ih]
    by_cases h : k = k' <;> simp [h, findM]
theorem put_str (k : ByteArray) (v : ν) (es : List (ByteArray × ν)) : putKey true (.str k) (Prim.enc v) (mapC es) = some (mapC (putM k v es)) := by
  induction es with
  | nil => rfl
  | cons p es ih =>
    obtain ⟨k', v'⟩ := p
    show ob (eqS (.str k) (.str k')) (fun t => ite' t (some ((.str k, Prim.enc v) :: mapC es)) (ob (putKey true (.str k) (Prim.enc v) (mapC es)) fun es' => some ((.str k', Prim.enc v') :: es'))) = _
    have : eqS (.str k) (.str k') = some (decide (k = k')) := by rw [← strEq_dec]; rfl
    rw [this, ob_some, ih]
    by_cases h : k = k'
    · simp [h, putM]; rfl
    · simp [h, putM]; rfl
theorem put_int (k : Int) (v : ν) (es : List (Int × ν)) : putKey false (.int .i64 k) (Prim.enc v) (mapC es) = some (mapC (putM k v es)) := by
  induction es with
  | nil => rfl
  | cons p es ih =>
    obtain ⟨k', v'⟩ := p
    show ob (eqI (.int .i64 k) (.int .i64 k')) (fun t => ite' t (some ((.int .i64 k, Prim.enc v) :: mapC es)) (ob (putKey false (.int .i64 k) (Prim.enc v) (mapC es)) fun es' => some ((.int .i64 k', Prim.enc v') :: es'))) = _
    have : eqI (.int .i64 k) (.int .i64 k') = some (decide (k = k')) := by rw [← ieq_eq]; rfl
    rw [this, ob_some, ih]
    by_cases h : k = k'
    · simp [h, putM]; rfl
    · simp [h, putM]; rfl
end
def getM {κ ν : Type} [DecidableEq κ] (k : κ) (d : ν) (es : List (κ × ν)) : ν := (findM k es).getD d
def hasM {κ ν : Type} [DecidableEq κ] (k : κ) (es : List (κ × ν)) : Bool := (findM k es).isSome
section
variable {p : Ex} {e : Env} {H : Heap} {q : Bool}
noncomputable def lookK (ok : Bool) (z : AVal) (f : Option AVal) : AVal := Option.rec (motive := fun _ => AVal) (ite' ok (.tup [z, .bool false]) z) (fun v => ite' ok (.tup [v, .bool true]) v) f
theorem a_lookK (s : Bool) (z : AVal) (m k : Opnd) (ok : Bool) : aoper (.look s z m k ok) p q e H = ob (ob (asMap (m.ev e)) fun a => ob (mapOf (hget H a)) fun r => ite' (isKey s (k.ev e))
    (ob (findKey s (k.ev e) r.2) fun f => some (lookK ok z f)) none) fun v => some (v, H) := keep rfl
theorem lk_sb (k : ByteArray) (es : List (ByteArray × Bool)) (z : Bool) : lookK false (.bool z) ((findM k es).map Prim.enc) = .bool (getM k z es) := by unfold getM; cases findM k es <;> rfl
theorem lk_si (k : ByteArray) (es : List (ByteArray × Int)) (z : Int) : lookK false (.int .i64 z) ((findM k es).map Prim.enc) = .int .i64 (getM k z es) := by unfold getM; cases findM k es <;> rfl
theorem lk_ib (k : Int) (es : List (Int × Bool)) (z : Bool) : lookK false (.bool z) ((findM k es).map Prim.enc) = .bool (getM k z es) := by unfold getM; cases findM k es <;> rfl
theorem lk_ii (k : Int) (es : List (Int × Int)) (z : Int) : lookK false (.int .i64 z) ((findM k es).map Prim.enc) = .int .i64 (getM k z es) := by unfold getM; cases findM k es <;> rfl
theorem lo_sb (k : ByteArray) (es : List (ByteArray × Bool)) (z : Bool) : lookK true (.bool z) ((findM k es).map Prim.enc) = .tup [.bool (getM k z es), .bool (hasM k es)] := by unfold getM hasM; cases findM k es <;> rfl
theorem lo_si (k : ByteArray) (es : List (ByteArray × Int)) (z : Int) : lookK true (.int .i64 z) ((findM k es).map Prim.enc) = .tup [.int .i64 (getM k z es), .bool (hasM k es)] := by unfold getM hasM; cases findM k es <;> rfl
theorem lo_ib (k : Int) (es : List (Int × Bool)) (z : Bool) : lookK true (.bool z) ((findM k es).map Prim.enc) = .tup [.bool (getM k z es), .bool (hasM k es)] := by unfold getM hasM; cases findM k es <;> rfl
theorem lo_ii (k : Int) (es : List (Int × Int)) (z : Int) : lookK true (.int .i64 z) ((findM k es).map Prim.enc) = .tup [.int .i64 (getM k z es), .bool (hasM k es)] := by unfold getM hasM; cases findM k es <;> rfl
theorem put_sb (k : ByteArray) (v : Bool) (es : List (ByteArray × Bool)) : putKey true (.str k) (.bool v) (mapC es) = some (mapC (putM k v es)) := put_str k v es
theorem put_si (k : ByteArray) (v : Int) (es : List (ByteArray × Int)) : putKey true (.str k) (.int .i64 v) (mapC es) = some (mapC (putM k v es)) := put_str k v es
theorem put_ib (k : Int) (v : Bool) (es : List (Int × Bool)) : putKey false (.int .i64 k) (.bool v) (mapC es) = some (mapC (putM k v es)) := put_int k v es
theorem put_ii (k : Int) (v : Int) (es : List (Int × Int)) : putKey false (.int .i64 k) (.int .i64 v) (mapC es) = some (mapC (putM k v es)) := put_int k v es
end
/-! ### a part of a row; room -/
def roomS {α : Type} (n : Nat) (x : Option α) : Option α := if n < 1000000000000 then x else none
theorem un_roomS {α : Type} {n : Nat} {x : Option α} {a : α} (h : roomS n x = some a) : decide (n < 1000000000000) = true ∧ x = some a := by
  unfold roomS at h
  split at h
  · exact ⟨dt (by assumption), h⟩
  · cases h
theorem un_roomd {α : Type} {n : Nat} {x : Option α} {a : α} (h : room n x = some a) : decide (n ≤ 140737488355328) = true ∧ x = some a := by
  unfold room at h
  split at h
  · exact ⟨dt (by assumption), h⟩
  · cases h
theorem bin_sadd (x y : ByteArray) : abin .add (.str x) (.str y) = ite' (decide (x.size + y.size < 1000000000000)) (some (.str (x ++ y))) none := by rw [← blt_dec]; rfl
/-! ### regions whose order is open -/
section
variable {p : Ex} {e : Env} {H : Heap}
noncomputable def nextD (p : Ex) (l : List AOper) (rs : List (Nat × Nat)) (e : Env) (d : Option Nat) (h : Nat) (r : AVal × Heap) : Ops := aopsD p l (rs ++ [(h, len r.2)]) (put e d r.1) r.2
noncomputable def nextQ (p : Ex) (l : List AOper) (rs : List (Nat × Nat)) (e : Env) (d : Option Nat) (r : AVal × Heap × Nat × Nat) : Ops := aopsD p l (rs ++ [(r.2.2.1, r.2.2.2)]) (put e d r.1) r.2.1
theorem nextD_eq (l : List AOper) (rs : List (Nat × Nat)) (d : Option Nat) (h : Nat) (v : AVal) (K : Heap) : nextD p l rs e d h (v, K) = aopsD p l (rs ++ [(h, len K)]) (put e d v) K := keep rfl
theorem nextQ_eq (l : List AOper) (rs : List (Nat × Nat)) (d : Option Nat) (v : AVal) (K : Heap) (a c : Nat) : nextQ p l rs e d (v, K, a, c) = aopsD p l (rs ++ [(a, c)]) (put e d v) K := keep rfl
theorem d_nil (rs : List (Nat × Nat)) : aopsD p [] rs e H = some (e, H) := keep rfl
theorem d_plain (d : Option Nat) (op : AOp) (i : List Nat) (l : List AOper) (rs : List (Nat × Nat)) : aopsD p (⟨d, op, none, false, i⟩ :: l) rs e H = ob (aoper op p false e H) (nextD p l rs e d (len H)) := by
  show ob (aoper op p false e H) _ = _
  congr 1; funext r; show aopsD p l (apd rs _) _ _ = _; rw [apd_eq]; rfl
theorem d_quiet (d : Option Nat) (op : AOp) (i : List Nat) (l : List AOper) (rs : List (Nat × Nat)) : aopsD p (⟨d, op, none, true, i⟩ :: l) rs e H = ob (aoperQ p rs i e H op) (nextQ p l rs e d) := by
  show ob (aoperQ p rs i e H op) _ = _
  congr 1; funext r; show aopsD p l (apd rs _) _ _ = _; rw [apd_eq]; rfl
noncomputable def guardD (p : Ex) (op : AOp) (l : List AOper) (rs : List (Nat × Nat)) (e : Env) (H : Heap) (d : Option Nat) (i : List Nat) (q g : Bool) : Ops :=
  ite' g (ite' q (ob (aoperQ p rs i e H op) (nextQ p l rs e d)) (ob (aoper op p false e H) (nextD p l rs e d (len H)))) (aopsD p l (rs ++ [(0, 0)]) (put e d (.tup [])) H)
theorem d_guard (d : Option Nat) (op : AOp) (t : Nat) (w q : Bool) (i : List Nat) (l : List AOper) (rs : List (Nat × Nat)) : aopsD p (⟨d, op, some (t, w), q, i⟩ :: l) rs e H = ob (guardV (eget e t) w) (guardD p op l rs e H d i q) := by
  show ob (guardV (eget e t) w) _ = _
  congr 1; funext g
  unfold guardD
  rw [← apd_eq]
  cases g
  · rfl
  · cases q
    · show ob (aoper op p false e H) _ = ob (aoper op p false e H) _
      congr 1; funext r; show aopsD p l (apd rs _) _ _ = _; rw [apd_eq]; rfl
    · show ob (aoperQ p rs i e H op) _ = ob (aoperQ p rs i e H op) _
      congr 1; funext r; show aopsD p l (apd rs _) _ _ = _; rw [apd_eq]; rfl
theorem guardD_tt (op : AOp) (l : List AOper) (rs : List (Nat × Nat)) (d : Option Nat) (i : List Nat) : guardD p op l rs e H d i true true = ob (aoperQ p rs i e H op) (nextQ p l rs e d) := keep rfl
theorem guardD_ft (op : AOp) (l : List AOper) (rs : List (Nat × Nat)) (d : Option Nat) (i : List Nat) : guardD p op l rs e H d i false true = ob (aoper op p false e H) (nextD p l rs e d (len H)) := keep rfl
theorem guardD_f (op : AOp) (l : List AOper) (rs : List (Nat × Nat)) (d : Option Nat) (i : List Nat) (q : Bool) : guardD p op l rs e H d i q false = aopsD p l (rs ++ [(0, 0)]) (put e d (.tup [])) H := keep rfl
noncomputable def quietK (H : Heap) (r : AVal × Heap) : Option (AVal × Heap × Nat × Nat) := some (r.1, H ++ rest r.2 (len H), len H, len r.2)
theorem quietK_eq (v : AVal) (K : Heap) : quietK H (v, K) = some (v, H ++ rest K (len H), len H, len K) := keep rfl
noncomputable def touchK (a : Nat) (r : AVal × Heap) : Option (AVal × Heap × Nat × Nat) := some (r.1, r.2, a, a + 1)
theorem touchK_eq (a : Nat) (v : AVal) (K : Heap) : touchK a (v, K) = some (v, K, a, a + 1) := keep rfl
noncomputable def touchA (rs : List (Nat × Nat)) (i : List Nat) (e : Env) (H : Heap) (op : AOp) (a : Nat) : Option (AVal × Heap × Nat × Nat) := ite' (inSome rs a i) none (ob (aop op e H) (touchK a))
theorem touchA_eq (rs : List (Nat × Nat)) (i : List Nat) (op : AOp) (a : Nat) : touchA rs i e H op a = ite' (inSome rs a i) none (ob (aop op e H) (touchK a)) := keep rfl
theorem quiet_ob (x : Res) : (ob x fun r => some (r.1, apd H (rest r.2 (len H)), len H, len r.2)) = ob x (quietK H) := by
  congr 1; funext r; rw [apd_eq]; rfl
theorem q_call (rs : List (Nat × Nat)) (i : List Nat) (f : Nat) (xs : List Opnd) : aoperQ p rs i e H (.call f xs) = ob (aoper (.call f xs) p true e (roAll (mask rs i H))) (quietK H) := quiet_ob _
theorem q_callv (rs : List (Nat × Nat)) (i : List Nat) (g : Opnd) (xs : List Opnd) : aoperQ p rs i e H (.callv g xs) = ob (aoper (.callv g xs) p true e (roAll (mask rs i H))) (quietK H) := quiet_ob _
theorem q_alloc (rs : List (Nat × Nat)) (i : List Nat) (t : TypeId) (z : List AVal) : aoperQ p rs i e H (.alloc t z) = ob (aoper (.alloc t z) p true e (roAll (mask rs i H))) (quietK H) := quiet_ob (aoper (.alloc t z) p true e (roAll (mask rs i H)))
theorem q_box (rs : List (Nat × Nat)) (i : List Nat) (t : TypeId) (x : Opnd) : aoperQ p rs i e H (.box t x) = ob (aoper (.box t x) p true e (roAll (mask rs i H))) (quietK H) := quiet_ob _
theorem q_bslice (rs : List (Nat × Nat)) (i : List Nat) (t : TypeId) (s l : Nat) (z : List AVal) (ps : List (Nat × Opnd)) : aoperQ p rs i e H (.bslice t s l z ps) = ob (aoper (.bslice t s l z ps) p true e (roAll (mask rs i H))) (quietK H) := quiet_ob _
theorem q_mkslice (rs : List (Nat × Nat)) (i : List Nat) (t : TypeId) (s b : Nat) (z : List AVal) (x y : Opnd) : aoperQ p rs i e H (.mkslice t s b z x y) = ob (aoper (.mkslice t s b z x y) p true e (roAll (mask rs i H))) (quietK H) := quiet_ob _
theorem q_mkmap (rs : List (Nat × Nat)) (i : List Nat) : aoperQ p rs i e H .mkmap = ob (aoper .mkmap p true e (roAll (mask rs i H))) (quietK H) := quiet_ob (aoper .mkmap p true e (roAll (mask rs i H)))
theorem q_app (rs : List (Nat × Nat)) (i : List Nat) (t : TypeId) (s b : Nat) (z : List AVal) (x y : Opnd) : aoperQ p rs i e H (.app t s b z x y) = ob (aoper (.app t s b z x y) p true e (roAll (mask rs i H))) (quietK H) := quiet_ob _
theorem q_load (rs : List (Nat × Nat)) (i : List Nat) (s : Nat) (g : Bool) (x : Opnd) : aoperQ p rs i e H (.load s g x) = ob (nameOf (x.ev e)) (touchA rs i e H (.load s g x)) := keep rfl
theorem q_look (rs : List (Nat × Nat)) (i : List Nat) (s : Bool) (z : AVal) (m k : Opnd) (ok : Bool) : aoperQ p rs i e H (.look s z m k ok) = ob (nameOf (m.ev e)) (touchA rs i e H (.look s z m k ok)) := keep rfl
theorem q_store (rs : List (Nat × Nat)) (i : List Nat) (s : Nat) (a v : Opnd) : aoperQ p rs i e H (.store s a v) = ob (nameOf (a.ev e)) (touchA rs i e H (.store s a v)) := keep rfl
theorem nm_of_ptr (a o : Nat) : nameOf (.ptr a o) = some a := keep rfl
theorem nm_of_map (a : Nat) : nameOf (.map a) = some a := keep rfl
theorem aop_load (s : Nat) (g : Bool) (x : Opnd) : aop (.load s g x) e H = ob (aload H s g (x.ev e)) fun v => some (v, H) := keep rfl
theorem aop_store (s : Nat) (a v : Opnd) : aop (.store s a v) e H = ob (astore H s (a.ev e) (v.ev e)) fun H' => some (.tup [], H') := keep rfl
theorem aop_look (s : Bool) (z : AVal) (m k : Opnd) (ok : Bool) : aop (.look s z m k ok) e H = ob (ob (asMap (m.ev e)) fun a => ob (mapOf (hget H a)) fun r => ite' (isKey s (k.ev e))
    (ob (findKey s (k.ev e) r.2) fun f => some (lookK ok z f)) none) fun v => some (v, H) := keep rfl
theorem inSome_nil (rs : List (Nat × Nat)) (a : Nat) : inSome rs a [] = false := keep rfl
theorem inSome_cons (rs : List (Nat × Nat)) (a i : Nat) (l : List Nat) : inSome rs a (i :: l) = Option.rec (motive := fun _ => Bool) (inSome rs a l) (fun p => ite' (decide (p.1 ≤ a) && decide (a < p.2)) true (inSome rs a l)) (rs[i]?) := by
  rw [← nth_eq]
  show Option.rec (motive := fun _ => Bool) _ _ (nth rs i) = _
  cases nth rs i with
  | none => rfl
  | some p => show ite' (andB (Nat.ble p.1 a) (Nat.blt a p.2)) true (inSome rs a l) = ite' _ true (inSome rs a l); rw [andB_eq, ble_dec, blt_dec]
theorem roAll_nil : roAll [] = [] := keep rfl
theorem roAll_cons (o : AObj) (K : Heap) : roAll (o :: K) = o.ro :: roAll K := keep rfl
theorem maskC_nil (rs : List (Nat × Nat)) : mask rs [] H = H := keep rfl
noncomputable def maskK (r : Option (Nat × Nat)) (H : Heap) : Heap := Option.rec (motive := fun _ => Heap) H (fun p => maskN (p.2 - p.1) H p.1) r
theorem maskK_none : maskK none H = H := keep rfl
theorem maskK_some (a c : Nat) : maskK (some (a, c)) H = maskN (c - a) H a := keep rfl
theorem maskC_cons (rs : List (Nat × Nat)) (i : Nat) (l : List Nat) : mask rs (i :: l) H = mask rs l (maskK (rs[i]?) H) := by
  rw [← nth_eq]
  show Option.rec (motive := fun _ => Heap) _ _ (nth rs i) = _
  cases nth rs i <;> rfl
theorem maskN_zero (a : Nat) : maskN 0 H a = H := keep rfl
theorem maskN_succ (n a : Nat) : maskN (n + 1) H a = maskN n (upd H a .dead) (a + 1) := keep rfl
end
def wd := And.intro @x_regionD (And.intro @nextD_eq (And.intro @nextQ_eq (And.intro @d_nil (And.intro @d_plain (And.intro @d_quiet (And.intro @d_guard (And.intro @guardD_tt (And.intro @guardD_ft (And.intro @guardD_f (And.intro @quietK_eq (And.intro @touchK_eq (And.intro @touchA_eq (And.intro @q_call (And.intro @q_callv (And.intro @q_alloc (And.intro @q_box (And.intro @q_bslice (And.intro @q_mkslice (And.intro @q_mkmap (And.intro @q_app (And.intro @q_load (And.intro @q_look (And.intro @q_store (And.intro @nm_of_ptr (And.intro @nm_of_map (And.intro @aop_load (And.intro @aop_store (And.intro @aop_look (And.intro @inSome_nil (And.intro @inSome_cons (And.intro @roAll_nil (And.intro @roAll_cons (And.intro @maskC_nil (And.intro @maskK_none (And.intro @maskK_some (And.intro @maskC_cons (And.intro @maskN_zero @maskN_succ)))))))))))))))))))))))))))))))))))))
theorem a_nalloc {p : Ex} {q : Bool} {e : Env} {H : Heap} (szs : List Nat) (t : TypeId) (z : List AVal) : aoper (.nalloc szs t z) p q e H = ite' (decide (0 < len z)) (some (rowL (len H) (denilL szs z (H ++ [.row true (AVal.flatL z) z])))) none := by
  rw [← blt_dec, ← newRow_eq]; rfl
theorem rowL_eq (a : Nat) (l : List AVal) (K : Heap) : rowL a (l, K) = (.ptr a 0, upd K a (.row true (AVal.flatL l) l)) := keep rfl
theorem eqv_ns (a o l c z : Nat) (x : Bool) : eqv [9] (.slice a o l c z x) .nilSlice = ite' (decide (l = 0)) none (some false) := by rw [← beq_dec]; rfl
def wy := And.intro @a_nalloc (And.intro @rowL_eq (And.intro @eqv_ns (And.intro @bin_seql (And.intro @bin_sneq (And.intro @bin_sadd (And.intro rc_Int (And.intro rc_Bool (And.intro rc_ByteArray (And.intro rc_UInt8 (And.intro @rowC_nil (And.intro @rowC_append (And.intro @rowC_flat (And.intro @rowC_one (And.intro blist_len (And.intro @eq_self.{1} (And.intro @flatL_append (And.intro @oneL_append (And.intro @List.length_set.{0} (And.intro @mapC_nil @blist_len)))))))))))))))))))
def wm := And.intro @a_lookK (And.intro @find_str (And.intro @find_int (And.intro lk_sb (And.intro lk_si (And.intro lk_ib (And.intro lk_ii (And.intro lo_sb (And.intro lo_si (And.intro lo_ib (And.intro lo_ii (And.intro put_sb (And.intro put_si (And.intro put_ib put_ii)))))))))))))
/-! ### loops over functions -/
section
variable {p : Ex} {b : Nat} {e : Env} {H : Heap}
noncomputable def rangeE (n : Nat) (e : Env) (K : Heap) (o : LoopO) : CRes := ite' (o.rw && !decide (stNo o.st = 1)) (some (o.pd, e, upd K n .dead)) none
noncomputable def rangeK (n : Nat) (e : Env) (r : AVal × Heap) : CRes := ob (loopOf (hget r.2 n)) (rangeE n e r.2)
theorem rangeK_eq (n : Nat) (v : AVal) (K : Heap) : rangeK n e (v, K) = ob (loopOf (hget K n)) (rangeE n e K) := keep rfl
theorem rangeE_eq (n : Nat) (K : Heap) (rw : Bool) (st : LoopState) (t : Env) (ps : List Nat) (x y : ACode) (pd : AExit) : rangeE n e K ⟨rw, st, t, ps, x, y, pd⟩ = ite' (rw && !decide (stNo st = 1)) (some (pd, e, upd K n .dead)) none := keep rfl
theorem x_range (lv : List Nat) (g : Opnd) (ps : List Nat) (asg body : ACode) : exec1 (.rangeFunc lv g ps asg body) p b e H = rangeN p (restr e lv) H ps asg body (g.ev e) := keep rfl
theorem rangeN_func (ps : List Nat) (asg body : ACode) (f : Nat) (x y : List AVal) : rangeN p e H ps asg body (.func f x y) =
    ob (callOn (p.call f) false (x ++ (.yield (len H) :: y)) (H ++ [.loop true .ready e ps asg body .normal])) (rangeK (len H) e) := by
  rw [← apd_eq, ← apd_eq]
  show ob (callOn (p.call f) false _ _) _ = _
  congr 1; funext r
  show ob (loopOf (hget r.2 (len H))) _ = ob (loopOf (hget r.2 (len H))) _
  congr 1; funext o
  unfold rangeE
  rw [← notB_eq, ← andB_eq, ← beq_dec]
theorem loopOf_loop (rw : Bool) (st : LoopState) (t : Env) (ps : List Nat) (x y : ACode) (pd : AExit) : loopOf (.loop rw st t ps x y pd) = some ⟨rw, st, t, ps, x, y, pd⟩ := keep rfl
theorem stNo0 : stNo .ready = 0 := keep rfl
theorem stNo1 : stNo .busy = 1 := keep rfl
theorem stNo2 : stNo .done = 2 := keep rfl
theorem on_loop (rw : Bool) (st : LoopState) (t : Env) (ps : List Nat) (x y : ACode) (pd : AExit) : AObj.names (.loop rw st t ps x y pd) = namesE t := keep rfl
theorem or_loop (m : Nat → Option Nat) (rw : Bool) (st : LoopState) (t : Env) (ps : List Nat) (x y : ACode) (pd : AExit) : AObj.ren m (.loop rw st t ps x y pd) = .loop rw st (renE m t) ps x y pd := keep rfl
theorem cv_yield {q : Bool} (l : List AVal) (a : Nat) : callVal p q l H (.yield a) = ite' q none (p.yield a l H) := keep rfl
noncomputable def endK (a : Nat) (x : AExit) (K : Heap) (o : LoopO) : Res := ite' (o.rw && decide (stNo o.st = 1)) (some (.bool x.isNormal, upd K a (.loop true (ite' x.isNormal .ready .done) o.tmps o.ps o.asg o.body x))) none
noncomputable def endR (a : Nat) (r : AExit × Env × Heap) : Res := ob (loopOf (hget r.2.2 a)) (endK a r.1 r.2.2)
noncomputable def yieldC (p : Ex) (a n : Nat) (body : ACode) (e : Env) (K : Heap) (o : LoopO) : Res := ite' (o.rw && decide (stNo o.st = 0)) (ob (exec1 body p n e (upd K a (.loop true .busy o.tmps o.ps o.asg o.body o.pd))) (endR a)) none
noncomputable def yieldB (p : Ex) (a n : Nat) (body : ACode) (r : AExit × Env × Heap) : Res := ite' r.1.isNormal (ob (loopOf (hget r.2.2 a)) (yieldC p a n body r.2.1 r.2.2)) none
noncomputable def yieldA (p : Ex) (a : Nat) (args : List AVal) (H : Heap) (o : LoopO) : Res :=
  ite' (o.rw && decide (stNo o.st = 0) && decide (len args = len o.ps)) (ob (exec1 o.asg p (len H) (setParams o.ps args o.tmps) H) (yieldB p a (len H) o.body)) none
theorem ex_yieldA (tab : Nat → Option AFunc) (n a : Nat) (args : List AVal) : (ex tab (n + 1)).yield a args H = ob (loopOf (hget H a)) (yieldA (ex tab n) a args H) := by
  show ob (loopOf (hget H a)) _ = _
  congr 1; funext o
  unfold yieldA
  rw [← andB_eq, ← andB_eq, ← beq_dec, ← beq_dec]
  show ite' (andB (andB o.rw (Nat.beq (stNo o.st) 0)) (Nat.beq (len args) (len o.ps))) _ none = ite' _ _ none
  congr 2; funext r
  unfold yieldB
  congr 2; funext o2
  unfold yieldC
  rw [← andB_eq, ← beq_dec]
  congr 2; funext r
  show ob (loopOf (hget r.2.2 a)) _ = ob (loopOf (hget r.2.2 a)) _
  congr 1; funext o3
  unfold endK
  rw [← andB_eq, ← beq_dec]
theorem yieldA_eq (a : Nat) (args : List AVal) (rw : Bool) (st : LoopState) (t : Env) (ps : List Nat) (x y : ACode) (pd : AExit) : yieldA p a args H ⟨rw, st, t, ps, x, y, pd⟩ =
  ite' (rw && decide (stNo st = 0) && decide (len args = len ps)) (ob (exec1 x p (len H) (setParams ps args t) H) (yieldB p a (len H) y)) none := keep rfl
theorem yieldB_eq (a n : Nat) (y : ACode) (x : AExit) (K : Heap) : yieldB p a n y (x, e, K) = ite' x.isNormal (ob (loopOf (hget K a)) (yieldC p a n y e K)) none := keep rfl
theorem yieldC_eq (a n : Nat) (z : ACode) (K : Heap) (rw : Bool) (st : LoopState) (t : Env) (ps : List Nat) (x y : ACode) (pd : AExit) : yieldC p a n z e K ⟨rw, st, t, ps, x, y, pd⟩ =
  ite' (rw && decide (stNo st = 0)) (ob (exec1 z p n e (upd K a (.loop true .busy t ps x y pd))) (endR a)) none := keep rfl
theorem endR_eq (a : Nat) (x : AExit) (K : Heap) : endR a (x, e, K) = ob (loopOf (hget K a)) (endK a x K) := keep rfl
theorem endK_eq (a : Nat) (z : AExit) (K : Heap) (rw : Bool) (st : LoopState) (t : Env) (ps : List Nat) (x y : ACode) (pd : AExit) : endK a z K ⟨rw, st, t, ps, x, y, pd⟩ =
  ite' (rw && decide (stNo st = 1)) (some (.bool z.isNormal, upd K a (.loop true (ite' z.isNormal .ready .done) t ps x y z))) none := keep rfl
theorem sp_nil (vs : List AVal) : setParams [] vs e = e := keep rfl
theorem sp_cons (q : Nat) (ps : List Nat) (v : AVal) (vs : List AVal) : setParams (q :: ps) (v :: vs) e = setParams ps vs ((q, v) :: e) := keep rfl
theorem in_norm : AExit.isNormal .normal = true := keep rfl
theorem in_exit (i : Nat) : AExit.isNormal (.exit i) = false := keep rfl
theorem in_ret : AExit.isNormal .ret = false := keep rfl
end
def wg := And.intro @rangeK_eq (And.intro @rangeE_eq (And.intro @x_range (And.intro @rangeN_func (And.intro @loopOf_loop (And.intro stNo0 (And.intro stNo1 (And.intro stNo2 (And.intro @on_loop (And.intro @or_loop (And.intro @cv_yield (And.intro @ex_yieldA (And.intro @yieldA_eq (And.intro @yieldB_eq (And.intro @yieldC_eq (And.intro @endR_eq (And.intro @endK_eq (And.intro @sp_nil (And.intro @sp_cons (And.intro in_norm (And.intro in_exit in_ret))))))))))))))))))))
/-! ### nil slices, casts, bools -/
theorem cells_nilS : AVal.cells .nilSlice = [.nilSlice] := keep rfl
theorem cells_nilM : AVal.cells .nilMap = [.nilMap] := keep rfl
theorem cells_nilP : AVal.cells .nilPtr = [.nilPtr] := keep rfl
theorem cells_nilF : AVal.cells .nilFunc = [.nilFunc] := keep rfl
theorem cells_func (f : Nat) (x y : List AVal) : AVal.cells (.func f x y) = [.func f x y] := keep rfl
theorem one_nilS : AVal.one .nilSlice = true := keep rfl
theorem one_nilM : AVal.one .nilMap = true := keep rfl
theorem one_nilP : AVal.one .nilPtr = true := keep rfl
theorem one_nilF : AVal.one .nilFunc = true := keep rfl
theorem one_func (f : Nat) (x y : List AVal) : AVal.one (.func f x y) = true := keep rfl
theorem slN (z : Nat) : aslice z .nilSlice none none none = ite' (!decide (z = 0)) (some .nilSlice) none := by rw [← beq_dec]; cases z <;> rfl
theorem slN0 (z : Nat) : aslice z .nilSlice (some (.int .i64 0)) none none = ite' (!decide (z = 0)) (some .nilSlice) none := by rw [← beq_dec]; cases z <;> rfl
theorem slNh (z : Nat) : aslice z .nilSlice none (some (.int .i64 0)) none = ite' (!decide (z = 0)) (some .nilSlice) none := by rw [← beq_dec]; cases z <;> rfl
theorem slN0h (z : Nat) : aslice z .nilSlice (some (.int .i64 0)) (some (.int .i64 0)) none = ite' (!decide (z = 0)) (some .nilSlice) none := by rw [← beq_dec]; cases z <;> rfl
theorem slNhm (z : Nat) : aslice z .nilSlice none (some (.int .i64 0)) (some (.int .i64 0)) = ite' (!decide (z = 0)) (some .nilSlice) none := by rw [← beq_dec]; cases z <;> rfl
theorem tup_nil' : tupOf [] = .tup [] := keep rfl
theorem nc0 : ((0 : Nat) : Int) = 0 := rfl
theorem beq_val2 {x y b c : Bool} (h : (x == y) = b) (g : y = c) : x = (b == c) := by subst h; subst g; cases x <;> cases y <;> rfl
def wk := And.intro tup_nil' (And.intro cells_nilS (And.intro cells_nilM (And.intro cells_nilP (And.intro cells_nilF (And.intro @cells_func (And.intro one_nilS (And.intro one_nilM (And.intro one_nilP (And.intro one_nilF (And.intro @one_func (And.intro slN (And.intro slN0 (And.intro slNh (And.intro slN0h (And.intro slNhm nc0)))))))))))))))
def wbit := And.intro @bin_and (And.intro @bin_or @bin_xor)
def W := And.intro wbit (And.intro w0 (And.intro w1 (And.intro w2 (And.intro w3 (And.intro w4 (And.intro w5 (And.intro w6 (And.intro w7 (And.intro wc (And.intro wy (And.intro wk wm)))))))))))
def wn := And.intro wc (And.intro wy nc0)
end Go.AI
