/-
  ROWS OF NUMBERS, BOOLS, STRINGS; MAPS: what a walk reads and writes there.
-/
import Derived.Test.YtcghmpalmedkiaaLAiX
set_option linter.unusedVariables false
set_option linter.unusedSimpArgs false
set_option linter.defProp false
namespace Go.AI
/-! ### all that is known of the element at an index -/
theorem wr1 {α : Type} [Cell α] {l : List α} {j : Nat} {x : α} (h : l[j]? = some x) (hk : Cell.k α = 1) (y : α) : writeAt (Cell.enc y) (rowC l) j = some (rowC (l.set j y)) := by
  have := wr (List.getElem?_eq_some_iff.1 h).1 y
  rwa [hk, Nat.mul_one] at this
theorem ac_Int {l : List Int} {j : Nat} {x : Int} (h : l[j]? = some x) : ((rowC l)[j]? = some (.int .i64 x)) ∧ (∀ y, writeAt [.int .i64 y] (rowC l) j = some (rowC (l.set j y))) := ⟨rd1 h rfl, wr1 h rfl⟩
theorem rall1 {α : Type} [Cell α] (l : List α) (hk : Cell.k α = 1) : readAt l.length (rowC l) 0 = some (rowC l) := readAt_all (by rw [rowC_length, hk, Nat.mul_one])
theorem rc_Int : (∀ (x : Int) l, rowC (x :: l) = .int .i64 x :: rowC l) ∧ (∀ (x : Int) n, repeatL [.int .i64 x] n = rowC (List.replicate n x)) ∧ (∀ l : List Int, (rowC l).length = l.length) ∧ (∀ l : List Int, readAt l.length (rowC l) 0 = some (rowC l)) ∧ Cell.k Int = 1 :=
  ⟨fun x l => rowC_cons x l, fun x n => repeatL_eq x n, fun l => by rw [rowC_length]; exact Nat.mul_one _, fun l => rall1 l rfl, rfl⟩
theorem rc_Bool : (∀ (x : Bool) l, rowC (x :: l) = .bool x :: rowC l) ∧ (∀ (x : Bool) n, repeatL [.bool x] n = rowC (List.replicate n x)) ∧ (∀ l : List Bool, (rowC l).length = l.length) ∧ (∀ l : List Bool, readAt l.length (rowC l) 0 = some (rowC l)) ∧ Cell.k Bool = 1 :=
  ⟨fun x l => rowC_cons x l, fun x n => repeatL_eq x n, fun l => by rw [rowC_length]; exact Nat.mul_one _, fun l => rall1 l rfl, rfl⟩
theorem rc_ByteArray : (∀ (x : ByteArray) l, rowC (x :: l) = .str x :: rowC l) ∧ (∀ (x : ByteArray) n, repeatL [.str x] n = rowC (List.replicate n x)) ∧ (∀ l : List ByteArray, (rowC l).length = l.length) ∧ (∀ l : List ByteArray, readAt l.length (rowC l) 0 = some (rowC l)) ∧ Cell.k ByteArray = 1 :=
  ⟨fun x l => rowC_cons x l, fun x n => repeatL_eq x n, fun l => by rw [rowC_length]; exact Nat.mul_one _, fun l => rall1 l rfl, rfl⟩
theorem bytes_row (l : List UInt8) : byteCells l = rowC l := by rw [byteCells_eq]; induction l with
  | nil => rfl
  | cons x l ih => rw [List.map_cons, ih]; rfl
theorem rc_UInt8 : (∀ (x : UInt8) l, rowC (x :: l) = .int .u8 (x.toNat : Int) :: rowC l) ∧ (∀ l : List UInt8, (rowC l).length = l.length) ∧ (∀ l : List UInt8, readAt l.length (rowC l) 0 = some (rowC l)) ∧ (∀ l : List UInt8, byteCells l = rowC l) ∧ Cell.k UInt8 = 1 :=
  ⟨fun x l => rowC_cons x l, fun l => by rw [rowC_length]; exact Nat.mul_one _, fun l => rall1 l rfl, bytes_row, rfl⟩
theorem blist_len (s : ByteArray) : s.data.toList.length = s.size := by simp
/-! ### maps -/
class Prim (α : Type) where
  enc : α → AVal
  dec : DecidableEq α
instance : Prim Int := ⟨.int .i64, inferInstance⟩
instance : Prim Bool := ⟨.bool, inferInstance⟩
instance : Prim ByteArray := ⟨.str, inferInstance⟩
def mapC {κ ν : Type} [Prim κ] [Prim ν] (es : List (κ × ν)) : List (AVal × AVal) := es.map fun p => (Prim.enc p.1, Prim.enc p.2)
theorem mapC_nil {κ ν : Type} [Prim κ] [Prim ν] : mapC ([] : List (κ × ν)) = [] := rfl
def findM {κ ν : Type} [DecidableEq κ] (k : κ) : List (κ × ν) → Option ν
  | [] => none
  | (k', v) :: es => if k = k' then some v else findM k es
def putM {κ ν : Type} [DecidableEq κ] (k : κ) (v : ν) : List (κ × ν) → List (κ × ν)
  | [] => [(k, v)]
  | (k', v') :: es => if k = k' then (k, v) :: es else (k', v') :: putM k v es
section
variable {ν : Type} [Prim ν]
theorem find_str (k : ByteArray) (es : List (ByteArray × ν)) : findKey true (.str k) (mapC es) = some ((findM k es).map Prim.enc) := by
  induction es with
  | nil => rfl
  | cons p es ih =>
    obtain ⟨k', v⟩ := p
    show ob (eqS (.str k) (.str k')) (fun t => ite' t (some (some (Prim.enc v))) (findKey true (.str k) (mapC es))) = _
    have : eqS (.str k) (.str k') = some (decide (k = k')) := by rw [← strEq_dec]; rfl
    rw [this, ob_some, ih]
    by_cases h : k = k' <;> simp [h, findM]
theorem find_int (k : Int) (es : List (Int × ν)) : findKey false (.int .i64 k) (mapC es) = some ((findM k es).map Prim.enc) := by
  induction es with
  | nil => rfl
  | cons p es ih =>
    obtain ⟨k', v⟩ := p
    show ob (eqI (.int .i64 k) (.int .i64 k')) (fun t => ite' t (some (some (Prim.enc v))) (findKey false (.int .i64 k) (mapC es))) = _
    have : eqI (.int .i64 k) (.int .i64 k') = some (decide (k = k')) := by rw [← ieq_eq]; rfl
    rw [this, ob_some, ih]
    by_cases h : k = k' <;> simp [h, findM]
theorem put_str (k : ByteArray) (v : ν) (es : List (ByteArray × ν)) : putKey true (.str k) (Prim.enc v) (mapC es) = some (mapC (putM k v es)) := by
  induction es with
  | nil => rfl
  | cons p es ih =>
    obtain ⟨k', v'⟩ := p
    show ob (eqS (.str k) (.str k')) (fun t => ite' t (some ((.str k, Prim.enc v) :: mapC es)) (ob (putKey true (.str k) (Prim.enc v) (mapC es)) fun es' => some ((.str k', Prim.enc v') :: es'))) = _
    have : eqS (.str k) (.str k') = some (decide (k = k')) := by rw [← strEq_dec]; rfl
    rw [this, ob_some, ih]
    by_cases h : k = k'
    · simp [h, putM]; rfl
    · simp [h, putM]; rfl
theorem put_int (k : Int) (v : ν) (es : List (Int × ν)) : putKey false (.int .i64 k) (Prim.enc v) (mapC es) = some (mapC (putM k v es)) := by
  induction es with
  | nil => rfl
  | cons p es ih =>
    obtain ⟨k', v'⟩ := p
    show ob (eqI (.int .i64 k) (.int .i64 k')) (fun t => ite' t (some ((.int .i64 k, Prim.enc v) :: mapC es)) (ob (putKey false (.int .i64 k) (Prim.enc v) (mapC es)) fun es' => some ((.int .i64 k', Prim.enc v') :: es'))) = _
    have : eqI (.int .i64 k) (.int .i64 k') = some (decide (k = k')) := by rw [← ieq_eq]; rfl
    rw [this, ob_some, ih]
    by_cases h : k = k'
    · simp [h, putM]; rfl
    · simp [h, putM]; rfl
end
def getM {κ ν : Type} [DecidableEq κ] (k : κ) (d : ν) (es : List (κ × ν)) : ν := (findM k es).getD d
def hasM {κ ν : Type} [DecidableEq κ] (k : κ) (es : List (κ × ν)) : Bool := (findM k es).isSome
section
variable {p : Ex} {e : Env} {H : Heap} {q : Bool}
noncomputable def lookK (ok : Bool) (z : AVal) (f : Option AVal) : AVal := Option.rec (motive := fun _ => AVal) (ite' ok (.tup [z, .bool false]) z) (fun v => ite' ok (.tup [v, .bool true]) v) f
theorem a_lookK (s : Bool) (z : AVal) (m k : Opnd) (ok : Bool) : aoper (.look s z m k ok) p q e H = ob (ob (asMap (m.ev e)) fun a => ob (mapOf (hget H a)) fun r => ite' (isKey s (k.ev e))
    (ob (findKey s (k.ev e) r.2) fun f => some (lookK ok z f)) none) fun v => some (v, H) := keep rfl
theorem lk_sb (k : ByteArray) (es : List (ByteArray × Bool)) (z : Bool) : lookK false (.bool z) ((findM k es).map Prim.enc) = .bool (getM k z es) := by unfold getM; cases findM k es <;> rfl
theorem lk_si (k : ByteArray) (es : List (ByteArray × Int)) (z : Int) : lookK false (.int .i64 z) ((findM k es).map Prim.enc) = .int .i64 (getM k z es) := by unfold getM; cases findM k es <;> rfl
theorem lk_ib (k : Int) (es : List (Int × Bool)) (z : Bool) : lookK false (.bool z) ((findM k es).map Prim.enc) = .bool (getM k z es) := by unfold getM; cases findM k es <;> rfl
theorem lk_ii (k : Int) (es : List (Int × Int)) (z : Int) : lookK false (.int .i64 z) ((findM k es).map Prim.enc) = .int .i64 (getM k z es) := by unfold getM; cases findM k es <;> rfl
theorem lo_sb (k : ByteArray) (es : List (ByteArray × Bool)) (z : Bool) : lookK true (.bool z) ((findM k es).map Prim.enc) = .tup [.bool (getM k z es), .bool (hasM k es)] := by unfold getM hasM; cases findM k es <;> rfl
theorem lo_si (k : ByteArray) (es : List (ByteArray × Int)) (z : Int) : lookK true (.int .i64 z) ((findM k es).map Prim.enc) = .tup [.int .i64 (getM k z es), .bool (hasM k es)] := by unfold getM hasM; cases findM k es <;> rfl
theorem lo_ib (k : Int) (es : List (Int × Bool)) (z : Bool) : lookK true (.bool z) ((findM k es).map Prim.enc) = .tup [.bool (getM k z es), .bool (hasM k es)] := by unfold getM hasM; cases findM k es <;> rfl
theorem lo_ii (k : Int) (es : List (Int × Int)) (z : Int) : lookK true (.int .i64 z) ((findM k es).map Prim.enc) = .tup [.int .i64 (getM k z es), .bool (hasM k es)] := by unfold getM hasM; cases findM k es <;> rfl
theorem put_sb (k : ByteArray) (v : Bool) (es : List (ByteArray × Bool)) : putKey true (.str k) (.bool v) (mapC es) = some (mapC (putM k v es)) := put_str k v es
theorem put_si (k : ByteArray) (v : Int) (es : List (ByteArray × Int)) : putKey true (.str k) (.int .i64 v) (mapC es) = some (mapC (putM k v es)) := put_str k v es
theorem put_ib (k : Int) (v : Bool) (es : List (Int × Bool)) : putKey false (.int .i64 k) (.bool v) (mapC es) = some (mapC (putM k v es)) := put_int k v es
theorem put_ii (k : Int) (v : Int) (es : List (Int × Int)) : putKey false (.int .i64 k) (.int .i64 v) (mapC es) = some (mapC (putM k v es)) := put_int k v es
end
/-! ### a part of a row; room -/
def partL {α : Type} (l : List α) (o n : Nat) : Option (List α) := if o + n ≤ l.length then some ((l.drop o).take n) else none
theorem part_row {α : Type} [Cell α] {l p : List α} {o n : Nat} (h : partL l o n = some p) : readAt (n * Cell.k α) (rowC l) (o * Cell.k α) = some (rowC p) ∧ p.length = n := by
  unfold partL at h
  split at h
  · rename_i hl
    cases h
    have hp : ((l.drop o).take n).length = n := by simp; omega
    refine ⟨readAt_of (by rw [rowC_length, hp]) fun c hc => ?_, hp⟩
    rw [rowC_length, hp] at hc
    have hk := Cell.pos (α := α)
    have hi : c = c / Cell.k α * Cell.k α + c % Cell.k α := by rw [Nat.mul_comm]; exact (Nat.div_add_mod c _).symm
    have hm : c % Cell.k α < Cell.k α := Nat.mod_lt _ hk
    have hd : c / Cell.k α < n := Nat.div_lt_of_lt_mul (by rw [Nat.mul_comm]; exact hc)
    generalize c / Cell.k α = a at hi hd
    generalize c % Cell.k α = d at hi hm
    subst hi
    rw [← Nat.add_assoc, ← Nat.add_mul, rowC_get _ _ _ hm, rowC_get _ _ _ hm, List.getElem?_take_of_lt hd, List.getElem?_drop]
  · cases h
theorem un_roomd {α : Type} {n : Nat} {x : Option α} {a : α} (h : room n x = some a) : decide (n ≤ 140737488355328) = true ∧ x = some a := by
  unfold room at h
  split at h
  · exact ⟨dt (by assumption), h⟩
  · cases h
theorem bin_sadd (x y : ByteArray) : abin .add (.str x) (.str y) = ite' (decide (x.size + y.size < 1000000000000)) (some (.str (x ++ y))) none := by rw [← blt_dec]; rfl
/-! ### regions whose order is open -/
section
variable {p : Ex} {e : Env} {H : Heap}
noncomputable def nextD (p : Ex) (l : List AOper) (rs : List (Nat × Nat)) (e : Env) (d : Option Nat) (h : Nat) (r : AVal × Heap) : Ops := aopsD p l (rs ++ [(h, len r.2)]) (put e d r.1) r.2
noncomputable def nextQ (p : Ex) (l : List AOper) (rs : List (Nat × Nat)) (e : Env) (d : Option Nat) (r : AVal × Heap × Nat × Nat) : Ops := aopsD p l (rs ++ [(r.2.2.1, r.2.2.2)]) (put e d r.1) r.2.1
theorem nextD_eq (l : List AOper) (rs : List (Nat × Nat)) (d : Option Nat) (h : Nat) (v : AVal) (K : Heap) : nextD p l rs e d h (v, K) = aopsD p l (rs ++ [(h, len K)]) (put e d v) K := keep rfl
theorem nextQ_eq (l : List AOper) (rs : List (Nat × Nat)) (d : Option Nat) (v : AVal) (K : Heap) (a c : Nat) : nextQ p l rs e d (v, K, a, c) = aopsD p l (rs ++ [(a, c)]) (put e d v) K := keep rfl
theorem d_nil (rs : List (Nat × Nat)) : aopsD p [] rs e H = some (e, H) := keep rfl
theorem d_plain (d : Option Nat) (op : AOp) (i : List Nat) (l : List AOper) (rs : List (Nat × Nat)) : aopsD p (⟨d, op, none, false, i⟩ :: l) rs e H = ob (aoper op p false e H) (nextD p l rs e d (op.low e H)) := by
  show ob (aoper op p false e H) _ = _
  congr 1; funext r; show aopsD p l (apd rs _) _ _ = _; rw [apd_eq]; rfl
theorem d_quiet (d : Option Nat) (op : AOp) (i : List Nat) (l : List AOper) (rs : List (Nat × Nat)) : aopsD p (⟨d, op, none, true, i⟩ :: l) rs e H = ob (aoperQ p rs i e H op) (nextQ p l rs e d) := by
  show ob (aoperQ p rs i e H op) _ = _
  congr 1; funext r; show aopsD p l (apd rs _) _ _ = _; rw [apd_eq]; rfl
noncomputable def guardD (p : Ex) (op : AOp) (l : List AOper) (rs : List (Nat × Nat)) (e : Env) (H : Heap) (d : Option Nat) (i : List Nat) (q g : Bool) : Ops :=
  ite' g (ite' q (ob (aoperQ p rs i e H op) (nextQ p l rs e d)) (ob (aoper op p false e H) (nextD p l rs e d (op.low e H)))) (aopsD p l (rs ++ [(0, 0)]) (put e d (.tup [])) H)
theorem d_guard (d : Option Nat) (op : AOp) (t : Nat) (w q : Bool) (i : List Nat) (l : List AOper) (rs : List (Nat × Nat)) : aopsD p (⟨d, op, some (t, w), q, i⟩ :: l) rs e H = ob (guardV (eget e t) w) (guardD p op l rs e H d i q) := by
  show ob (guardV (eget e t) w) _ = _
  congr 1; funext g
  unfold guardD
  rw [← apd_eq]
  cases g
  · rfl
  · cases q
    · show ob (aoper op p false e H) _ = ob (aoper op p false e H) _
      congr 1; funext r; show aopsD p l (apd rs _) _ _ = _; rw [apd_eq]; rfl
    · show ob (aoperQ p rs i e H op) _ = ob (aoperQ p rs i e H op) _
      congr 1; funext r; show aopsD p l (apd rs _) _ _ = _; rw [apd_eq]; rfl
theorem guardD_tt (op : AOp) (l : List AOper) (rs : List (Nat × Nat)) (d : Option Nat) (i : List Nat) : guardD p op l rs e H d i true true = ob (aoperQ p rs i e H op) (nextQ p l rs e d) := keep rfl
theorem guardD_ft (op : AOp) (l : List AOper) (rs : List (Nat × Nat)) (d : Option Nat) (i : List Nat) : guardD p op l rs e H d i false true = ob (aoper op p false e H) (nextD p l rs e d (op.low e H)) := keep rfl
theorem guardD_f (op : AOp) (l : List AOper) (rs : List (Nat × Nat)) (d : Option Nat) (i : List Nat) (q : Bool) : guardD p op l rs e H d i q false = aopsD p l (rs ++ [(0, 0)]) (put e d (.tup [])) H := keep rfl
noncomputable def quietK (H : Heap) (r : AVal × Heap) : Option (AVal × Heap × Nat × Nat) := some (r.1, H ++ rest r.2 (len H), len H, len r.2)
theorem quietK_eq (v : AVal) (K : Heap) : quietK H (v, K) = some (v, H ++ rest K (len H), len H, len K) := keep rfl
noncomputable def touchK (a : Nat) (r : AVal × Heap) : Option (AVal × Heap × Nat × Nat) := some (r.1, r.2, a, a + 1)
theorem touchK_eq (a : Nat) (v : AVal) (K : Heap) : touchK a (v, K) = some (v, K, a, a + 1) := keep rfl
noncomputable def touchA (rs : List (Nat × Nat)) (i : List Nat) (e : Env) (H : Heap) (op : AOp) (a : Nat) : Option (AVal × Heap × Nat × Nat) := ite' (inSome rs a i) none (ob (aop op e H) (touchK a))
theorem touchA_eq (rs : List (Nat × Nat)) (i : List Nat) (op : AOp) (a : Nat) : touchA rs i e H op a = ite' (inSome rs a i) none (ob (aop op e H) (touchK a)) := keep rfl
theorem quiet_ob (x : Res) : (ob x fun r => some (r.1, apd H (rest r.2 (len H)), len H, len r.2)) = ob x (quietK H) := by
  congr 1; funext r; rw [apd_eq]; rfl
theorem q_call (rs : List (Nat × Nat)) (i : List Nat) (f : Nat) (xs : List Opnd) : aoperQ p rs i e H (.call f xs) = ob (aoper (.call f xs) p true e (roAll (mask rs i H))) (quietK H) := quiet_ob _
theorem q_callv (rs : List (Nat × Nat)) (i : List Nat) (g : Opnd) (xs : List Opnd) : aoperQ p rs i e H (.callv g xs) = ob (aoper (.callv g xs) p true e (roAll (mask rs i H))) (quietK H) := quiet_ob _
theorem q_alloc (rs : List (Nat × Nat)) (i : List Nat) (t : TypeId) (z : List AVal) : aoperQ p rs i e H (.alloc t z) = ob (aoper (.alloc t z) p true e (roAll (mask rs i H))) (quietK H) := quiet_ob (aoper (.alloc t z) p true e (roAll (mask rs i H)))
theorem q_box (rs : List (Nat × Nat)) (i : List Nat) (t : TypeId) (x : Opnd) : aoperQ p rs i e H (.box t x) = ob (aoper (.box t x) p true e (roAll (mask rs i H))) (quietK H) := quiet_ob _
theorem q_bslice (rs : List (Nat × Nat)) (i : List Nat) (t : TypeId) (s l : Nat) (z : List AVal) (ps : List (Nat × Opnd)) : aoperQ p rs i e H (.bslice t s l z ps) = ob (aoper (.bslice t s l z ps) p true e (roAll (mask rs i H))) (quietK H) := quiet_ob _
theorem q_mkslice (rs : List (Nat × Nat)) (i : List Nat) (t : TypeId) (s b : Nat) (z : List AVal) (x y : Opnd) : aoperQ p rs i e H (.mkslice t s b z x y) = ob (aoper (.mkslice t s b z x y) p true e (roAll (mask rs i H))) (quietK H) := quiet_ob _
theorem q_mkmap (rs : List (Nat × Nat)) (i : List Nat) : aoperQ p rs i e H .mkmap = ob (aoper .mkmap p true e (roAll (mask rs i H))) (quietK H) := quiet_ob (aoper .mkmap p true e (roAll (mask rs i H)))
theorem q_app (rs : List (Nat × Nat)) (i : List Nat) (t : TypeId) (s b : Nat) (z : List AVal) (x y : Opnd) : aoperQ p rs i e H (.app t s b z x y) = ob (aoper (.app t s b z x y) p true e (roAll (mask rs i H))) (quietK H) := quiet_ob _
theorem q_load (rs : List (Nat × Nat)) (i : List Nat) (s : Nat) (g : Bool) (x : Opnd) : aoperQ p rs i e H (.load s g x) = ob (nameOf (x.ev e)) (touchA rs i e H (.load s g x)) := keep rfl
theorem q_look (rs : List (Nat × Nat)) (i : List Nat) (s : Bool) (z : AVal) (m k : Opnd) (ok : Bool) : aoperQ p rs i e H (.look s z m k ok) = ob (nameOf (m.ev e)) (touchA rs i e H (.look s z m k ok)) := keep rfl
theorem q_store (rs : List (Nat × Nat)) (i : List Nat) (s : Nat) (a v : Opnd) : aoperQ p rs i e H (.store s a v) = ob (nameOf (a.ev e)) (touchA rs i e H (.store s a v)) := keep rfl
theorem nm_of_ptr (a o : Nat) : nameOf (.ptr (.p a) o) = some a := keep rfl
theorem nm_of_ptrV (a i o : Nat) : nameOf (.ptr (.v a i) o) = some a := keep rfl
theorem nm_of_map (a : Nat) : nameOf (.map a) = some a := keep rfl
theorem aop_load (s : Nat) (g : Bool) (x : Opnd) : aop (.load s g x) e H = ob (aload H s g (x.ev e)) fun v => some (v, H) := keep rfl
theorem aop_store (s : Nat) (a v : Opnd) : aop (.store s a v) e H = ob (astore H s (a.ev e) (v.ev e)) fun H' => some (.tup [], H') := keep rfl
theorem aop_look (s : Bool) (z : AVal) (m k : Opnd) (ok : Bool) : aop (.look s z m k ok) e H = ob (ob (asMap (m.ev e)) fun a => ob (mapOf (hget H a)) fun r => ite' (isKey s (k.ev e))
    (ob (findKey s (k.ev e) r.2) fun f => some (lookK ok z f)) none) fun v => some (v, H) := keep rfl
theorem inSome_nil (rs : List (Nat × Nat)) (a : Nat) : inSome rs a [] = false := keep rfl
theorem inSome_cons (rs : List (Nat × Nat)) (a i : Nat) (l : List Nat) : inSome rs a (i :: l) = Option.rec (motive := fun _ => Bool) (inSome rs a l) (fun p => ite' (decide (p.1 ≤ a) && decide (a < p.2)) true (inSome rs a l)) (rs[i]?) := by
  rw [← nth_eq]
  show Option.rec (motive := fun _ => Bool) _ _ (nth rs i) = _
  cases nth rs i with
  | none => rfl
  | some p => show ite' (andB (Nat.ble p.1 a) (Nat.blt a p.2)) true (inSome rs a l) = ite' _ true (inSome rs a l); rw [andB_eq, ble_dec, blt_dec]
theorem roAll_nil : roAll [] = [] := keep rfl
theorem roAll_cons (o : AObj) (K : Heap) : roAll (o :: K) = o.ro :: roAll K := keep rfl
theorem maskC_nil (rs : List (Nat × Nat)) : mask rs [] H = H := keep rfl
noncomputable def maskK (r : Option (Nat × Nat)) (H : Heap) : Heap := Option.rec (motive := fun _ => Heap) H (fun p => maskN (p.2 - p.1) H p.1) r
theorem maskK_none : maskK none H = H := keep rfl
theorem maskK_some (a c : Nat) : maskK (some (a, c)) H = maskN (c - a) H a := keep rfl
theorem maskC_cons (rs : List (Nat × Nat)) (i : Nat) (l : List Nat) : mask rs (i :: l) H = mask rs l (maskK (rs[i]?) H) := by
  rw [← nth_eq]
  show Option.rec (motive := fun _ => Heap) _ _ (nth rs i) = _
  cases nth rs i <;> rfl
theorem maskN_zero (a : Nat) : maskN 0 H a = H := keep rfl
theorem maskN_succ (n a : Nat) : maskN (n + 1) H a = maskN n (upd H a .dead) (a + 1) := keep rfl
end
theorem low_app (t : TypeId) (z b : Nat) (zs : List AVal) (s x : Opnd) (e : Env) (H : Heap) : AOp.low (.app t z b zs s x) e H = lowSl (s.ev e) H := keep rfl
theorem low_sl (a : Nm) (o l c z : Nat) (x : Bool) (H : Heap) : lowSl (.slice a o l c z x) H = a.base := keep rfl
theorem low_nil (H : Heap) : lowSl .nilSlice H = len H := keep rfl
theorem low_mv (x0 : _) (e : Env) (H : Heap) : AOp.low (.mv x0) e H = 0 := keep rfl
theorem low_pick (x0 : _) (x1 : _) (x2 : _) (e : Env) (H : Heap) : AOp.low (.pick x0 x1 x2) e H = 0 := keep rfl
theorem low_alloc (x0 : _) (x1 : _) (e : Env) (H : Heap) : AOp.low (.alloc x0 x1) e H = 0 := keep rfl
theorem low_box (x0 : _) (x1 : _) (e : Env) (H : Heap) : AOp.low (.box x0 x1) e H = 0 := keep rfl
theorem low_build (x0 : _) (x1 : _) (e : Env) (H : Heap) : AOp.low (.build x0 x1) e H = 0 := keep rfl
theorem low_bslice (x0 : _) (x1 : _) (x2 : _) (x3 : _) (x4 : _) (e : Env) (H : Heap) : AOp.low (.bslice x0 x1 x2 x3 x4) e H = 0 := keep rfl
theorem low_load (x0 : _) (x1 : _) (x2 : _) (e : Env) (H : Heap) : AOp.low (.load x0 x1 x2) e H = 0 := keep rfl
theorem low_store (x0 : _) (x1 : _) (x2 : _) (e : Env) (H : Heap) : AOp.low (.store x0 x1 x2) e H = 0 := keep rfl
theorem low_bin (x0 : _) (x1 : _) (x2 : _) (e : Env) (H : Heap) : AOp.low (.bin x0 x1 x2) e H = 0 := keep rfl
theorem low_eq (x0 : _) (x1 : _) (x2 : _) (x3 : _) (e : Env) (H : Heap) : AOp.low (.eq x0 x1 x2 x3) e H = 0 := keep rfl
theorem low_un (x0 : _) (x1 : _) (e : Env) (H : Heap) : AOp.low (.un x0 x1) e H = 0 := keep rfl
theorem low_conv (x0 : _) (x1 : _) (e : Env) (H : Heap) : AOp.low (.conv x0 x1) e H = 0 := keep rfl
theorem low_bytes (x0 : _) (x1 : _) (e : Env) (H : Heap) : AOp.low (.bytes x0 x1) e H = 0 := keep rfl
theorem low_mkf (x0 : _) (x1 : _) (x2 : _) (e : Env) (H : Heap) : AOp.low (.mkf x0 x1 x2) e H = 0 := keep rfl
theorem low_mkmap (e : Env) (H : Heap) : AOp.low (.mkmap) e H = 0 := keep rfl
theorem low_mkslice (x0 : _) (x1 : _) (x2 : _) (x3 : _) (x4 : _) (x5 : _) (e : Env) (H : Heap) : AOp.low (.mkslice x0 x1 x2 x3 x4 x5) e H = 0 := keep rfl
theorem low_slice (x0 : _) (x1 : _) (x2 : _) (x3 : _) (x4 : _) (e : Env) (H : Heap) : AOp.low (.slice x0 x1 x2 x3 x4) e H = 0 := keep rfl
theorem low_faddr (x0 : _) (x1 : _) (e : Env) (H : Heap) : AOp.low (.faddr x0 x1) e H = 0 := keep rfl
theorem low_field (x0 : _) (x1 : _) (x2 : _) (x3 : _) (e : Env) (H : Heap) : AOp.low (.field x0 x1 x2 x3) e H = 0 := keep rfl
theorem low_iaddr (x0 : _) (x1 : _) (x2 : _) (e : Env) (H : Heap) : AOp.low (.iaddr x0 x1 x2) e H = 0 := keep rfl
theorem low_iarr (x0 : _) (x1 : _) (x2 : _) (x3 : _) (e : Env) (H : Heap) : AOp.low (.iarr x0 x1 x2 x3) e H = 0 := keep rfl
theorem low_index (x0 : _) (x1 : _) (x2 : _) (x3 : _) (x4 : _) (e : Env) (H : Heap) : AOp.low (.index x0 x1 x2 x3 x4) e H = 0 := keep rfl
theorem low_sindex (x0 : _) (x1 : _) (e : Env) (H : Heap) : AOp.low (.sindex x0 x1) e H = 0 := keep rfl
theorem low_look (x0 : _) (x1 : _) (x2 : _) (x3 : _) (x4 : _) (e : Env) (H : Heap) : AOp.low (.look x0 x1 x2 x3 x4) e H = 0 := keep rfl
theorem low_mupd (x0 : _) (x1 : _) (x2 : _) (x3 : _) (e : Env) (H : Heap) : AOp.low (.mupd x0 x1 x2 x3) e H = 0 := keep rfl
theorem low_ext (x0 : _) (x1 : _) (e : Env) (H : Heap) : AOp.low (.ext x0 x1) e H = 0 := keep rfl
theorem low_len (x0 : _) (x1 : _) (e : Env) (H : Heap) : AOp.low (.len x0 x1) e H = 0 := keep rfl
theorem low_minmax (x0 : _) (x1 : _) (x2 : _) (e : Env) (H : Heap) : AOp.low (.minmax x0 x1 x2) e H = 0 := keep rfl
theorem low_call (x0 : _) (x1 : _) (e : Env) (H : Heap) : AOp.low (.call x0 x1) e H = 0 := keep rfl
theorem low_callv (x0 : _) (x1 : _) (e : Env) (H : Heap) : AOp.low (.callv x0 x1) e H = 0 := keep rfl
theorem low_nils (x0 : _) (x1 : _) (e : Env) (H : Heap) : AOp.low (.nils x0 x1) e H = 0 := keep rfl
theorem low_nbuild (x0 : _) (x1 : _) (x2 : _) (e : Env) (H : Heap) : AOp.low (.nbuild x0 x1 x2) e H = 0 := keep rfl
theorem low_nalloc (x0 : _) (x1 : _) (x2 : _) (e : Env) (H : Heap) : AOp.low (.nalloc x0 x1 x2) e H = 0 := keep rfl
theorem low_nilm (x0 : _) (e : Env) (H : Heap) : AOp.low (.nilm x0) e H = 0 := keep rfl
theorem low_mkmat (x0 : _) (x1 : _) (x2 : _) (x3 : _) (e : Env) (H : Heap) : AOp.low (.mkmat x0 x1 x2 x3) e H = 0 := keep rfl
theorem low_storem (x0 : _) (x1 : _) (e : Env) (H : Heap) : AOp.low (.storem x0 x1) e H = 0 := keep rfl
theorem low_appm (x0 : _) (x1 : _) (x2 : _) (x3 : _) (e : Env) (H : Heap) : AOp.low (.appm x0 x1 x2 x3) e H = 0 := keep rfl
theorem low_stop (e : Env) (H : Heap) : AOp.low (.stop) e H = 0 := keep rfl
theorem low_nilck (x0 : _) (e : Env) (H : Heap) : AOp.low (.nilck x0) e H = 0 := keep rfl
theorem low_cap (x0 : _) (e : Env) (H : Heap) : AOp.low (.cap x0) e H = 0 := keep rfl
theorem low_copy (x0 : _) (x1 : _) (x2 : _) (e : Env) (H : Heap) : AOp.low (.copy x0 x1 x2) e H = 0 := keep rfl
theorem low_clear (x0 : _) (x1 : _) (x2 : _) (x3 : _) (e : Env) (H : Heap) : AOp.low (.clear x0 x1 x2 x3) e H = 0 := keep rfl
def wlow := And.intro @low_app (And.intro @low_sl (And.intro @low_nil (And.intro @low_mv (And.intro @low_pick (And.intro @low_alloc (And.intro @low_box (And.intro @low_build (And.intro @low_bslice (And.intro @low_load (And.intro @low_store (And.intro @low_bin (And.intro @low_eq (And.intro @low_un (And.intro @low_conv (And.intro @low_bytes (And.intro @low_mkf (And.intro @low_mkmap (And.intro @low_mkslice (And.intro @low_slice (And.intro @low_faddr (And.intro @low_field (And.intro @low_iaddr (And.intro @low_iarr (And.intro @low_index (And.intro @low_sindex (And.intro @low_look (And.intro @low_mupd (And.intro @low_ext (And.intro @low_len (And.intro @low_minmax (And.intro @low_call (And.intro @low_callv (And.intro @low_nils (And.intro @low_nbuild (And.intro @low_nalloc (And.intro @low_nilm (And.intro @low_mkmat (And.intro @low_storem (And.intro @low_appm (And.intro @low_stop (And.intro @low_nilck (And.intro @low_cap (And.intro @low_copy (And.intro @low_clear (And.intro @base_p @base_v)))))))))))))))))))))))))))))))))))))))))))))
def wd := And.intro wlow <| And.intro @x_regionD (And.intro @nextD_eq (And.intro @nextQ_eq (And.intro @d_nil (And.intro @d_plain (And.intro @d_quiet (And.intro @d_guard (And.intro @guardD_tt (And.intro @guardD_ft (And.intro @guardD_f (And.intro @quietK_eq (And.intro @touchK_eq (And.intro @touchA_eq (And.intro @q_call (And.intro @q_callv (And.intro @q_alloc (And.intro @q_box (And.intro @q_bslice (And.intro @q_mkslice (And.intro @q_mkmap (And.intro @q_app (And.intro @q_load (And.intro @q_look (And.intro @q_store (And.intro @nm_of_ptr (And.intro @nm_of_map (And.intro @aop_load (And.intro @aop_store (And.intro @aop_look (And.intro @inSome_nil (And.intro @inSome_cons (And.intro @roAll_nil (And.intro @roAll_cons (And.intro @maskC_nil (And.intro @maskK_none (And.intro @maskK_some (And.intro @maskC_cons (And.intro @maskN_zero @maskN_succ)))))))))))))))))))))))))))))))))))))
theorem a_nalloc {p : Ex} {q : Bool} {e : Env} {H : Heap} (szs : List Nat) (t : TypeId) (z : List AVal) : aoper (.nalloc szs t z) p q e H = ite' (decide (0 < len z)) (some (rowL (len H) (denilL szs z (H ++ [.row true (AVal.flatL z) z])))) none := by
  rw [← blt_dec, ← newRow_eq]; rfl
theorem rowL_eq (a : Nat) (l : List AVal) (K : Heap) : rowL a (l, K) = (.ptr (.p a) 0, upd K a (.row true (AVal.flatL l) l)) := keep rfl
theorem eqv_ns (a : Nm) (o l c z : Nat) (x : Bool) : eqv [9] (.slice a o l c z x) .nilSlice = ite' (decide (l = 0 ∧ c = 0)) none (some false) := by
  have : eqv [9] (.slice a o l c z x) .nilSlice = ite' (andB (Nat.beq l 0) (Nat.beq c 0)) none (some false) := rfl
  rw [this, andB_eq, beq_dec, beq_dec, Bool.decide_and]
def wy := And.intro @and_self <| And.intro @a_nalloc (And.intro @rowL_eq (And.intro @eqv_ns (And.intro @bin_seql (And.intro @bin_sneq (And.intro @bin_sadd (And.intro rc_Int (And.intro rc_Bool (And.intro rc_ByteArray (And.intro rc_UInt8 (And.intro @rowC_nil (And.intro @rowC_append (And.intro @rowC_flat (And.intro @rowC_one (And.intro blist_len (And.intro @eq_self.{1} (And.intro @flatL_append (And.intro @oneL_append (And.intro @List.length_set.{0} (And.intro @mapC_nil @blist_len)))))))))))))))))))
def wm := And.intro @a_lookK (And.intro @find_str (And.intro @find_int (And.intro lk_sb (And.intro lk_si (And.intro lk_ib (And.intro lk_ii (And.intro lo_sb (And.intro lo_si (And.intro lo_ib (And.intro lo_ii (And.intro put_sb (And.intro put_si (And.intro put_ib put_ii)))))))))))))
/-! ### loops over functions -/
section
variable {p : Ex} {b : Nat} {e : Env} {H : Heap}
noncomputable def endK (a : Nat) (x : AExit) (K : Heap) (o : LoopO) : Res := ite' (o.rw && decide (stNo o.st = 1)) (some (.bool x.isNormal, upd K a (.loop true (ite' x.isNormal .ready .done) o.tmps o.ps o.asg o.body x))) none
noncomputable def endR (a : Nat) (r : AExit × Env × Heap) : Res := ob (loopOf (hget r.2.2 a)) (endK a r.1 r.2.2)
end
/-! ### nil slices, casts, bools -/
theorem cells_nilS : AVal.cells .nilSlice = [.nilSlice] := keep rfl
theorem cells_nilM : AVal.cells .nilMap = [.nilMap] := keep rfl
theorem cells_nilP : AVal.cells .nilPtr = [.nilPtr] := keep rfl
theorem cells_nilF : AVal.cells .nilFunc = [.nilFunc] := keep rfl
theorem cells_func (f : Nat) (x y : List AVal) : AVal.cells (.func f x y) = [.func f x y] := keep rfl
theorem one_nilS : AVal.one .nilSlice = true := keep rfl
theorem one_nilM : AVal.one .nilMap = true := keep rfl
theorem one_nilP : AVal.one .nilPtr = true := keep rfl
theorem one_nilF : AVal.one .nilFunc = true := keep rfl
theorem one_func (f : Nat) (x y : List AVal) : AVal.one (.func f x y) = true := keep rfl
theorem slN (z : Nat) : aslice z .nilSlice none none none = ite' (!decide (z = 0)) (some .nilSlice) none := by rw [← beq_dec]; cases z <;> rfl
theorem slN0 (z : Nat) : aslice z .nilSlice (some (.int .i64 0)) none none = ite' (!decide (z = 0)) (some .nilSlice) none := by rw [← beq_dec]; cases z <;> rfl
theorem slNh (z : Nat) : aslice z .nilSlice none (some (.int .i64 0)) none = ite' (!decide (z = 0)) (some .nilSlice) none := by rw [← beq_dec]; cases z <;> rfl
theorem slN0h (z : Nat) : aslice z .nilSlice (some (.int .i64 0)) (some (.int .i64 0)) none = ite' (!decide (z = 0)) (some .nilSlice) none := by rw [← beq_dec]; cases z <;> rfl
theorem slNhm (z : Nat) : aslice z .nilSlice none (some (.int .i64 0)) (some (.int .i64 0)) = ite' (!decide (z = 0)) (some .nilSlice) none := by rw [← beq_dec]; cases z <;> rfl
theorem tup_nil' : tupOf [] = .tup [] := keep rfl
theorem nc0 : ((0 : Nat) : Int) = 0 := rfl
def wk := And.intro tup_nil' (And.intro cells_nilS (And.intro cells_nilM (And.intro cells_nilP (And.intro cells_nilF (And.intro @cells_func (And.intro one_nilS (And.intro one_nilM (And.intro one_nilP (And.intro one_nilF (And.intro @one_func (And.intro slN (And.intro slN0 (And.intro slNh (And.intro slN0h (And.intro slNhm nc0)))))))))))))))
def wbit := And.intro @bin_and (And.intro @bin_or @bin_xor)
/-! ### rows of slices -/
section
variable {p : Ex} {q : Bool} {e : Env} {H : Heap}
def matC {α : Type} [Cell α] (rows : List (Option (List α))) : List (Option (List AVal)) := rows.map (Option.map rowC)
theorem matC_nil {α : Type} [Cell α] : matC ([] : List (Option (List α))) = [] := keep rfl
theorem nones_eq (n : Nat) : nonesL n = List.replicate n none := by
  induction n with
  | zero => rfl
  | succ n ih => rw [List.replicate_succ, ← ih]; rfl
theorem matC_none {α : Type} [Cell α] (n : Nat) : matC (List.replicate n (none : Option (List α))) = nonesL n := by rw [nones_eq]; simp [matC]
theorem matC_len {α : Type} [Cell α] (rows : List (Option (List α))) : (matC rows).length = rows.length := by simp [matC]
theorem matC_len' {α : Type} [Cell α] (rows : List (Option (List α))) : len (matC rows) = rows.length := by rw [len_eq, matC_len]
theorem matC_app {α : Type} [Cell α] (rows : List (Option (List α))) (r : List α) : matC (rows ++ [some r]) = matC rows ++ [some (rowC r)] := by simp [matC]
theorem hdr_none (a i : Nat) : hdr a i none = .nilSlice := keep rfl
theorem hdr_some (a i : Nat) (cs : List AVal) : hdr a i (some cs) = .slice (.v a i) 0 cs.length cs.length 1 false := by show AVal.slice _ _ (len cs) (len cs) _ _ = _; rw [len_eq]
theorem a_nilm (x : Opnd) : aoper (.nilm x) p q e H = ite' (isNilS (x.ev e)) (some (.slice (.p (len H)) 0 0 0 1 false, H ++ [.mat true []])) none := by
  show oNilm x e H = _; unfold oNilm; rw [apd_eq]
theorem a_mkmat (t : TypeId) (bt : Nat) (l c : Opnd) : aoper (.mkmat t bt l c) p q e H =
    ob (asInt (l.ev e)) fun r => ob (asInt (c.ev e)) fun s => ob (inx r.2 140737488355329) fun n =>
      ite' (keq r.1 .i64 && keq s.1 .i64 && (decide (r.2 = s.2) && decide (n * bt ≤ 140737488355328))) (some (.slice (.p (len H)) 0 n n 1 true, H ++ [.mat true (nonesL n)])) none := by
  show oMkmat t bt l c e H = _
  unfold oMkmat
  congr 1; funext r; congr 1; funext s
  show ob (inx r.2 140737488355329) _ = _
  congr 1; funext n
  rw [ieq_eq]
  simp only [andB_eq, apd_eq]
  rw [show Nat.ble (Nat.mul n bt) roomBytes = decide (n * bt ≤ 140737488355328) from ble_dec _ _]
theorem whole_eq (c l cap z : Nat) (x : Bool) (o : Nat) : wholeRow H (.slice (.p c) o l cap z x) = ob (rowOf (hget H c)) fun u => ite' (u.1 && (u.2.1 && (decide (o = 0) && (decide (z = 1) && decide (u.2.2.length = l))))) (some (c, u.2.2)) none := by
  show ob (rowOf (hget H c)) _ = _
  congr 1; funext u
  show ite' (andB u.1 (andB u.2.1 (andB (Nat.beq o 0) (andB (Nat.beq z 1) (Nat.beq (len u.2.2) l))))) _ none = _
  simp only [andB_eq, beq_dec, len_eq]
noncomputable def storeM (H : Heap) (a j : Nat) (v : AVal) (x : AObj) : Option Heap :=
  ob (matOf x) fun r => ob (nth r.2 j) fun o => ob (wholeRow H v) fun u => ite' (andB r.1 (isNone' o)) (some (upd (upd H a (.mat true (upd r.2 j (some u.2)))) u.1 .dead)) none
theorem a_storem (a v : Opnd) : aoper (.storem a v) p q e H = ob (astoreM H (a.ev e) (v.ev e)) fun H' => some (.tup [], H') := keep rfl
theorem astoreM_ptr (a j : Nat) (v : AVal) : astoreM H (.ptr (.p a) j) v = storeM H a j v (hget H a) := keep rfl
theorem storeM_mat (a j : Nat) (v : AVal) (r : Bool) (rows : List (Option (List AVal))) : storeM H a j v (.mat r rows) = ob (nth rows j) fun o => ob (wholeRow H v) fun u => ite' (andB r (isNone' o)) (some (upd (upd H a (.mat true (upd rows j (some u.2)))) u.1 .dead)) none := keep rfl
theorem isNone_none {α : Type} : isNone' (none : Option α) = true := keep rfl
theorem oneIn_eq (d o cap : Nat) (x : Bool) : oneIn H (.slice (.p d) o 1 cap 1 x) = ob (rowOf (hget H d)) fun r => nth r.2.2 o := keep rfl
noncomputable def appM (H : Heap) (a l c bt : Nat) (ex : Bool) (u : Nat × List AVal) (x : AObj) : Option (AVal × Heap) :=
  ob (matOf x) fun r => ite' (andB (andB r.1 (andB (notB ex) (andB (Nat.beq 0 0) (Nat.beq 1 1)))) (andB (andB (Nat.beq l (len r.2)) (Nat.beq c (len r.2))) (Nat.ble (Nat.mul (Nat.succ (len r.2)) bt) roomBytes)))
      (some (.slice (.p (len H)) 0 (Nat.succ (len r.2)) (Nat.succ (len r.2)) 1 false, apd (upd (upd H a .dead) u.1 .dead) [.mat true (apd r.2 [some u.2])])) none
theorem a_appm (t : TypeId) (bt : Nat) (s x : Opnd) : aoper (.appm t bt s x) p q e H = aappm H bt (s.ev e) (x.ev e) := keep rfl
theorem aappm_eq (bt a l c : Nat) (ex : Bool) (x : AVal) : aappm H bt (.slice (.p a) 0 l c 1 ex) x = ob (oneIn H x) fun v => ob (wholeRow H v) fun u => appM H a l c bt ex u (hget H a) := keep rfl
theorem appM_mat (a l c bt : Nat) (ex : Bool) (u : Nat × List AVal) (r : Bool) (rows : List (Option (List AVal))) : appM H a l c bt ex u (.mat r rows) =
    ite' (r && !ex && (decide (l = rows.length) && decide (c = rows.length) && decide ((rows.length + 1) * bt ≤ 140737488355328)))
      (some (.slice (.p (len H)) 0 (rows.length + 1) (rows.length + 1) 1 false, upd (upd H a .dead) u.1 .dead ++ [.mat true (rows ++ [some u.2])])) none := by
  show ite' (andB (andB r (andB (notB ex) true)) (andB (andB (Nat.beq l (len rows)) (Nat.beq c (len rows))) (Nat.ble (Nat.mul (Nat.succ (len rows)) bt) roomBytes))) _ none = _
  simp only [andB_eq, notB_eq, Bool.and_true, len_eq, beq_dec, apd_eq]
  rw [show Nat.ble (Nat.mul (Nat.succ rows.length) bt) roomBytes = decide ((rows.length + 1) * bt ≤ 140737488355328) from ble_dec _ _]
theorem on_mat (r : Bool) (rows : List (Option (List AVal))) : AObj.names (.mat r rows) = [] := keep rfl
theorem or_mat (m : Nat → Option Nat) (r : Bool) (rows : List (Option (List AVal))) : AObj.ren m (.mat r rows) = .mat r rows := keep rfl
theorem ro_mat (r : Bool) (rows : List (Option (List AVal))) : (AObj.mat r rows).ro = .mat false rows := keep rfl
noncomputable def rowI (i : Nat) (o : AObj) : Option (Bool × Bool × List AVal) := rowOf (inner i o)
theorem rowI_eq (i : Nat) (o : AObj) : rowOf (inner i o) = rowI i o := keep rfl
theorem rowI_mat (i : Nat) (r : Bool) (rows : List (Option (List AVal))) : rowI i (.mat r rows) = ob (nth rows i) fun x => ob x fun cs => some (r, true, cs) := by
  show rowOf (ob' (nth rows i) fun r1 => ob' r1 fun cs => .row r true cs) = _
  cases nth rows i with
  | none => rfl
  | some x => cases x <;> rfl
/-! pointers, capacities -/
noncomputable def nilckV (v : AVal) (H : Heap) : Res := ite' (isSome' (asPtr v)) (some (v, H)) (ite' (isFn v) (some (v, H)) none)
theorem a_nilck (x : Opnd) : aoper (.nilck x) p q e H = nilckV (x.ev e) H := keep rfl
theorem nilck_ptr (a : Nm) (o : Nat) : nilckV (.ptr a o) H = some (.ptr a o, H) := keep rfl
theorem nilck_func (f : Nat) (a c : List AVal) : nilckV (.func f a c) H = some (.func f a c, H) := keep rfl
noncomputable def capV (v : AVal) (H : Heap) : Res := ite' (isNilS v) (some (.int .i64 0, H)) (ob (asSl v) fun s => ite' s.ex (some (.int .i64 (Int.ofNat s.cap), H)) none)
theorem a_cap (x : Opnd) : aoper (.cap x) p q e H = capV (x.ev e) H := keep rfl
theorem cap_nil : capV .nilSlice H = some (.int .i64 0, H) := keep rfl
theorem cap_slice (a : Nm) (o l c z : Nat) : capV (.slice a o l c z true) H = some (.int .i64 (c : Int), H) := keep rfl
end
def wv := And.intro @loadO_row (And.intro @loadO_mat (And.intro @aload_ptrV (And.intro @loadV_mat (And.intro @astore_ptrV (And.intro @storeV_mat (And.intro @src_sliceV (And.intro @rowI_eq (And.intro @rowI_mat (And.intro @nm_ptrV (And.intro @nm_sliceV (And.intro @rn_ptrV (And.intro @rn_sliceV (And.intro @putRow_p (And.intro @appIn_f (And.intro @appIn_t (And.intro @appMain_t (And.intro @appMain_f (And.intro @nm_of_ptrV (And.intro @on_mat (And.intro @or_mat @ro_mat))))))))))))))))))))
def wmat := And.intro @matC_none (And.intro @matC_len (And.intro @matC_len' (And.intro @matC_app (And.intro @hdr_none (And.intro @hdr_some (And.intro @a_nilm (And.intro @a_mkmat (And.intro @whole_eq (And.intro @a_storem (And.intro @astoreM_ptr (And.intro @storeM_mat (And.intro @isNone_none (And.intro @oneIn_eq (And.intro @a_appm (And.intro @aappm_eq (And.intro @appM_mat (And.intro @a_nilck (And.intro @nilck_ptr (And.intro @nilck_func (And.intro @a_cap (And.intro @cap_nil (And.intro @cap_slice @matC_nil))))))))))))))))))))))
def W := And.intro wv (And.intro wmat (And.intro wbit (And.intro w0 (And.intro w1 (And.intro w2 (And.intro w3 (And.intro w4 (And.intro w5 (And.intro w6 (And.intro w7 (And.intro wc (And.intro wy (And.intro wk wm)))))))))))))
def wn := And.intro wc (And.intro wy nc0)
end Go.AI
