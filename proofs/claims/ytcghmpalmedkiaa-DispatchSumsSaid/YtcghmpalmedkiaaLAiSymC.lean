/-
  THE INTERPRETER's EQUATIONS (third part): the heap, a loop's head, rows of structs.
-/
import Derived.Test.YtcghmpalmedkiaaLAiSymB
set_option linter.unusedVariables false
set_option linter.unusedSimpArgs false
namespace Go.AI
section
variable {p : Ex} {b : Nat} {e : Env} {H : Heap} {q : Bool}
@[simp] theorem hget_cons_zero (o : AObj) : hget (o :: H) 0 = o := keep rfl
@[simp] theorem hget_cons_succ (o : AObj) (n : Nat) : hget (o :: H) (n + 1) = hget H n := keep rfl
@[simp] theorem hget_one (o o1 : AObj) : hget (o :: o1 :: H) 1 = o1 := keep rfl
@[simp] theorem hget_two (o o1 o2 : AObj) : hget (o :: o1 :: o2 :: H) 2 = o2 := keep rfl
@[simp] theorem hget_three (o o1 o2 o3 : AObj) : hget (o :: o1 :: o2 :: o3 :: H) 3 = o3 := keep rfl
@[simp] theorem hget_four (o o1 o2 o3 o4 : AObj) : hget (o :: o1 :: o2 :: o3 :: o4 :: H) 4 = o4 := keep rfl
@[simp] theorem hget_five (o o1 o2 o3 o4 o5 : AObj) : hget (o :: o1 :: o2 :: o3 :: o4 :: o5 :: H) 5 = o5 := keep rfl
@[simp] theorem hget_six (o o1 o2 o3 o4 o5 o6 : AObj) : hget (o :: o1 :: o2 :: o3 :: o4 :: o5 :: o6 :: H) 6 = o6 := keep rfl
@[simp] theorem hget_seven (o o1 o2 o3 o4 o5 o6 o7 : AObj) : hget (o :: o1 :: o2 :: o3 :: o4 :: o5 :: o6 :: o7 :: H) 7 = o7 := keep rfl
@[simp] theorem row_row (r f : Bool) (cs : List AVal) : rowOf (.row r f cs) = some (r, f, cs) := keep rfl
@[simp] theorem map_map' (r : Bool) (es : List (AVal × AVal)) : mapOf (.map r es) = some (r, es) := keep rfl
@[simp] theorem newRow_eq (cs : List AVal) : newRow H cs = H ++ [.row true (AVal.flatL cs) cs] := apd_eq _ _
noncomputable def loadO (o : AObj) (s : Nat) (g : Bool) (a off : Nat) : Option AVal :=
  Option.rec (motive := fun _ => Option AVal) (ite' (andB (notB g) (Nat.beq s 1)) (ob (matOf o) fun r => ob (nth r.2 off) fun x => some (hdr a off x)) none) (fun r => readCells g s r.2.2 off) (rowOf o)
@[simp] theorem aload_ptr (s : Nat) (g : Bool) (a o : Nat) : aload H s g (.ptr (.p a) o) = loadO (hget H a) s g a o := keep rfl
@[simp] theorem loadO_row (r f : Bool) (cs : List AVal) (s : Nat) (g : Bool) (a o : Nat) : loadO (.row r f cs) s g a o = readCells g s cs o := keep rfl
theorem loadO_mat (r : Bool) (rows : List (Option (List AVal))) (s : Nat) (g : Bool) (a o : Nat) : loadO (.mat r rows) s g a o = ite' (andB (notB g) (Nat.beq s 1)) (ob (nth rows o) fun x => some (hdr a o x)) none := keep rfl
noncomputable def loadV (o : AObj) (i s : Nat) (g : Bool) (off : Nat) : Option AVal := ob (rowOf (inner i o)) fun r => readCells g s r.2.2 off
theorem aload_ptrV (s : Nat) (g : Bool) (a i o : Nat) : aload H s g (.ptr (.v a i) o) = loadV (hget H a) i s g o := by
  show Option.rec (motive := fun _ => Option AVal) (aloadM H s g (.v a i, o)) (fun r => readCells g s r.2.2 o) (rowOf (inner i (hget H a))) = _
  have : aloadM H s g (.v a i, o) = none := by unfold aloadM; cases andB (notB g) (Nat.beq s 1) <;> rfl
  rw [this]
  unfold loadV
  cases rowOf (inner i (hget H a)) <;> rfl
theorem loadV_mat (r : Bool) (rows : List (Option (List AVal))) (i s : Nat) (g : Bool) (o : Nat) : loadV (.mat r rows) i s g o = ob (nth rows i) fun x => ob x fun cs => readCells g s cs o := by
  unfold loadV
  show ob (rowOf (ob' (nth rows i) fun r1 => ob' r1 fun cs => .row r true cs)) _ = _
  cases nth rows i with
  | none => rfl
  | some x => cases x <;> rfl
@[simp] theorem astore_ptr (s : Nat) (a o : Nat) (v : AVal) : astore H s (.ptr (.p a) o) v = ob (rowOf (hget H a)) fun r =>
    ite' (andB r.1 (andB (Nat.beq (len v.cells) s) (andB (notB (Nat.beq s 0)) (andB (oneL v.cells) true)))) (ob (writeAt v.cells r.2.2 o) fun cs => some (upd H a (.row true (andB r.2.1 (AVal.flatL v.cells)) cs))) none := keep rfl
noncomputable def storeV (H : Heap) (a i s o : Nat) (v : AVal) (x : AObj) : Option Heap :=
  ob (rowOf (inner i x)) fun r => ite' (andB r.1 (andB (Nat.beq (len v.cells) s) (andB (notB (Nat.beq s 0)) (andB (oneL v.cells) (AVal.flatL v.cells))))) (ob (writeAt v.cells r.2.2 o) fun cs => some (upd H a (setIn i cs x))) none
theorem astore_ptrV (s : Nat) (a i o : Nat) (v : AVal) : astore H s (.ptr (.v a i) o) v = storeV H a i s o v (hget H a) := keep rfl
theorem storeV_mat (a i s o : Nat) (v : AVal) (r : Bool) (rows : List (Option (List AVal))) : storeV H a i s o v (.mat r rows) =
    ob (nth rows i) fun x => ob x fun us => ite' (andB r (andB (Nat.beq (len v.cells) s) (andB (notB (Nat.beq s 0)) (andB (oneL v.cells) (AVal.flatL v.cells))))) (ob (writeAt v.cells us o) fun cs => some (upd H a (.mat r (upd rows i (some cs))))) none := by
  unfold storeV
  show ob (rowOf (ob' (nth rows i) fun r1 => ob' r1 fun cs => .row r true cs)) _ = _
  cases nth rows i with
  | none => rfl
  | some x => cases x <;> rfl
@[simp] theorem rc_one (cs : List AVal) (o : Nat) : readCells false 1 cs o = cs[o]? := nth_eq _ _
@[simp] theorem rc_ag (s : Nat) (cs : List AVal) (o : Nat) : readCells true s cs o = ob (readAt s cs o) fun vs => some (.agg vs) := keep rfl
@[simp] theorem cells_agg (l : List AVal) : AVal.cells (.agg l) = l := keep rfl
@[simp] theorem cells_int (k : IntKind) (n : Int) : AVal.cells (.int k n) = [.int k n] := keep rfl
@[simp] theorem cells_bool (c : Bool) : AVal.cells (.bool c) = [.bool c] := keep rfl
@[simp] theorem cells_str (s : ByteArray) : AVal.cells (.str s) = [.str s] := keep rfl
@[simp] theorem cells_slice (a : Nm) (o l c z : Nat) (x : Bool) : AVal.cells (.slice a o l c z x) = [.slice a o l c z x] := keep rfl
@[simp] theorem cells_map (a : Nat) : AVal.cells (.map a) = [.map a] := keep rfl
@[simp] theorem cells_ptr (a : Nm) (o : Nat) : AVal.cells (.ptr a o) = [.ptr a o] := keep rfl
@[simp] theorem oneL_nil : oneL [] = true := keep rfl
@[simp] theorem oneL_cons (v : AVal) (l : List AVal) : oneL (v :: l) = (v.one && oneL l) := andB_eq _ _
@[simp] theorem one_int (k : IntKind) (n : Int) : AVal.one (.int k n) = true := keep rfl
@[simp] theorem one_bool (c : Bool) : AVal.one (.bool c) = true := keep rfl
@[simp] theorem one_str (s : ByteArray) : AVal.one (.str s) = true := keep rfl
@[simp] theorem one_slice (a : Nm) (o l c z : Nat) (x : Bool) : AVal.one (.slice a o l c z x) = true := keep rfl
@[simp] theorem one_map (a : Nat) : AVal.one (.map a) = true := keep rfl
@[simp] theorem one_ptr (a : Nm) (o : Nat) : AVal.one (.ptr a o) = true := keep rfl
@[simp] theorem lenOf_slice (a : Nm) (o l c z : Nat) (x : Bool) : lenOf false (.slice a o l c z x) = some l := keep rfl
@[simp] theorem lenOf_str (s : ByteArray) : lenOf true (.str s) = some s.size := keep rfl
@[simp] theorem lenOf_nil : lenOf false .nilSlice = some 0 := keep rfl
/-! names that are reached -/
@[simp] theorem on_row_true (r : Bool) (cs : List AVal) : AObj.names (.row r true cs) = [] := keep rfl
@[simp] theorem on_row_false (r : Bool) (cs : List AVal) : AObj.names (.row r false cs) = AVal.namesL cs := keep rfl
@[simp] theorem on_map (r : Bool) (es : List (AVal × AVal)) : AObj.names (.map r es) = [] := keep rfl
@[simp] theorem on_dead : AObj.names .dead = [] := keep rfl
@[simp] theorem or_row_true (m : Nat → Option Nat) (r : Bool) (cs : List AVal) : AObj.ren m (.row r true cs) = .row r true cs := keep rfl
@[simp] theorem or_row_false (m : Nat → Option Nat) (r : Bool) (cs : List AVal) : AObj.ren m (.row r false cs) = .row r false (AVal.renL m cs) := keep rfl
@[simp] theorem or_map (m : Nat → Option Nat) (r : Bool) (es : List (AVal × AVal)) : AObj.ren m (.map r es) = .map r es := keep rfl
@[simp] theorem or_dead (m : Nat → Option Nat) : AObj.ren m .dead = .dead := keep rfl
@[simp] theorem has_nil (a : Nat) : has a [] = false := keep rfl
@[simp] theorem has_cons (a c : Nat) (l : List Nat) : has a (c :: l) = (decide (a = c) || has a l) := by
  cases h : has a (c :: l) with
  | true => have := (has_iff _ _).1 h; simp at this; rcases this with h | h; simp [h]; simp [(has_iff _ _).2 h]
  | false =>
    have h1 : ¬ a ∈ c :: l := fun h' => by rw [(has_iff _ _).2 h'] at h; cases h
    simp at h1
    have h2 : has a l = false := by cases hb : has a l with
      | false => rfl
      | true => exact absurd ((has_iff _ _).1 hb) h1.2
    simp [h1.1, h2]
@[simp] theorem idx_nil (a i : Nat) : idx a [] i = none := keep rfl
@[simp] theorem idx_cons (a c : Nat) (l : List Nat) (i : Nat) : idx a (c :: l) i = if a = c then some i else idx a l (i + 1) := by
  show ite' (Nat.beq a c) _ _ = _
  by_cases h : a = c
  · subst h; simp
  · rw [if_neg h]
    have : Nat.beq a c = false := by
      cases hb : Nat.beq a c with
      | false => rfl
      | true => exact absurd (Nat.eq_of_beq_eq_true hb) h
    rw [this]; rfl
@[simp] theorem mapIn_eq (k : List Nat) (a : Nat) : mapIn k a = idx a k 0 := keep rfl
attribute [simp] reach_nil
theorem reach_cons {n : Nat} (hn : 0 < n) (a : Nat) (todo acc : List Nat) : reach H n (a :: todo) acc = ite' (has a acc) (reach H (n - 1) todo acc) (reach H (n - 1) ((hget H a).names ++ todo) (acc ++ [a])) := by
  obtain ⟨n, rfl⟩ := Nat.exists_eq_add_of_le' hn
  show ite' (has a acc) (reach H n todo acc) (reach H n (apd (hget H a).names todo) (apd acc [a])) = _
  rw [apd_eq, apd_eq]; rfl
@[simp] theorem fuel_eq : reachFuel = 4096 := keep rfl
@[simp] theorem upto_0 (i : Nat) : upto 0 i = [] := keep rfl
@[simp] theorem upto_1 (i : Nat) : upto 1 i = [i] := keep rfl
@[simp] theorem upto_2 (i : Nat) : upto 2 i = [i, i + 1] := keep rfl
@[simp] theorem upto_3 (i : Nat) : upto 3 i = [i, i + 1, i + 1 + 1] := keep rfl
@[simp] theorem upto_4 (i : Nat) : upto 4 i = [i, i + 1, i + 1 + 1, i + 1 + 1 + 1] := keep rfl
@[simp] theorem from_nil (n : Nat) : fromOn n [] = [] := keep rfl
@[simp] theorem from_cons (n a : Nat) (l : List Nat) : fromOn n (a :: l) = if n ≤ a then a :: fromOn n l else fromOn n l := by
  rw [fromOn_cons]
  by_cases h : n ≤ a
  · rw [if_pos h, Nat.ble_eq_true_of_le h]; rfl
  · rw [if_neg h]
    have : Nat.ble n a = false := by
      cases hb : Nat.ble n a with
      | false => rfl
      | true => exact absurd (Nat.le_of_ble_eq_true hb) h
    rw [this]; rfl
@[simp] theorem below_nil (n : Nat) : belowN n [] = [] := keep rfl
@[simp] theorem below_cons (n a : Nat) (l : List Nat) : belowN n (a :: l) = if a < n then a :: belowN n l else belowN n l := by
  rw [belowN_cons]
  by_cases h : a < n
  · rw [if_pos h]
    have : Nat.blt a n = true := by simpa [Nat.blt_eq] using h
    rw [this]; rfl
  · rw [if_neg h]
    have : Nat.blt a n = false := by
      cases hb : Nat.blt a n with
      | false => rfl
      | true => exact absurd (by simpa [Nat.blt_eq] using hb) h
    rw [this]; rfl
@[simp] theorem pick_nil (m : Nat → Option Nat) : pick H m [] = [] := keep rfl
@[simp] theorem pick_cons (m : Nat → Option Nat) (a : Nat) (l : List Nat) : pick H m (a :: l) = (hget H a).ren m :: pick H m l := keep rfl
@[simp] theorem restr_nil : restr e [] = [] := keep rfl
@[simp] theorem restr_cons (t : Nat) (l : List Nat) : restr e (t :: l) = (t, eget e t) :: restr e l := keep rfl
@[simp] theorem namesE_nil : namesE [] = [] := keep rfl
@[simp] theorem namesE_cons (t : Nat) (v : AVal) (l : Env) : namesE ((t, v) :: l) = v.names ++ namesE l := apd_eq _ _
@[simp] theorem renE_nil (m : Nat → Option Nat) : renE m [] = [] := keep rfl
@[simp] theorem renE_cons (m : Nat → Option Nat) (t : Nat) (v : AVal) (l : Env) : renE m ((t, v) :: l) = (t, v.ren m) :: renE m l := keep rfl
@[simp] theorem objNames_nil : objNames [] = [] := keep rfl
@[simp] theorem objNames_cons (o : AObj) (l : List AObj) : objNames (o :: l) = o.names ++ objNames l := apd_eq _ _
theorem ex_exec (tab : Nat → Option AFunc) (n : Nat) (c : ACode) : (ex tab (n + 1)).exec b c e H = exec1 c (ex tab n) b e H := keep rfl
theorem inx_nat {i l : Nat} (h : i < l) : inx (i : Int) l = some i := by rw [inx_eq, if_pos ⟨by omega, by omega⟩]; simp
theorem flatMap_get {α : Type} {f : α → List AVal} {k : Nat} (hf : ∀ x, (f x).length = k) : ∀ (xs : List α) (i j : Nat), j < k → (xs.flatMap f)[i * k + j]? = (xs[i]?).bind fun x => (f x)[j]? := by
  intro xs
  induction xs with
  | nil => intro i j _; simp
  | cons x xs ih =>
    intro i j hj
    cases i with
    | zero => simp only [List.flatMap_cons, Nat.zero_mul, Nat.zero_add, List.getElem?_cons_zero, Option.bind_some]; rw [List.getElem?_append_left (by rw [hf]; exact hj)]
    | succ i =>
      rw [List.flatMap_cons, List.getElem?_append_right (by rw [hf, Nat.add_mul]; omega), hf, List.getElem?_cons_succ, ← ih i j hj]
      congr 1; rw [Nat.add_mul]; omega
@[simp] theorem a_bytes (t : TypeId) (x : Opnd) : aoper (.bytes t x) p q e H = ob (asStr (x.ev e)) fun s => ite' (Nat.blt s.size 1000000000000) (some (.slice (.p (len H)) 0 s.size s.size 1 false, apd H [.row false true (byteCells s.data.toList)])) none := keep rfl
@[simp] theorem a_mkmap : aoper .mkmap p q e H = some (.map (len H), apd H [.map true []]) := keep rfl
@[simp] theorem a_sindex (x i : Opnd) : aoper (.sindex x i) p q e H = ob (ob (asStr (x.ev e)) fun s => ob (asInt (i.ev e)) fun r => ob (inx r.2 s.size) fun j => ob (nth s.data.toList j) fun c => some (.int .u8 (c.toNat : Int))) fun v => some (v, H) := keep rfl
@[simp] theorem a_bslice (t : TypeId) (sz l : Nat) (z : List AVal) (ps : List (Nat × Opnd)) : aoper (.bslice t sz l z ps) p q e H = ob (fillAt (parts2 e sz ps) (repeatL z l)) fun cs => ite' (oneL cs) (some (.slice (.p (len H)) 0 l l sz true, newRow H cs)) none := keep rfl
@[simp] theorem a_app (t : TypeId) (sz bt : Nat) (z : List AVal) (s x : Opnd) : aoper (.app t sz bt z s x) p q e H = aappend H sz bt (s.ev e) (x.ev e) := keep rfl
@[simp] theorem a_mkf (f : Nat) (x y : List Opnd) : aoper (.mkf f x y) p q e H = some (.func f (evL e x) (evL e y), H) := keep rfl
@[simp] theorem a_look (s : Bool) (z : AVal) (m k : Opnd) (ok : Bool) : aoper (.look s z m k ok) p q e H = ob (ob (asMap (m.ev e)) fun a => ob (mapOf (hget H a)) fun r => ite' (isKey s (k.ev e))
    (ob (findKey s (k.ev e) r.2) fun f => some (Option.rec (motive := fun _ => AVal) (ite' ok (.tup [z, .bool false]) z) (fun v => ite' ok (.tup [v, .bool true]) v) f)) none) fun v => some (v, H) := keep rfl
@[simp] theorem a_mupd (s : Bool) (m k v : Opnd) : aoper (.mupd s m k v) p q e H = ob (asMap (m.ev e)) fun a => ob (mapOf (hget H a)) fun r => ite' (andB r.1 (andB (isKey s (k.ev e)) (andB (v.ev e).flat (v.ev e).one)))
    (ob (putKey s (k.ev e) (v.ev e) r.2) fun es => some (.tup [], upd H a (.map true es))) none := keep rfl
@[simp] theorem a_callv (g : Opnd) (xs : List Opnd) : aoper (.callv g xs) p q e H = callVal p q (evL e xs) H (g.ev e) := keep rfl
@[simp] theorem cv_func (f : Nat) (x y l : List AVal) : callVal p q l H (.func f x y) = callOn (p.call f) q (x ++ (l ++ y)) H := by
  show callOn (p.call f) q (apd x (apd l y)) H = _
  rw [apd_eq, apd_eq]
@[simp] theorem str_str (s : ByteArray) : asStr (.str s) = some s := keep rfl
@[simp] theorem map_map (a : Nat) : asMap (.map a) = some a := keep rfl
@[simp] theorem key_str (s : ByteArray) : isKey true (.str s) = true := keep rfl
@[simp] theorem key_int (k : IntKind) (n : Int) : isKey false (.int k n) = true := keep rfl
theorem blt_lt {a c : Nat} (h : a < c) : Nat.blt a c = true := by simpa [Nat.blt_eq] using h
end
end Go.AI
