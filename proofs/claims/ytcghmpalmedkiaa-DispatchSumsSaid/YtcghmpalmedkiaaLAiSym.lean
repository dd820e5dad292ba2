/-
  THE INTERPRETER's EQUATIONS, for reckoning with values that are not known.
-/
import Derived.Test.YtcghmpalmedkiaaLAiMono
set_option linter.unusedVariables false
set_option linter.unusedSimpArgs false
namespace Go.AI
theorem keep {α : Type} {a b : α} (h : a = b) : a = b := h
/-! what stands behind an open question is not looked at before it is answered: it bears a name -/
noncomputable def nextO (p : Ex) (l : List AOper) (e : Env) (d : Option Nat) (r : AVal × Heap) : Ops := aops p l (put e d r.1) r.2
noncomputable def guardO (p : Ex) (op : AOp) (l : List AOper) (e : Env) (H : Heap) (d : Option Nat) (g : Bool) : Ops := ite' g (ob (aoper op p false e H) (nextO p l e d)) (aops p l (put e d (.tup [])) H)
noncomputable def condO (x y : ACode) (p : Ex) (b : Nat) (e : Env) (H : Heap) (t : Bool) : CRes := ite' t (exec1 x p b e H) (exec1 y p b e H)
noncomputable def thenK (k1 k2 : Env → Heap → CRes) (e : Env) (H : Heap) : CRes := thenN (k1 e H) k2
@[simp] theorem nextO_eq (p : Ex) (l : List AOper) (e : Env) (d : Option Nat) (v : AVal) (H : Heap) : nextO p l e d (v, H) = aops p l (put e d v) H := keep rfl
@[simp] theorem guardO_true (p : Ex) (op : AOp) (l : List AOper) (e : Env) (H : Heap) (d : Option Nat) : guardO p op l e H d true = ob (aoper op p false e H) (nextO p l e d) := keep rfl
@[simp] theorem guardO_false (p : Ex) (op : AOp) (l : List AOper) (e : Env) (H : Heap) (d : Option Nat) : guardO p op l e H d false = aops p l (put e d (.tup [])) H := keep rfl
@[simp] theorem condO_true (x y : ACode) (p : Ex) (b : Nat) (e : Env) (H : Heap) : condO x y p b e H true = exec1 x p b e H := keep rfl
@[simp] theorem condO_false (x y : ACode) (p : Ex) (b : Nat) (e : Env) (H : Heap) : condO x y p b e H false = exec1 y p b e H := keep rfl
@[simp] theorem thenK_eq (k1 k2 : Env → Heap → CRes) (e : Env) (H : Heap) : thenK k1 k2 e H = thenN (k1 e H) k2 := keep rfl
section
variable {p : Ex} {b : Nat} {e : Env} {H : Heap} {q : Bool}
/-! code -/
@[simp] theorem x_skip : exec1 .skip p b e H = some (.normal, e, H) := keep rfl
@[simp] theorem x_region (l : List AOper) : exec1 (.region false l) p b e H = normalN (aops p l e H) := keep rfl
@[simp] theorem x_regionD (l : List AOper) : exec1 (.region true l) p b e H = normalN (aopsD p l [] e H) := keep rfl
@[simp] theorem x_seq (x y : ACode) : exec1 (.seq x y) p b e H = thenN (exec1 x p b e H) (exec1 y p b) := keep rfl
@[simp] theorem x_cond (c : Opnd) (x y : ACode) : exec1 (.cond c x y) p b e H = ob (asBool (c.ev e)) (condO x y p b e H) := keep rfl
@[simp] theorem x_block (id : Nat) (x : ACode) : exec1 (.block id x) p b e H = blockN id (exec1 x p b e H) := keep rfl
@[simp] theorem x_exit (id : Nat) : exec1 (.exit id) p b e H = some (.exit id, e, H) := keep rfl
@[simp] theorem x_ret : exec1 .ret p b e H = some (.ret, e, H) := keep rfl
@[simp] theorem n_some (r : Env × Heap) : normalN (some r) = some (.normal, r.1, r.2) := keep rfl
@[simp] theorem t_normal (k : Env → Heap → CRes) : thenN (some (.normal, e, H)) k = k e H := keep rfl
@[simp] theorem t_ret (k : Env → Heap → CRes) : thenN (some (.ret, e, H)) k = some (.ret, e, H) := keep rfl
@[simp] theorem t_exit (i : Nat) (k : Env → Heap → CRes) : thenN (some (.exit i, e, H)) k = some (.exit i, e, H) := keep rfl
@[simp] theorem b_normal (id : Nat) : blockN id (some (.normal, e, H)) = some (.normal, e, H) := keep rfl
@[simp] theorem b_ret (id : Nat) : blockN id (some (.ret, e, H)) = some (.ret, e, H) := keep rfl
@[simp] theorem b_exit (id i : Nat) : blockN id (some (.exit i, e, H)) = if i = id then some (.normal, e, H) else some (.exit i, e, H) := by
  show ite' (Nat.beq i id) _ _ = _
  by_cases h : i = id
  · subst h; simp
  · rw [if_neg h]
    have : Nat.beq i id = false := by
      cases hb : Nat.beq i id with
      | false => rfl
      | true => exact absurd (Nat.eq_of_beq_eq_true hb) h
    rw [this]; rfl
theorem ite_eq {α : Type} (c : Bool) (x y : α) : ite' c x y = if c = true then x else y := by cases c <;> rfl
/-! regions -/
@[simp] theorem o_nil : aops p [] e H = some (e, H) := keep rfl
@[simp] theorem o_plain (d : Option Nat) (op : AOp) (l : List AOper) : aops p (⟨d, op, none, false, []⟩ :: l) e H = ob (aoper op p false e H) (nextO p l e d) := keep rfl
noncomputable def guardV (v : AVal) (w : Bool) : Option Bool := Option.rec (motive := fun _ => Option Bool) (isEmptyT v) (fun b => some (beqB b w)) (asBool v)
@[simp] theorem g_bool (c w : Bool) : guardV (.bool c) w = some (c == w) := by
  show some (beqB c w) = _
  rw [beqB_eq]
@[simp] theorem g_none (w : Bool) : guardV (.tup []) w = some false := keep rfl
@[simp] theorem o_guard (d : Option Nat) (op : AOp) (t : Nat) (w : Bool) (l : List AOper) : aops p (⟨d, op, some (t, w), false, []⟩ :: l) e H = ob (guardV (eget e t) w) (guardO p op l e H d) := keep rfl
/-! temporaries -/
@[simp] theorem put_some (d : Nat) (v : AVal) : put e (some d) v = (d, v) :: e := keep rfl
@[simp] theorem put_none' (v : AVal) : put e none v = e := keep rfl
@[simp] theorem ev_t (n : Nat) : (Opnd.t n).ev e = eget e n := keep rfl
@[simp] theorem ev_c (v : AVal) : (Opnd.c v).ev e = v := keep rfl
@[simp] theorem argEnv_nil (i : Nat) : argEnv [] i = [] := keep rfl
@[simp] theorem argEnv_cons (v : AVal) (l : List AVal) (i : Nat) : argEnv (v :: l) i = (i, v) :: argEnv l (i + 1) := keep rfl
/-! operations -/
@[simp] theorem a_mv (x : Opnd) : aoper (.mv x) p q e H = some (x.ev e, H) := keep rfl
@[simp] theorem a_pick (c x y : Opnd) : aoper (.pick c x y) p q e H = ob (asBool (c.ev e)) fun t => some (ite' t (x.ev e) (y.ev e), H) := keep rfl
@[simp] theorem a_alloc (t : TypeId) (z : List AVal) : aoper (.alloc t z) p q e H = some (.ptr (.p (len H)) 0, newRow H z) := keep rfl
@[simp] theorem a_box (t : TypeId) (x : Opnd) : aoper (.box t x) p q e H = ite' (oneL (x.ev e).cells) (some (.ptr (.p (len H)) 0, newRow H (x.ev e).cells)) none := keep rfl
@[simp] theorem a_build (z : List AVal) (ps : List (Nat × Nat × Opnd)) : aoper (.build z ps) p q e H = ob (fillAt (parts3 e ps) z) fun cs => some (.agg cs, H) := keep rfl
@[simp] theorem a_load (s : Nat) (g : Bool) (x : Opnd) : aoper (.load s g x) p q e H = ob (aload H s g (x.ev e)) fun v => some (v, H) := keep rfl
@[simp] theorem a_store (s : Nat) (a v : Opnd) : aoper (.store s a v) p q e H = ob (astore H s (a.ev e) (v.ev e)) fun H' => some (.tup [], H') := keep rfl
@[simp] theorem a_bin (op : BinOp) (x y : Opnd) : aoper (.bin op x y) p q e H = ob (abin op (x.ev e) (y.ev e)) fun v => some (v, H) := keep rfl
@[simp] theorem a_eq (ne : Bool) (kd : List Nat) (x y : Opnd) : aoper (.eq ne kd x y) p q e H = ob (eqv kd (x.ev e) (y.ev e)) fun c => some (.bool (ite' ne (notB c) c), H) := keep rfl
@[simp] theorem a_un (op : UnOp) (x : Opnd) : aoper (.un op x) p q e H = ob (aun op (x.ev e)) fun v => some (v, H) := keep rfl
@[simp] theorem a_conv (k : IntKind) (x : Opnd) : aoper (.conv k x) p q e H = ob (asInt (x.ev e)) fun r => some (.int k (aw k r.2), H) := keep rfl
@[simp] theorem a_faddr (o : Nat) (x : Opnd) : aoper (.faddr o x) p q e H = ob (asPtr (x.ev e)) fun r => some (.ptr r.1 (r.2 + o), H) := keep rfl
@[simp] theorem a_field (o s : Nat) (g : Bool) (x : Opnd) : aoper (.field o s g x) p q e H = ob (ob (asAgg (x.ev e)) fun cs => readCells g s cs o) fun v => some (v, H) := keep rfl
@[simp] theorem a_iaddr (s : Nat) (x i : Opnd) : aoper (.iaddr s x i) p q e H = ob (asSl (x.ev e)) fun r => ob (asInt (i.ev e)) fun k => ob (inx k.2 r.len) fun j => some (.ptr r.a (r.off + j * s), H) := keep rfl
@[simp] theorem a_ext (x : Opnd) (i : Nat) : aoper (.ext x i) p q e H = ob (ob (asTup (x.ev e)) fun vs => nth vs i) fun v => some (v, H) := keep rfl
@[simp] theorem a_len (s : Bool) (x : Opnd) : aoper (.len s x) p q e H = ob (lenOf s (x.ev e)) fun n => some (.int .i64 n, H) := keep rfl
@[simp] theorem a_minmax (m : Bool) (x : Opnd) (xs : List Opnd) : aoper (.minmax m x xs) p q e H = ob (minmaxL m (evL e xs) (x.ev e)) fun v => some (v, H) := keep rfl
@[simp] theorem a_call (f : Nat) (xs : List Opnd) : aoper (.call f xs) p q e H = callOn (p.call f) q (evL e xs) H := keep rfl
/-! values -/
@[simp] theorem bool_bool (c : Bool) : asBool (.bool c) = some c := keep rfl
@[simp] theorem int_int (k : IntKind) (n : Int) : asInt (.int k n) = some (k, n) := keep rfl
@[simp] theorem ptr_ptr (a : Nm) (o : Nat) : asPtr (.ptr a o) = some (a, o) := keep rfl
@[simp] theorem agg_agg (l : List AVal) : asAgg (.agg l) = some l := keep rfl
@[simp] theorem tup_tup (l : List AVal) : asTup (.tup l) = some l := keep rfl
@[simp] theorem sl_sl (a : Nm) (o l c z : Nat) (x : Bool) : asSl (.slice a o l c z x) = some ⟨a, o, l, c, z, x⟩ := keep rfl
@[simp] theorem bin_leq (k : IntKind) (x y : Int) : abin .leq (.int k x) (.int k y) = some (.bool (ile x y)) := by cases k <;> rfl
@[simp] theorem bin_lss (k : IntKind) (x y : Int) : abin .lss (.int k x) (.int k y) = some (.bool (notB (ile y x))) := by cases k <;> rfl
@[simp] theorem bin_gtr (k : IntKind) (x y : Int) : abin .gtr (.int k x) (.int k y) = some (.bool (notB (ile x y))) := by cases k <;> rfl
@[simp] theorem bin_geq (k : IntKind) (x y : Int) : abin .geq (.int k x) (.int k y) = some (.bool (ile y x)) := by cases k <;> rfl
@[simp] theorem bin_eql (k : IntKind) (x y : Int) : abin .eql (.int k x) (.int k y) = some (.bool (ieq x y)) := by cases k <;> rfl
@[simp] theorem bin_neq (k : IntKind) (x y : Int) : abin .neq (.int k x) (.int k y) = some (.bool (notB (ieq x y))) := by cases k <;> rfl
@[simp] theorem bin_add (k : IntKind) (x y : Int) : abin .add (.int k x) (.int k y) = some (.int k (aw k (x + y))) := by cases k <;> rfl
@[simp] theorem bin_sub (k : IntKind) (x y : Int) : abin .sub (.int k x) (.int k y) = some (.int k (aw k (x - y))) := by cases k <;> rfl
@[simp] theorem bin_mul (k : IntKind) (x y : Int) : abin .mul (.int k x) (.int k y) = some (.int k (aw k (x * y))) := by cases k <;> rfl
@[simp] theorem bin_quo (k : IntKind) (x y : Int) (h : y ≠ 0) : abin .quo (.int k x) (.int k y) = some (.int k (aw k (Int.tdiv x y))) := by
  have h0 : ieq y 0 = false := by rw [ieq_eq]; simpa using h
  have : abin .quo (.int k x) (.int k y) = ite' (ieq y 0) none (some (.int k (aw k (Int.tdiv x y)))) := by cases k <;> rfl
  rw [this, h0]; rfl
@[simp] theorem bin_rem (k : IntKind) (x y : Int) (h : y ≠ 0) : abin .rem (.int k x) (.int k y) = some (.int k (Int.tmod x y)) := by
  have h0 : ieq y 0 = false := by rw [ieq_eq]; simpa using h
  have : abin .rem (.int k x) (.int k y) = ite' (ieq y 0) none (some (.int k (Int.tmod x y))) := by cases k <;> rfl
  rw [this, h0]; rfl
theorem bin_and (k : IntKind) (x y : Int) : abin .and (.int k x) (.int k y) = some (.int k (iand k x y)) := by cases k <;> rfl
theorem bin_or (k : IntKind) (x y : Int) : abin .or (.int k x) (.int k y) = some (.int k (ior k x y)) := by cases k <;> rfl
theorem bin_xor (k : IntKind) (x y : Int) : abin .xor (.int k x) (.int k y) = some (.int k (ixor k x y)) := by cases k <;> rfl
@[simp] theorem bin_seql (x y : ByteArray) : abin .eql (.str x) (.str y) = some (.bool (strEq x y)) := keep rfl
@[simp] theorem bin_sneq (x y : ByteArray) : abin .neq (.str x) (.str y) = some (.bool (notB (strEq x y))) := keep rfl
@[simp] theorem un_not (c : Bool) : aun .not (.bool c) = some (.bool (notB c)) := keep rfl
@[simp] theorem un_neg (k : IntKind) (x : Int) : aun .neg (.int k x) = some (.int k (aw k (0 - x))) := keep rfl
@[simp] theorem mm_max (k : IntKind) (x y : Int) : minmaxL true [.int k y] (.int k x) = some (.int k (max x y)) := by
  have : minmaxL true [.int k y] (.int k x) = some (.int k (ite' (ile y x) x y)) := by cases k <;> rfl
  rw [this, ile_eq, ite_eq]
  congr 2
  by_cases h : y ≤ x
  · simp [h]; omega
  · simp [h]; omega
@[simp] theorem mm_min (k : IntKind) (x y : Int) : minmaxL false [.int k y] (.int k x) = some (.int k (min x y)) := by
  have : minmaxL false [.int k y] (.int k x) = some (.int k (ite' (ile x y) x y)) := by cases k <;> rfl
  rw [this, ile_eq, ite_eq]
  congr 2
  by_cases h : x ≤ y
  · simp [h]; omega
  · simp [h]; omega
@[simp] theorem evL_one' (x : Opnd) : evL e [x] = [x.ev e] := keep rfl
attribute [simp] eget_cons eget_nil evL_nil evL_cons
end
end Go.AI
