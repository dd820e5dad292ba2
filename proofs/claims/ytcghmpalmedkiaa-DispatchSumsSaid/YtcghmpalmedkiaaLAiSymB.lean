/-
  THE INTERPRETER's EQUATIONS (second part): calls, names, memory.
-/
import Derived.Test.YtcghmpalmedkiaaLAiSym
set_option linter.unusedVariables false
set_option linter.unusedSimpArgs false
namespace Go.AI
section
variable {p : Ex} {b : Nat} {e : Env} {H : Heap} {q : Bool}
/-! functions -/
theorem run_of {tab : Nat → Option AFunc} {p : Ex} {f : Nat} {fn : AFunc} (hf : tab f = some fn) (args : List AVal) (H : Heap) : call1 tab p f args H = ob (retN fn (exec1 fn.body p (len H) (argEnv args 0) H)) fun r => some (gcRet (len H) r) := by unfold call1; rw [hf]; rfl
theorem ex_call (tab : Nat → Option AFunc) (n : Nat) (f : Nat) (args : List AVal) (H : Heap) : (ex tab (n + 1)).call f args H = call1 tab (ex tab n) f args H := keep rfl
@[simp] theorem r_of (fn : AFunc) (o : AExit) (e : Env) (H : Heap) : retN fn (some (o, e, H)) = ite' o.isExit none (ob (ares e H fn.results) fun vs => some (tupOf vs, H)) := keep rfl
@[simp] theorem ie_ret : AExit.isExit .ret = false := keep rfl
@[simp] theorem ie_normal : AExit.isExit .normal = false := keep rfl
@[simp] theorem in_normal : AExit.isNormal .normal = true := keep rfl
@[simp] theorem ares_nil (e : Env) (H : Heap) : ares e H [] = some [] := keep rfl
@[simp] theorem ares_tmp (e : Env) (H : Heap) (t : Nat) (l : List ARes) : ares e H (.tmp t :: l) = ob (ares e H l) fun vs => some (eget e t :: vs) := keep rfl
@[simp] theorem ares_cell (e : Env) (H : Heap) (t s : Nat) (g : Bool) (l : List ARes) : ares e H (.cell t s g :: l) = ob (aload H s g (eget e t)) fun v => ob (ares e H l) fun vs => some (v :: vs) := keep rfl
@[simp] theorem tup_one (v : AVal) : tupOf [v] = v := keep rfl
@[simp] theorem tup_two (v u : AVal) : tupOf [v, u] = .tup [v, u] := keep rfl
@[simp] theorem tup_three (v u x : AVal) : tupOf [v, u, x] = .tup [v, u, x] := keep rfl
@[simp] theorem tup_four (v u x y : AVal) : tupOf [v, u, x, y] = .tup [v, u, x, y] := keep rfl
/-! names -/
@[simp] theorem nm_undef : AVal.names .undef = [] := keep rfl
@[simp] theorem nm_bool (c : Bool) : AVal.names (.bool c) = [] := keep rfl
@[simp] theorem nm_int (k : IntKind) (n : Int) : AVal.names (.int k n) = [] := keep rfl
@[simp] theorem nm_str (s : ByteArray) : AVal.names (.str s) = [] := keep rfl
@[simp] theorem nm_nilPtr : AVal.names .nilPtr = [] := keep rfl
@[simp] theorem nm_nilSlice : AVal.names .nilSlice = [] := keep rfl
@[simp] theorem nm_nilMap : AVal.names .nilMap = [] := keep rfl
@[simp] theorem nm_nilFunc : AVal.names .nilFunc = [] := keep rfl
@[simp] theorem nm_ptr (a o : Nat) : AVal.names (.ptr (.p a) o) = [a] := keep rfl
theorem nm_ptrV (a i o : Nat) : AVal.names (.ptr (.v a i) o) = [a] := keep rfl
@[simp] theorem nm_slice (a o l c z : Nat) (x : Bool) : AVal.names (.slice (.p a) o l c z x) = [a] := keep rfl
theorem nm_sliceV (a i o l c z : Nat) (x : Bool) : AVal.names (.slice (.v a i) o l c z x) = [a] := keep rfl
@[simp] theorem nm_map (a : Nat) : AVal.names (.map a) = [a] := keep rfl
@[simp] theorem nm_yield (a : Nat) : AVal.names (.yield a) = [a] := keep rfl
@[simp] theorem namesL_nil : AVal.namesL [] = [] := keep rfl
@[simp] theorem namesL_cons (v : AVal) (l : List AVal) : AVal.namesL (v :: l) = v.names ++ AVal.namesL l := apd_eq _ _
@[simp] theorem nm_agg (l : List AVal) : AVal.names (.agg l) = AVal.namesL l := by
  induction l with
  | nil => rfl
  | cons x l ih => exact congrArg (apd x.names) ih
@[simp] theorem nm_tup (l : List AVal) : AVal.names (.tup l) = AVal.namesL l := by
  induction l with
  | nil => rfl
  | cons x l ih => exact congrArg (apd x.names) ih
@[simp] theorem nm_func (f : Nat) (x y : List AVal) : AVal.names (.func f x y) = AVal.namesL x ++ AVal.namesL y := by
  have h1 : AVal.names (.func f x y) = apd (AVal.names (.agg x)) (AVal.names (.agg y)) := keep rfl
  rw [h1, nm_agg, nm_agg, apd_eq]
@[simp] theorem rn_undef (m : Nat → Option Nat) : AVal.ren m .undef = .undef := keep rfl
@[simp] theorem rn_bool (m : Nat → Option Nat) (c : Bool) : AVal.ren m (.bool c) = .bool c := keep rfl
@[simp] theorem rn_int (m : Nat → Option Nat) (k : IntKind) (n : Int) : AVal.ren m (.int k n) = .int k n := keep rfl
@[simp] theorem rn_str (m : Nat → Option Nat) (s : ByteArray) : AVal.ren m (.str s) = .str s := keep rfl
@[simp] theorem rn_nilPtr (m : Nat → Option Nat) : AVal.ren m .nilPtr = .nilPtr := keep rfl
@[simp] theorem rn_nilSlice (m : Nat → Option Nat) : AVal.ren m .nilSlice = .nilSlice := keep rfl
@[simp] theorem rn_nilMap (m : Nat → Option Nat) : AVal.ren m .nilMap = .nilMap := keep rfl
@[simp] theorem rn_nilFunc (m : Nat → Option Nat) : AVal.ren m .nilFunc = .nilFunc := keep rfl
@[simp] theorem rn_ptr (m : Nat → Option Nat) (a o : Nat) : AVal.ren m (.ptr (.p a) o) = named (m a) fun c => .ptr (.p c) o := keep rfl
theorem rn_ptrV (m : Nat → Option Nat) (a i o : Nat) : AVal.ren m (.ptr (.v a i) o) = named (m a) fun c => .ptr (.v c i) o := keep rfl
@[simp] theorem rn_slice (m : Nat → Option Nat) (a o l c z : Nat) (x : Bool) : AVal.ren m (.slice (.p a) o l c z x) = named (m a) fun d => .slice (.p d) o l c z x := keep rfl
theorem rn_sliceV (m : Nat → Option Nat) (a i o l c z : Nat) (x : Bool) : AVal.ren m (.slice (.v a i) o l c z x) = named (m a) fun d => .slice (.v d i) o l c z x := keep rfl
@[simp] theorem rn_map (m : Nat → Option Nat) (a : Nat) : AVal.ren m (.map a) = named (m a) .map := keep rfl
@[simp] theorem rn_yield (m : Nat → Option Nat) (a : Nat) : AVal.ren m (.yield a) = named (m a) .yield := keep rfl
@[simp] theorem named_some (a : Nat) (f : Nat → AVal) : named (some a) f = f a := keep rfl
@[simp] theorem named_none (f : Nat → AVal) : named none f = .undef := keep rfl
attribute [simp] ren_agg ren_tup ren_func flat_agg flat_tup flat_func
@[simp] theorem fl_int (k : IntKind) (n : Int) : AVal.flat (.int k n) = true := keep rfl
@[simp] theorem fl_bool (c : Bool) : AVal.flat (.bool c) = true := keep rfl
@[simp] theorem fl_str (s : ByteArray) : AVal.flat (.str s) = true := keep rfl
@[simp] theorem fl_nilPtr : AVal.flat .nilPtr = true := keep rfl
@[simp] theorem fl_nilSlice : AVal.flat .nilSlice = true := keep rfl
@[simp] theorem fl_nilMap : AVal.flat .nilMap = true := keep rfl
@[simp] theorem fl_nilFunc : AVal.flat .nilFunc = true := keep rfl
@[simp] theorem fl_ptr (a : Nm) (o : Nat) : AVal.flat (.ptr a o) = false := keep rfl
@[simp] theorem fl_slice (a : Nm) (o l c z : Nat) (x : Bool) : AVal.flat (.slice a o l c z x) = false := keep rfl
@[simp] theorem fl_map (a : Nat) : AVal.flat (.map a) = false := keep rfl
theorem flat_names (v : AVal) : v.flat = true → v.names = [] := by
  refine AVal.rec (motive_1 := fun v => v.flat = true → v.names = []) (motive_2 := fun l => AVal.flatL l = true → AVal.namesL l = []) ?_ ?_ ?_ ?_ ?_ ?_ ?_ ?_ ?_ ?_ ?_ ?_ ?_ ?_ ?_ ?_ ?_ ?_ v <;> (try (intros; rfl)) <;> (try (intros; rename_i h; cases h; done))
  · intro f x y ihx ihy h
    rw [flat_func] at h; simp at h
    rw [nm_func, ihx h.1, ihy h.2]; rfl
  · intro cs ih h; rw [flat_agg] at h; rw [nm_agg]; exact ih h
  · intro cs ih h; rw [flat_tup] at h; rw [nm_tup]; exact ih h
  · intro v vs ih ihs h; simp at h; rw [namesL_cons, ih h.1, ihs h.2]; rfl
theorem flat_ren (m : Nat → Option Nat) (v : AVal) : v.flat = true → v.ren m = v := by
  refine AVal.rec (motive_1 := fun v => v.flat = true → v.ren m = v) (motive_2 := fun l => AVal.flatL l = true → AVal.renL m l = l) ?_ ?_ ?_ ?_ ?_ ?_ ?_ ?_ ?_ ?_ ?_ ?_ ?_ ?_ ?_ ?_ ?_ ?_ v <;> (try (intros; rfl)) <;> (try (intros; rename_i h; cases h; done))
  · intro f x y ihx ihy h
    rw [flat_func] at h; simp at h
    rw [ren_func, ihx h.1, ihy h.2]
  · intro cs ih h; rw [flat_agg] at h; rw [ren_agg, ih h]
  · intro cs ih h; rw [flat_tup] at h; rw [ren_tup, ih h]
  · intro v vs ih ihs h; simp at h; rw [renL_cons, ih h.1, ihs h.2]
theorem reach_nil (n : Nat) (acc : List Nat) : reach H n [] acc = acc := by cases n <;> rfl
theorem backOn_flat {v : AVal} {H1 : Heap} (h : v.flat = true) : backOn q [] H v H1 (newOn q 0 v H1) = (v, H) := by
  have h1 : newOn q 0 v H1 = [] := by
    unfold newOn
    rw [flat_names v h]
    cases q <;> (simp [objNames, reach_nil, fst_eq]; rfl)
  rw [h1]
  unfold backOn
  rw [flat_ren _ v h]
  cases q <;> simp [backTo, pick]
@[simp] theorem back_bool (H1 : Heap) (c : Bool) : backOn q [] H (.bool c) H1 (newOn q 0 (.bool c) H1) = (.bool c, H) := backOn_flat rfl
@[simp] theorem back_int (H1 : Heap) (k : IntKind) (n : Int) : backOn q [] H (.int k n) H1 (newOn q 0 (.int k n) H1) = (.int k n, H) := backOn_flat rfl
@[simp] theorem back_str (H1 : Heap) (c : ByteArray) : backOn q [] H (.str c) H1 (newOn q 0 (.str c) H1) = (.str c, H) := backOn_flat rfl
@[simp] theorem back_tup0 (H1 : Heap) : backOn q [] H (.tup []) H1 (newOn q 0 (.tup []) H1) = (.tup [], H) := backOn_flat rfl
@[simp] theorem back_ii (H1 : Heap) (k k' : IntKind) (n m : Int) : backOn q [] H (.tup [.int k n, .int k' m]) H1 (newOn q 0 (.tup [.int k n, .int k' m]) H1) = (.tup [.int k n, .int k' m], H) := backOn_flat rfl
@[simp] theorem back_iii (H1 : Heap) (k k' k2 : IntKind) (n m l : Int) : backOn q [] H (.tup [.int k n, .int k' m, .int k2 l]) H1 (newOn q 0 (.tup [.int k n, .int k' m, .int k2 l]) H1) = (.tup [.int k n, .int k' m, .int k2 l], H) := backOn_flat rfl
@[simp] theorem back_bi (H1 : Heap) (k : IntKind) (c : Bool) (n : Int) : backOn q [] H (.tup [.bool c, .int k n]) H1 (newOn q 0 (.tup [.bool c, .int k n]) H1) = (.tup [.bool c, .int k n], H) := backOn_flat rfl
@[simp] theorem back_ib (H1 : Heap) (k : IntKind) (c : Bool) (n : Int) : backOn q [] H (.tup [.int k n, .bool c]) H1 (newOn q 0 (.tup [.int k n, .bool c]) H1) = (.tup [.int k n, .bool c], H) := backOn_flat rfl
theorem aw64 {n : Int} (h1 : -9223372036854775808 ≤ n) (h2 : n ≤ 9223372036854775807) : aw .i64 n = n := aw_in .i64 n h1 h2
end
end Go.AI
