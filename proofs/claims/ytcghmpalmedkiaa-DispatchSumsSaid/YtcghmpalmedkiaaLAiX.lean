/-
  THE EQUATIONS THAT A WALK USES, BOUND TOGETHER.
-/
import Derived.Test.YtcghmpalmedkiaaLAiW
set_option linter.unusedVariables false
set_option linter.unusedSimpArgs false
set_option linter.defProp false
namespace Go.AI
section
variable {p : Ex} {b : Nat} {e : Env} {H : Heap} {q : Bool}
/-! numbers in Bools -/
theorem beq_dec (a c : Nat) : Nat.beq a c = decide (a = c) := by
  by_cases h : a = c
  · subst h; simp
  · cases hb : Nat.beq a c with
    | false => simp [h]
    | true => exact absurd (Nat.eq_of_beq_eq_true hb) h
theorem blt_dec (a c : Nat) : Nat.blt a c = decide (a < c) := by
  by_cases h : a < c
  · rw [blt_lt h]; simp [h]
  · cases hb : Nat.blt a c with
    | false => simp [h]
    | true => exact absurd (by simpa [Nat.blt_eq] using hb) h
theorem ble_dec (a c : Nat) : Nat.ble a c = decide (a ≤ c) := by
  by_cases h : a ≤ c
  · rw [Nat.ble_eq_true_of_le h]; simp [h]
  · cases hb : Nat.ble a c with
    | false => simp [h]
    | true => exact absurd (Nat.le_of_ble_eq_true hb) h
theorem strEq_dec (s t : ByteArray) : strEq s t = decide (s = t) := by
  have h : strEq s t = decide (s.data.toList = t.data.toList) := by
    unfold strEq
    have key : ∀ l k : List UInt8, bytesEq l k = decide (l = k) := by
      intro l
      induction l with
      | nil => intro k; cases k <;> rfl
      | cons x l ih =>
        intro k
        cases k with
        | nil => rfl
        | cons y k =>
          show ite' (Nat.beq x.toNat y.toNat) (bytesEq l k) false = _
          rw [beq_dec, ih]
          by_cases hxy : x = y
          · subst hxy; simp
          · have : ¬ x.toNat = y.toNat := fun h => hxy (UInt8.toNat_inj.1 h)
            simp [hxy, this]
    exact key _ _
  rw [h]
  by_cases hs : s = t
  · subst hs; simp
  · have : ¬ s.data.toList = t.data.toList := fun h => hs (by cases s; cases t; simp at h; exact congrArg ByteArray.mk h)
    simp [hs, this]
theorem room_eq : roomBytes = 140737488355328 := keep rfl
/-! lists -/
theorem len_nil {α : Type} : len ([] : List α) = 0 := keep rfl
theorem len_cons {α : Type} (x : α) (l : List α) : len (x :: l) = len l + 1 := keep rfl
theorem fst_zero {α : Type} (l : List α) : fst l 0 = [] := by cases l <;> rfl
theorem fst_nil {α : Type} (n : Nat) : fst ([] : List α) n = [] := keep rfl
theorem fst_succ {α : Type} (x : α) (l : List α) (n : Nat) : fst (x :: l) (n + 1) = x :: fst l n := keep rfl
theorem rest_zero {α : Type} (l : List α) : rest l 0 = l := by cases l <;> rfl
theorem rest_nil {α : Type} (n : Nat) : rest ([] : List α) n = [] := keep rfl
theorem rest_succ {α : Type} (x : α) (l : List α) (n : Nat) : rest (x :: l) (n + 1) = rest l n := keep rfl
theorem upd_zero {α : Type} (x y : α) (l : List α) : upd (x :: l) 0 y = y :: l := keep rfl
theorem upd_succ {α : Type} (x y : α) (l : List α) (n : Nat) : upd (x :: l) (n + 1) y = x :: upd l n y := keep rfl
theorem upto_zero (i : Nat) : upto 0 i = [] := keep rfl
theorem upto_succ (n i : Nat) : upto (n + 1) i = i :: upto n (i + 1) := keep rfl
/-! heads -/
theorem unex_ptr (a : Nm) (o : Nat) : (AVal.ptr a o).unex = .ptr a o := keep rfl
theorem unex_slice (a : Nm) (o l c z : Nat) (x : Bool) : (AVal.slice a o l c z x).unex = .slice a o l c z false := keep rfl
theorem unex_int (k : IntKind) (n : Int) : (AVal.int k n).unex = .int k n := keep rfl
theorem unex_bool (c : Bool) : (AVal.bool c).unex = .bool c := keep rfl
theorem unex_str (s : ByteArray) : (AVal.str s).unex = .str s := keep rfl
theorem unex_map (a : Nat) : (AVal.map a).unex = .map a := keep rfl
theorem unex_yield (a : Nat) : (AVal.yield a).unex = .yield a := keep rfl
theorem unex_undef : AVal.undef.unex = .undef := keep rfl
theorem unex_nilS : AVal.nilSlice.unex = .nilSlice := keep rfl
theorem unex_nilP : AVal.nilPtr.unex = .nilPtr := keep rfl
theorem unex_nilM : AVal.nilMap.unex = .nilMap := keep rfl
theorem unex_nilF : AVal.nilFunc.unex = .nilFunc := keep rfl
noncomputable def unexL (l : List AVal) : List AVal := l.map AVal.unex
theorem unex_agg (l : List AVal) : (AVal.agg l).unex = .agg (unexL l) := by
  induction l with
  | nil => rfl
  | cons v l ih =>
    have h : (AVal.agg (v :: l)).unex = .agg (v.unex :: match (AVal.agg l).unex with | .agg r => r | _ => []) := rfl
    rw [h, ih]; rfl
theorem unex_func (f : Nat) (a c : List AVal) : (AVal.func f a c).unex = .func f (unexL a) (unexL c) := by
  have h : (AVal.func f a c).unex = .func f (match (AVal.agg a).unex with | .agg r => r | _ => []) (match (AVal.agg c).unex with | .agg r => r | _ => []) := rfl
  rw [h, unex_agg, unex_agg]
theorem unexL_nil : unexL [] = [] := keep rfl
theorem unexL_cons (v : AVal) (l : List AVal) : unexL (v :: l) = v.unex :: unexL l := keep rfl
theorem unexV_nil : unexV [] = [] := keep rfl
theorem unexV_cons (v : AVal) (l : List AVal) : unexV (v :: l) = v.unex :: unexV l := keep rfl
theorem unexE_nil : unexE [] = [] := keep rfl
theorem unexE_cons (t : Nat) (v : AVal) (l : Env) : unexE ((t, v) :: l) = (t, v.unex) :: unexE l := keep rfl
noncomputable def headOf (e1 : Env) (H : Heap) (k : List Nat) : Env × Heap := (unexE (gcE k e1), gcH k H)
theorem head_eq (lv : List Nat) : head b lv e H = headOf (restr e lv) H (gcKeep b (restr e lv) H) := keep rfl
theorem headOf_eq (k : List Nat) : headOf e H k = (unexE (renE (mapIn k) e), pick H (mapIn k) k) := keep rfl
theorem gcKeep_eq : gcKeep b e H = upto b 0 ++ fromOn b (reach H 4096 (namesE e ++ objNames (fst H b)) []) := by unfold gcKeep; rw [apd_eq, apd_eq, fuel_eq]
noncomputable def reachIf (H : Heap) (n a : Nat) (todo acc : List Nat) (t : Bool) : List Nat := ite' t (reach H n todo acc) (reach H n ((hget H a).names ++ todo) (acc ++ [a]))
theorem reach_cons' {n : Nat} (a : Nat) (todo acc : List Nat) : reach H (n + 1) (a :: todo) acc = reachIf H n a todo acc (has a acc) := reach_cons (by omega) a todo acc
theorem reachIf_t {n : Nat} (a : Nat) (todo acc : List Nat) : reachIf H n a todo acc true = reach H n todo acc := keep rfl
theorem reachIf_f {n : Nat} (a : Nat) (todo acc : List Nat) : reachIf H n a todo acc false = reach H n ((hget H a).names ++ todo) (acc ++ [a]) := keep rfl
theorem stepTo_normal (lv ou : List Nat) : stepTo b lv ou (some (.normal, e, H)) = some (.inl (head b lv e H)) := keep rfl
theorem stepTo_exit (lv ou : List Nat) (i : Nat) : stepTo b lv ou (some (.exit i, e, H)) = some (.inr (.exit i, head b ou e H)) := keep rfl
theorem stepTo_ret (lv ou : List Nat) : stepTo b lv ou (some (.ret, e, H)) = some (.inr (.ret, head b ou e H)) := keep rfl
theorem gcRet_eq (v : AVal) : gcRet b (v, H) = retOf (v, H) (gcKeep b [(0, v)] H) := keep rfl
theorem retOf_eq (v : AVal) (k : List Nat) : retOf (v, H) k = (v.ren (mapIn k), pick H (mapIn k) k) := by
  show (eget (renE (mapIn k) [(0, v)]) 0, _) = _
  rfl
/-! calls -/
noncomputable def callB (q : Bool) (H : Heap) (keep : List Nat) (v : AVal) (H' : Heap) (new : List Nat) : Res := some (backOn q keep H v H' new)
noncomputable def callR (q : Bool) (H : Heap) (keep : List Nat) (r : Option (AVal × Heap)) : Res := ob r fun s => callB q H keep s.1 s.2 (newOn q (len keep) s.1 s.2)
theorem callOn_eq (run : List AVal → Heap → Option (AVal × Heap)) (args : List AVal) : callOn run q args H = callOn1 run q args H (belowN (len H) (reach H 4096 (AVal.namesL args) [])) := keep rfl
theorem callOn1_eq (run : List AVal → Heap → Option (AVal × Heap)) (args : List AVal) (k : List Nat) : callOn1 run q args H k = callR q H k (run (unexV (AVal.renL (mapIn k) args)) (ite' q (pickRo H (mapIn k) k) (pick H (mapIn k) k))) := keep rfl
theorem callR_some (k : List Nat) (v : AVal) (H' : Heap) : callR q H k (some (v, H')) = callB q H k v H' (newOn q (len k) v H') := keep rfl
theorem callB_eq (k new : List Nat) (v : AVal) (H' : Heap) : callB q H k v H' new = some (v.ren (mapOut k new (len k) (len H)), ite' q H (backTo (mapOut k new (len k) (len H)) k (fst H' (len k)) H) ++ pick H' (mapOut k new (len k) (len H)) new) := by
  show some (v.ren _, apd _ _) = _
  rw [apd_eq]
theorem newOn_eq (k : Nat) (v : AVal) (H' : Heap) : newOn q k v H' = fromOn k (reach H' 4096 (v.names ++ ite' q [] (objNames (fst H' k))) []) := by unfold newOn; rw [apd_eq, fuel_eq]
theorem mapOut_eq (k new : List Nat) (n base i : Nat) : mapOut k new n base i = ite' (decide (i < n)) (nth k i) (ob (idx i new 0) fun j => some (base + j)) := by rw [← blt_dec]; rfl
theorem backTo_nil (m : Nat → Option Nat) (K : Heap) : backTo m [] K H = H := keep rfl
theorem backTo_cons (m : Nat → Option Nat) (a : Nat) (k : List Nat) (o : AObj) (K : Heap) : backTo m (a :: k) (o :: K) H = backTo m k K (upd H a (o.ren m)) := keep rfl
theorem pickRo_nil (m : Nat → Option Nat) : pickRo H m [] = [] := keep rfl
theorem pickRo_cons (m : Nat → Option Nat) (a : Nat) (l : List Nat) : pickRo H m (a :: l) = ((hget H a).ren m).ro :: pickRo H m l := keep rfl
theorem ro_row (r f : Bool) (cs : List AVal) : (AObj.row r f cs).ro = .row false f cs := keep rfl
theorem ro_map (r : Bool) (es : List (AVal × AVal)) : (AObj.map r es).ro = .map false es := keep rfl
theorem ro_dead : AObj.dead.ro = .dead := keep rfl
/-! operations that were not yet among the equations -/
theorem a_slice (sz : Nat) (x : Opnd) (lo hi mx : Option Opnd) : aoper (.slice sz x lo hi mx) p q e H = ob (aslice sz (x.ev e) (oev e lo) (oev e hi) (oev e mx)) fun v => some (v, H) := keep rfl
theorem oev_none : oev e none = none := keep rfl
theorem oev_some (x : Opnd) : oev e (some x) = some (x.ev e) := keep rfl
theorem bnd_none (d t : Nat) : bnd none d t = some d := keep rfl
theorem bnd_some (k : IntKind) (n : Int) (d t : Nat) : bnd (some (.int k n)) d t = inx n (t + 1) := keep rfl
theorem aslice_none (a : Nm) (o l c z : Nat) (x : Bool) (z' : Nat) (lo hi : Option AVal) : aslice z' (.slice a o l c z x) lo hi none =
    ob (bnd hi l c) fun h => ob (bnd lo 0 h) fun i => ite' (notB (decide (z' = 0)) && decide (z' = z)) (some (.slice a (o + i * z') (h - i) (c - i) z' x)) none := by
  rw [← beq_dec, ← beq_dec]
  show ob (bnd hi l c) _ = _
  congr 1; funext h; show ob (bnd lo 0 h) _ = _; congr 1; funext i
  show ite' (andB (notB (Nat.beq z' 0)) (andB (Nat.beq z' z) (notB (andB false _)))) _ none = _
  simp; rfl
theorem aslice_some (a : Nm) (o l c z : Nat) (x : Bool) (z' : Nat) (lo : Option AVal) (hi m : AVal) : aslice z' (.slice a o l c z x) lo (some hi) (some m) =
    ob (bnd (some m) c c) fun t => ob (bnd (some hi) l t) fun h => ob (bnd lo 0 h) fun i => ite' (notB (decide (z' = 0)) && decide (z' = z)) (some (.slice a (o + i * z') (h - i) (t - i) z' true)) none := by
  rw [← beq_dec, ← beq_dec]
  show ob (bnd (some m) c c) _ = _
  congr 1; funext t; show ob (bnd (some hi) l t) _ = _; congr 1; funext h; show ob (bnd lo 0 h) _ = _; congr 1; funext i
  show ite' (andB (notB (Nat.beq z' 0)) (andB (Nat.beq z' z) (notB (andB true (notB true))))) _ none = _
  simp; rfl
theorem aslice_str (s : ByteArray) (lo hi : Option AVal) : aslice 0 (.str s) lo hi none = ob (bnd hi s.size s.size) fun h => ob (bnd lo 0 h) fun i => some (.str (s.extract i h)) := keep rfl
theorem a_index (sz l : Nat) (g : Bool) (x i : Opnd) : aoper (.index sz l g x i) p q e H = ob (ob (asAgg (x.ev e)) fun cs => ob (asInt (i.ev e)) fun r => ob (inx r.2 l) fun j => readCells g sz cs (j * sz)) fun v => some (v, H) := keep rfl
theorem a_iarr (sz l : Nat) (x i : Opnd) : aoper (.iarr sz l x i) p q e H = ob (asPtr (x.ev e)) fun r => ob (asInt (i.ev e)) fun s => ob (inx s.2 l) fun j => some (.ptr r.1 (r.2 + j * sz), H) := keep rfl
theorem a_mkslice (t : TypeId) (sz bt : Nat) (z : List AVal) (l c : Opnd) : aoper (.mkslice t sz bt z l c) p q e H =
    ob (asInt (l.ev e)) fun r => ob (asInt (c.ev e)) fun s => ob (inx r.2 140737488355329) fun n =>
      ite' (keq r.1 .i64 && keq s.1 .i64 && (decide (r.2 = s.2) && decide (n * bt ≤ 140737488355328))) (some (.slice (.p (len H)) 0 n n sz true, H ++ [.row true (AVal.flatL z) (repeatL z n)])) none := by
  show oMkslice t sz bt z l c e H = _
  unfold oMkslice
  congr 1; funext r; congr 1; funext s
  show ob (inx r.2 140737488355329) _ = _
  congr 1; funext n
  rw [ieq_eq]
  simp only [andB_eq, apd_eq]
  rw [show Nat.ble (Nat.mul n bt) roomBytes = decide (n * bt ≤ 140737488355328) from ble_dec _ _]
theorem keq_i64 : keq .i64 .i64 = true := keep rfl
theorem a_nils (sz : Nat) (x : Opnd) : aoper (.nils sz x) p q e H = ite' (isNilS (x.ev e)) (some (.slice (.p (len H)) 0 0 0 sz false, H ++ [.row true true []])) none := by
  show oNils sz x e H = _; unfold oNils; rw [apd_eq]; rfl
theorem nilS_nil : isNilS .nilSlice = true := keep rfl
theorem nilS_slice (a : Nm) (o l c z : Nat) (x : Bool) : isNilS (.slice a o l c z x) = false := keep rfl
theorem nilS_int (k : IntKind) (n : Int) : isNilS (.int k n) = false := keep rfl
theorem nilS_bool (c : Bool) : isNilS (.bool c) = false := keep rfl
theorem nilS_str (c : ByteArray) : isNilS (.str c) = false := keep rfl
theorem nilS_map (a : Nat) : isNilS (.map a) = false := keep rfl
theorem nilS_ptr (a : Nm) (o : Nat) : isNilS (.ptr a o) = false := keep rfl
theorem a_nbuild (szs : List Nat) (z : List AVal) (ps : List (Nat × Nat × Opnd)) : aoper (.nbuild szs z ps) p q e H = ob (fillAt (parts3 e ps) z) fun cs => some (aggL (denilL szs cs H)) := keep rfl
theorem denil_nil (cs : List AVal) : denilL [] cs H = (cs, H) := keep rfl
theorem denil_end (sz : Nat) (szs : List Nat) : denilL (sz :: szs) [] H = ([], H) := keep rfl
theorem denil_cons (sz : Nat) (szs : List Nat) (v : AVal) (cs : List AVal) : denilL (sz :: szs) (v :: cs) H = ite' (isNilS v && !decide (sz = 0)) (consL (.slice (.p (len H)) 0 0 0 sz false) (denilL szs cs (H ++ [.row true true []]))) (consL v (denilL szs cs H)) := by
  show ite' (andB (isNilS v) (notB (Nat.beq sz 0))) (consL _ (denilL szs cs (apd H [nilRow]))) _ = _
  rw [beq_dec, apd_eq, andB_eq, notB_eq]; rfl
theorem consL_eq (v : AVal) (l : List AVal) : consL v (l, H) = (v :: l, H) := keep rfl
theorem aggL_eq (l : List AVal) : aggL (l, H) = (.agg l, H) := keep rfl
theorem parts3_nil : parts3 e [] = [] := keep rfl
theorem parts3_cons (a c : Nat) (x : Opnd) (l : List (Nat × Nat × Opnd)) : parts3 e ((a, c, x) :: l) = (a, c, x.ev e) :: parts3 e l := keep rfl
theorem parts2_nil (z : Nat) : parts2 e z [] = [] := keep rfl
theorem parts2_cons (z a : Nat) (x : Opnd) (l : List (Nat × Opnd)) : parts2 e z ((a, x) :: l) = (a * z, z, x.ev e) :: parts2 e z l := keep rfl
theorem fill_nil (cs : List AVal) : fillAt [] cs = some cs := keep rfl
theorem fill_cons (a c : Nat) (v : AVal) (l : List (Nat × Nat × AVal)) (cs : List AVal) : fillAt ((a, c, v) :: l) cs = ite' (decide (len v.cells = c) && oneL v.cells) (ob (writeAt v.cells cs a) (fillAt l)) none := by rw [← beq_dec, ← andB_eq]; rfl
theorem write_nil (cs : List AVal) (o : Nat) : writeAt [] cs o = some cs := keep rfl
theorem write_cons (v : AVal) (l : List AVal) (c : AVal) (cs : List AVal) (o : Nat) : writeAt (v :: l) (c :: cs) o = ite' (decide (o < len (c :: cs))) (writeAt l (upd (c :: cs) o v) (o + 1)) none := by rw [← blt_dec]; rfl
theorem read_zero (cs : List AVal) (o : Nat) : readAt 0 cs o = some [] := keep rfl
theorem read_succ (n : Nat) (c : AVal) (cs : List AVal) (o : Nat) : readAt (n + 1) (c :: cs) o = ob (nth (c :: cs) o) fun v => ob (readAt n (c :: cs) (o + 1)) fun vs => some (v :: vs) := keep rfl
theorem eqv_bool (a c : Bool) : eqv [0] (.bool a) (.bool c) = some (a == c) := by
  have : eqv [0] (.bool a) (.bool c) = some (beqB a c) := rfl
  rw [this, beqB_eq]
theorem eqv_nn : eqv [9] .nilSlice .nilSlice = some true := keep rfl
theorem eqv_agg (k : Nat) (ks : List Nat) (cs ds : List AVal) (h0 : k ≠ 0) (h9 : k ≠ 9) : eqv (k :: ks) (.agg cs) (.agg ds) = eqFs (k :: ks) cs ds := by
  show ite' (Nat.beq k 0) _ (ite' (Nat.beq k 9) _ _) = _
  rw [beq_dec, beq_dec]; simp [h0, h9]
theorem eqv_agg1 (ks : List Nat) (cs ds : List AVal) : eqv (1 :: ks) (.agg cs) (.agg ds) = eqFs (1 :: ks) cs ds := eqv_agg 1 ks cs ds (by decide) (by decide)
theorem eqv_agg2 (ks : List Nat) (cs ds : List AVal) : eqv (2 :: ks) (.agg cs) (.agg ds) = eqFs (2 :: ks) cs ds := eqv_agg 2 ks cs ds (by decide) (by decide)
theorem eqv_agg3 (ks : List Nat) (cs ds : List AVal) : eqv (3 :: ks) (.agg cs) (.agg ds) = eqFs (3 :: ks) cs ds := eqv_agg 3 ks cs ds (by decide) (by decide)
theorem eqFs_nil : eqFs [] [] [] = some true := keep rfl
theorem eqFs_int (ks : List Nat) (k : IntKind) (x y : Int) (cs ds : List AVal) : eqFs (1 :: ks) (.int k x :: cs) (.int k y :: ds) = ite' (decide (x = y)) (eqFs ks cs ds) (some false) := by rw [← ieq_eq]; cases k <;> rfl
theorem eqFs_bool (ks : List Nat) (x y : Bool) (cs ds : List AVal) : eqFs (2 :: ks) (.bool x :: cs) (.bool y :: ds) = ite' (x == y) (eqFs ks cs ds) (some false) := by rw [← beqB_eq]; rfl
theorem eqFs_str (ks : List Nat) (x y : ByteArray) (cs ds : List AVal) : eqFs (3 :: ks) (.str x :: cs) (.str y :: ds) = ite' (decide (x = y)) (eqFs ks cs ds) (some false) := by rw [← strEq_dec]; rfl
theorem ite_sf (c d : Bool) : ite' c (some d) (some false) = some (c && d) := by cases c <;> rfl
noncomputable def repX (z : List AVal) (n : Nat) : List AVal := repeatL z n
theorem repX_zero (z : List AVal) : repX z 0 = [] := keep rfl
theorem repX_succ (z : List AVal) (n : Nat) : repX z (n + 1) = z ++ repX z n := apd_eq _ _
theorem a_bsliceX (t : TypeId) (sz l : Nat) (z : List AVal) (ps : List (Nat × Opnd)) : aoper (.bslice t sz l z ps) p q e H = ob (fillAt (parts2 e sz ps) (repX z l)) fun cs => ite' (oneL cs) (some (.slice (.p (len H)) 0 l l sz true, newRow H cs)) none := keep rfl
/-! append -/
theorem src_nil (z : Nat) : srcCells H z .nilSlice = some (0, []) := keep rfl
noncomputable def srcK (l z o : Nat) (r : Option (Bool × Bool × List AVal)) : Option (Nat × List AVal) :=
  Option.rec (motive := fun _ => Option (Nat × List AVal)) (ite' (Nat.beq l 0) (some (0, [])) none) (fun r => ob (readAt (Nat.mul l z) r.2.2 o) fun vs => some (l, vs)) r
theorem src_slice (z a o l c y : Nat) (x : Bool) : srcCells H z (.slice (.p a) o l c y x) = srcK l z o (rowOf (hget H a)) := keep rfl
theorem src_sliceV (z a i o l c y : Nat) (x : Bool) : srcCells H z (.slice (.v a i) o l c y x) = srcK l z o (rowOf (inner i (hget H a))) := keep rfl
theorem srcK_some (l z o : Nat) (r : Bool × Bool × List AVal) : srcK l z o (some r) = ob (readAt (l * z) r.2.2 o) fun vs => some (l, vs) := keep rfl
noncomputable def appK (H : Heap) (z bt : Nat) (s : AVal) (r : Nat × List AVal) : Option (AVal × Heap) := ite' (oneL r.2)
    (Option.rec (ite' (isNilS s) (ite' (Nat.beq r.1 0) (some (.nilSlice, H))
        (ite' (Nat.ble (Nat.mul r.1 bt) roomBytes) (some (.slice (.p (len H)) 0 r.1 r.1 z false, newRow H r.2)) none)) none)
      (fun t => appSl H z bt t r.1 r.2) (asSl s)) none
theorem app_eq (z bt : Nat) (s x : AVal) : aappend H z bt s x = ob (srcCells H z x) (appK H z bt s) := keep rfl
theorem appK_nil (z bt n : Nat) (vs : List AVal) : appK H z bt .nilSlice (n, vs) = ite' (oneL vs) (ite' (decide (n = 0)) (some (.nilSlice, H)) (ite' (decide (n * bt ≤ 140737488355328)) (some (.slice (.p (len H)) 0 n n z false, H ++ [.row true (AVal.flatL vs) vs])) none)) none := by
  rw [← beq_dec, ← ble_dec, ← newRow_eq]; rfl
theorem putRow_p (a off : Nat) (vs : List AVal) : putRow H (.p a) off vs = ob (rowOf (hget H a)) fun q => ite' (q.1 && (oneL vs && true)) (ob (writeAt vs q.2.2 off) fun cs => some (upd H a (.row true (q.2.1 && AVal.flatL vs) cs))) none := by
  unfold putRow; simp only [andB_eq]; rfl
noncomputable def appIn (H : Heap) (z a o l c y : Nat) (x : Bool) (n : Nat) (vs : List AVal) (t : Bool) : Option (AVal × Heap) :=
  ite' t (ob (putRow H (.p a) (o + l * z) vs) fun H' => some (.slice (.p a) o (l + n) c y x, H')) none
theorem appIn_f (z a o l c y : Nat) (x : Bool) (n : Nat) (vs : List AVal) : appIn H z a o l c y x n vs false = none := keep rfl
theorem appIn_t (z a o l c y : Nat) (x : Bool) (n : Nat) (vs : List AVal) : appIn H z a o l c y x n vs true = ob (putRow H (.p a) (o + l * z) vs) fun H' => some (.slice (.p a) o (l + n) c y x, H') := keep rfl
noncomputable def appMain (H : Heap) (z a o l c y : Nat) (x : Bool) (n : Nat) (vs : List AVal) (k : Option (AVal × Heap)) (t : Bool) : Option (AVal × Heap) :=
  ite' t (ob (rowOf (hget H a)) fun r => ob (readAt (l * z) r.2.2 o) fun us =>
      ite' (oneL us) (ite' x (some (.slice (.p (len H)) 0 (l + n) (l + n) z false, H ++ [.row true (r.2.1 && AVal.flatL vs) (us ++ vs)]))
        (ite' (r.1 && decide (o + l * z = r.2.2.length)) (some (.slice (.p (len H)) 0 (l + n) (l + n) z false, upd H a .dead ++ [.row true (r.2.1 && AVal.flatL vs) (us ++ vs)])) none)) none) k
theorem appMain_t (z a o l c y : Nat) (x : Bool) (n : Nat) (vs : List AVal) (k : Option (AVal × Heap)) : appMain H z a o l c y x n vs k true = ob (rowOf (hget H a)) fun r => ob (readAt (l * z) r.2.2 o) fun us =>
      ite' (oneL us) (ite' x (some (.slice (.p (len H)) 0 (l + n) (l + n) z false, H ++ [.row true (r.2.1 && AVal.flatL vs) (us ++ vs)]))
        (ite' (r.1 && decide (o + l * z = r.2.2.length)) (some (.slice (.p (len H)) 0 (l + n) (l + n) z false, upd H a .dead ++ [.row true (r.2.1 && AVal.flatL vs) (us ++ vs)])) none)) none := keep rfl
theorem appMain_f (z a o l c y : Nat) (x : Bool) (n : Nat) (vs : List AVal) (k : Option (AVal × Heap)) : appMain H z a o l c y x n vs k false = k := keep rfl
theorem appK_slice (z bt a o l c y : Nat) (x : Bool) (n : Nat) (vs : List AVal) : appK H z bt (.slice (.p a) o l c y x) (n, vs) = ite' (oneL vs) (ite' (decide (n = 0) && !(x && decide (l = 0))) (some (.slice (.p a) o l c y x, H))
    (appMain H z a o l c y x n vs (appIn H z a o l c y x n vs (!decide (n = 0) && (decide (z = y) && decide (l + n ≤ c)))) (decide (z = y) && decide (l = c) && decide ((l + n) * bt ≤ 140737488355328)))) none := by
  show ite' (oneL vs) (appSl H z bt ⟨.p a, o, l, c, y, x⟩ n vs) none = _
  unfold appSl appMain appIn
  simp only [andB_eq, apd_eq, len_eq, notB_eq, ← beq_dec, ← ble_dec]
  rfl
end
def w0 := And.intro @nextO_eq (And.intro @guardO_true (And.intro @guardO_false (And.intro @condO_true (And.intro @condO_false (And.intro @thenK_eq (And.intro @x_skip (And.intro @x_region (And.intro @x_seq (And.intro @x_cond (And.intro @x_block (And.intro @x_exit (And.intro @x_ret (And.intro @n_some (And.intro @t_normal (And.intro @t_ret (And.intro @t_exit (And.intro @b_normal (And.intro @b_ret (And.intro @b_exit (And.intro @o_nil (And.intro @o_plain (And.intro @g_bool (And.intro @g_none (And.intro @o_guard (And.intro @put_some (And.intro @put_none' (And.intro @ev_t (And.intro @ev_c (And.intro @argEnv_nil (And.intro @argEnv_cons (And.intro @a_mv (And.intro @a_pick (And.intro @a_alloc (And.intro @a_box (And.intro @a_build (And.intro @a_load (And.intro @a_store (And.intro @a_bin (@a_eq)))))))))))))))))))))))))))))))))))))))
def w1 := And.intro @a_un (And.intro @a_conv (And.intro @a_faddr (And.intro @a_field (And.intro @a_iaddr (And.intro @a_ext (And.intro @a_len (And.intro @a_minmax (And.intro @a_call (And.intro @bool_bool (And.intro @int_int (And.intro @ptr_ptr (And.intro @agg_agg (And.intro @tup_tup (And.intro @sl_sl (And.intro @bin_leq (And.intro @bin_lss (And.intro @bin_gtr (And.intro @bin_geq (And.intro @bin_eql (And.intro @bin_neq (And.intro @bin_add (And.intro @bin_sub (And.intro @bin_mul (And.intro @un_not (And.intro @un_neg (And.intro @mm_max (And.intro @mm_min (And.intro @r_of (And.intro @ie_ret (And.intro @ie_normal (And.intro @ares_nil (And.intro @ares_tmp (And.intro @ares_cell (And.intro @tup_one (And.intro @tup_two (And.intro @tup_three (And.intro @tup_four (And.intro @nm_undef (@nm_bool)))))))))))))))))))))))))))))))))))))))
def w2 := And.intro @nm_int (And.intro @nm_str (And.intro @nm_nilPtr (And.intro @nm_nilSlice (And.intro @nm_nilMap (And.intro @nm_nilFunc (And.intro @nm_ptr (And.intro @nm_slice (And.intro @nm_map (And.intro @nm_yield (And.intro @namesL_nil (And.intro @namesL_cons (And.intro @nm_agg (And.intro @nm_tup (And.intro @nm_func (And.intro @rn_undef (And.intro @rn_bool (And.intro @rn_int (And.intro @rn_str (And.intro @rn_nilPtr (And.intro @rn_nilSlice (And.intro @rn_nilMap (And.intro @rn_nilFunc (And.intro @rn_ptr (And.intro @rn_slice (And.intro @rn_map (And.intro @rn_yield (And.intro @named_some (And.intro @named_none (And.intro @fl_int (And.intro @fl_bool (And.intro @fl_str (And.intro @fl_nilPtr (And.intro @fl_nilSlice (And.intro @fl_nilMap (And.intro @fl_nilFunc (And.intro @fl_ptr (And.intro @fl_slice (And.intro @fl_map (@hget_cons_zero)))))))))))))))))))))))))))))))))))))))
def w3 := And.intro @hget_cons_succ (And.intro @row_row (And.intro @map_map' (And.intro @aload_ptr (And.intro @astore_ptr (And.intro @rc_one (And.intro @rc_ag (And.intro @cells_agg (And.intro @cells_int (And.intro @cells_bool (And.intro @cells_str (And.intro @cells_slice (And.intro @cells_map (And.intro @cells_ptr (And.intro @oneL_nil (And.intro @oneL_cons (And.intro @one_int (And.intro @one_bool (And.intro @one_str (And.intro @one_slice (And.intro @one_map (And.intro @one_ptr (And.intro @lenOf_slice (And.intro @lenOf_str (And.intro @lenOf_nil (And.intro @on_row_true (And.intro @on_row_false (And.intro @on_map (And.intro @on_dead (And.intro @or_row_true (And.intro @or_row_false (And.intro @or_map (And.intro @or_dead (And.intro @has_nil (And.intro @has_cons (And.intro @idx_nil (And.intro @idx_cons (And.intro @mapIn_eq (And.intro @from_nil (@from_cons)))))))))))))))))))))))))))))))))))))))
def w4 := And.intro @below_nil (And.intro @below_cons (And.intro @pick_nil (And.intro @pick_cons (And.intro @restr_nil (And.intro @restr_cons (And.intro @namesE_nil (And.intro @namesE_cons (And.intro @renE_nil (And.intro @renE_cons (And.intro @objNames_nil (And.intro @objNames_cons (And.intro @a_bytes (And.intro @a_mkmap (And.intro @a_sindex (And.intro @a_bsliceX (And.intro @repX_zero (And.intro @repX_succ (And.intro @a_app (And.intro @a_mkf (And.intro @a_mupd (And.intro @a_callv (And.intro @cv_func (And.intro @str_str (And.intro @map_map (And.intro @key_str (And.intro @key_int (And.intro @eget_cons (And.intro @eget_nil (And.intro @evL_nil (And.intro @evL_cons (And.intro @ren_agg (And.intro @ren_tup (And.intro @ren_func (And.intro @flat_agg (And.intro @flat_tup (And.intro @flat_func (And.intro @reach_nil (And.intro @newRow_eq (And.intro @ite'_true (@ite'_false))))))))))))))))))))))))))))))))))))))))
def w5 := And.intro @ob_none (And.intro @ob_some (And.intro @andB_eq (And.intro @notB_eq (And.intro @beqB_eq (And.intro @nth_eq (And.intro @apd_eq (And.intro @flatL_nil (And.intro @flatL_cons (And.intro @renL_nil (And.intro @renL_cons (And.intro @beq_dec (And.intro @blt_dec (And.intro @ble_dec (And.intro @strEq_dec (And.intro @room_eq (And.intro @ile_eq (And.intro @ieq_eq (And.intro @len_nil (And.intro @len_cons (And.intro @fst_zero (And.intro @fst_nil (And.intro @fst_succ (And.intro @rest_zero (And.intro @rest_nil (And.intro @rest_succ (And.intro @upd_zero (And.intro @upd_succ (And.intro @upto_zero (And.intro @upto_succ (And.intro @unex_ptr (And.intro @unex_slice (And.intro @unex_int (And.intro @unex_bool (And.intro @unex_str (And.intro @unex_map (And.intro @unex_yield (And.intro @unex_undef (And.intro @unex_nilS (@unex_nilP)))))))))))))))))))))))))))))))))))))))
def w6 := And.intro @unex_nilM (And.intro @unex_nilF (And.intro @unex_agg (And.intro @unex_func (And.intro @unexL_nil (And.intro @unexL_cons (And.intro @unexV_nil (And.intro @unexV_cons (And.intro @unexE_nil (And.intro @unexE_cons (And.intro @head_eq (And.intro @headOf_eq (And.intro @gcKeep_eq (And.intro @reach_cons' (And.intro @reachIf_t (And.intro @reachIf_f (And.intro @stepTo_normal (And.intro @stepTo_exit (And.intro @stepTo_ret (And.intro @gcRet_eq (And.intro @retOf_eq (And.intro @callOn_eq (And.intro @callOn1_eq (And.intro @callR_some (And.intro @callB_eq (And.intro @newOn_eq (And.intro @mapOut_eq (And.intro @backTo_nil (And.intro @backTo_cons (And.intro @pickRo_nil (And.intro @pickRo_cons (And.intro @ro_row (And.intro @ro_map (And.intro @ro_dead (And.intro @a_slice (And.intro @oev_none (And.intro @oev_some (And.intro @bnd_none (And.intro @bnd_some (And.intro @aslice_none (And.intro @aslice_some (And.intro @aslice_str (And.intro @a_index (@a_iarr)))))))))))))))))))))))))))))))))))))))))))
def w7 := And.intro @a_mkslice (And.intro @keq_i64 (And.intro @a_nils (And.intro @nilS_nil (And.intro @nilS_slice (And.intro @nilS_int (And.intro @nilS_bool (And.intro @nilS_str (And.intro @nilS_map (And.intro @nilS_ptr (And.intro @a_nbuild (And.intro @denil_nil (And.intro @denil_end (And.intro @denil_cons (And.intro @consL_eq (And.intro @aggL_eq (And.intro @parts3_nil (And.intro @parts3_cons (And.intro @parts2_nil (And.intro @parts2_cons (And.intro @fill_nil (And.intro @fill_cons (And.intro @write_nil (And.intro @write_cons (And.intro @read_zero (And.intro @read_succ (And.intro @eqv_bool (And.intro @eqv_nn (And.intro @eqv_agg1 (And.intro @eqv_agg2 (And.intro @eqv_agg3 (And.intro @eqFs_nil (And.intro @eqFs_int (And.intro @eqFs_bool (And.intro @eqFs_str (And.intro @ite_sf (And.intro @src_nil (And.intro @src_slice (And.intro @srcK_some (And.intro @app_eq (And.intro @appK_nil (@appK_slice)))))))))))))))))))))))))))))))))))))))))
def wc := And.intro @decide_true (And.intro @decide_false (And.intro @Bool.and_true (And.intro @Bool.true_and (And.intro @Bool.and_false (And.intro @Bool.false_and (And.intro @Bool.not_true (And.intro @Bool.not_false (And.intro @Bool.not_not (And.intro @beq_true (And.intro @beq_false (And.intro @Bool.or_true (And.intro @Bool.true_or (And.intro @Bool.or_false (And.intro @Bool.false_or (And.intro @List.nil_append.{0} (And.intro @List.cons_append.{0} (And.intro @List.append_nil.{0} (And.intro @List.length_nil.{0} (And.intro @List.length_cons.{0} (And.intro @List.length_append.{0} (And.intro @List.length_set.{0} (And.intro @List.length_replicate.{0} (And.intro @Nat.zero_add (And.intro @Nat.add_zero (And.intro @Nat.mul_one (And.intro @Nat.zero_mul (And.intro @Nat.sub_zero (And.intro @List.getElem?_cons_zero.{0} (And.intro @List.getElem?_cons_succ.{0} (And.intro @List.getElem?_nil.{0} (@ite_self.{1})))))))))))))))))))))))))))))))
end Go.AI
