/-
  THE INTERPRETER's NUMBERS AND STRINGS ARE THE MODEL's.
-/
import Derived.Test.YtcghmpalmedkiaaLAiRel
import Derived.Laws.Strings
set_option linter.unusedVariables false
set_option linter.unusedSimpArgs false
namespace Go.AI
@[simp] theorem ile_eq (x y : Int) : ile x y = decide (x ≤ y) := by
  cases x with
  | ofNat a => cases y with
    | ofNat b =>
      show Nat.ble a b = _
      rw [Bool.eq_iff_iff]; simp [Nat.ble_eq]
    | negSucc b =>
      show false = _
      rw [Bool.eq_iff_iff]; simp; omega
  | negSucc a => cases y with
    | ofNat b =>
      show true = _
      rw [Bool.eq_iff_iff]; simp; omega
    | negSucc b =>
      show Nat.ble b a = _
      rw [Bool.eq_iff_iff]; simp [Nat.ble_eq]; omega
@[simp] theorem ieq_eq (x y : Int) : ieq x y = decide (x = y) := by
  cases x with
  | ofNat a => cases y with
    | ofNat b =>
      show Nat.beq a b = _
      rw [Bool.eq_iff_iff]; simp; omega
    | negSucc b =>
      show false = _
      rw [Bool.eq_iff_iff]; simp
  | negSucc a => cases y with
    | ofNat b =>
      show false = _
      rw [Bool.eq_iff_iff]; simp
    | negSucc b =>
      show Nat.beq a b = _
      rw [Bool.eq_iff_iff]; simp
@[simp] theorem isub_eq (x y : Int) : Int.sub x y = x - y := rfl
@[simp] theorem iadd_eq (x y : Int) : Int.add x y = x + y := rfl
@[simp] theorem imul_eq (x y : Int) : Int.mul x y = x * y := rfl
theorem wrap_in (k : IntKind) (n : Int) (h0 : klo k ≤ n) (h1 : n ≤ khi k) : k.wrap n = n := by
  cases k <;> simp only [klo, khi] at h0 h1 <;> simp [IntKind.wrap, IntKind.bits, IntKind.signed] <;> omega
theorem aw_eq (k : IntKind) (n : Int) : aw k n = k.wrap n := by
  unfold aw
  simp only [ile_eq, andB_eq]
  by_cases h : klo k ≤ n ∧ n ≤ khi k
  · rw [wrap_in k n h.1 h.2]; cases (decide (klo k ≤ n) && decide (n ≤ khi k)) <;> rfl
  · have : (decide (klo k ≤ n) && decide (n ≤ khi k)) = false := by
      rw [Bool.eq_false_iff]; simp; intro h0; have := fun h1 => h ⟨h0, h1⟩; omega
    rw [this]; rfl
theorem aw_in (k : IntKind) (n : Int) (h0 : klo k ≤ n) (h1 : n ≤ khi k) : aw k n = n := by rw [aw_eq, wrap_in k n h0 h1]
@[simp] theorem keq_eq (a b : IntKind) : keq a b = decide (a = b) := by cases a <;> cases b <;> rfl
theorem inx_eq (n : Int) (l : Nat) : inx n l = if 0 ≤ n ∧ n < (l : Int) then some n.toNat else none := by
  cases n with
  | ofNat m =>
    show ite' (Nat.blt m l) (some m) none = _
    by_cases h : m < l
    · have : Nat.blt m l = true := by simpa [Nat.blt_eq] using h
      rw [this, if_pos (by simp; omega)]; rfl
    · have : Nat.blt m l = false := by rw [Bool.eq_false_iff]; simpa [Nat.blt_eq] using h
      rw [this, if_neg (by simp; omega)]; rfl
  | negSucc m =>
    rw [if_neg (by omega)]; rfl
theorem inx_some {n : Int} {l j : Nat} (h : inx n l = some j) : n = (j : Int) ∧ j < l := by
  rw [inx_eq] at h; split at h
  · rename_i hh; simp at h; omega
  · cases h
theorem bytesEq_iff (x y : List UInt8) : bytesEq x y = decide (x = y) := by
  induction x generalizing y with
  | nil => cases y with
    | nil => rfl
    | cons b y => show false = _; rw [Bool.eq_iff_iff]; simp
  | cons a x ih => cases y with
    | nil => show false = _; rw [Bool.eq_iff_iff]; simp
    | cons b y =>
      show ite' (Nat.beq a.toNat b.toNat) (bytesEq x y) false = _
      by_cases h : a = b
      · subst h
        have : Nat.beq a.toNat a.toNat = true := by simp
        rw [this]; simp [ih]
      · have : Nat.beq a.toNat b.toNat = false := by
          cases hb : Nat.beq a.toNat b.toNat with
          | false => rfl
          | true => exact absurd (UInt8.toNat_inj.1 (Nat.eq_of_beq_eq_true hb)) h
        rw [this]; show false = _; rw [Bool.eq_iff_iff]; simp [h]
theorem strEq_iff (a b : ByteArray) : strEq a b = decide (a = b) := by
  unfold strEq
  rw [bytesEq_iff, Bool.eq_iff_iff]
  simp only [decide_eq_true_eq]
  constructor
  · intro h; cases a; cases b; simp at h; exact congrArg ByteArray.mk (by cases h; rfl)
  · intro h; rw [h]

/-! ### what a value is -/
theorem asInt_some {v : AVal} {p : IntKind × Int} (h : asInt v = some p) : v = .int p.1 p.2 := by cases v <;> cases h; rfl
theorem asBool_some {v : AVal} {b : Bool} (h : asBool v = some b) : v = .bool b := by cases v <;> cases h; rfl
theorem asStr_some {v : AVal} {s : ByteArray} (h : asStr v = some s) : v = .str s := by cases v <;> cases h; rfl
theorem asPtr_some {v : AVal} {p : Nm × Nat} (h : asPtr v = some p) : v = .ptr p.1 p.2 := by cases v <;> cases h; rfl
theorem asMap_some {v : AVal} {a : Nat} (h : asMap v = some a) : v = .map a := by cases v <;> cases h; rfl
theorem asAgg_some {v : AVal} {cs : List AVal} (h : asAgg v = some cs) : v = .agg cs := by cases v <;> cases h; rfl
theorem asTup_some {v : AVal} {cs : List AVal} (h : asTup v = some cs) : v = .tup cs := by cases v <;> cases h; rfl
theorem asSl_some {v : AVal} {s : Sl} (h : asSl v = some s) : v = .slice s.a s.off s.len s.cap s.sz s.ex := by cases v <;> cases h; rfl
theorem isNilS_true {v : AVal} (h : isNilS v = true) : v = .nilSlice := by cases v <;> first | rfl | cases h
theorem rowOf_some {o : AObj} {r : Bool × Bool × List AVal} (h : rowOf o = some r) : o = .row r.1 r.2.1 r.2.2 := by cases o <;> cases h; rfl
theorem matOf_some {o : AObj} {r : Bool × List (Option (List AVal))} (h : matOf o = some r) : o = .mat r.1 r.2 := by cases o <;> cases h; rfl
theorem mapOf_some {o : AObj} {r : Bool × List (AVal × AVal)} (h : mapOf o = some r) : o = .map r.1 r.2 := by cases o <;> cases h; rfl
theorem loopOf_some {o : AObj} {r : LoopO} (h : loopOf o = some r) : o = .loop r.rw r.st r.tmps r.ps r.asg r.body r.pd := by cases o <;> cases h; rfl
theorem oneL_iff (l : List AVal) : oneL l = true ↔ ∀ v ∈ l, v.one = true := by
  induction l with
  | nil => simp [oneL]
  | cons x l ih =>
    have : oneL (x :: l) = andB x.one (oneL l) := rfl
    rw [this]; simp [ih]
theorem VR.one {ρ : Rho} {v : AVal} {x : Value} (h : VR ρ v x) (ho : v.one = true) : x.oneCell' = true ∧ x.cells = #[x] := by
  cases h <;> first | (cases ho; done) | exact ⟨rfl, rfl⟩
theorem VR.cells {ρ : Rho} {v : AVal} {x : Value} (h : VR ρ v x) (ho : oneL v.cells = true) : VRL ρ v.cells x.cells.toList ∧ ∀ u ∈ x.cells.toList, u.oneCell' = true := by
  have key : ∀ {l : List AVal} {l' : List Value}, VRL ρ l l' → oneL l = true → ∀ u ∈ l', u.oneCell' = true := by
    intro l
    induction l with
    | nil => intro l' h _; cases h; simp
    | cons y l ih => intro l' h ho; cases h with | cons _ _ _ _ h1 h2 =>
      have : andB y.one (oneL l) = true := ho
      simp at this
      intro u hu; simp at hu
      rcases hu with rfl | hu
      · exact (h1.one this.1).1
      · exact ih h2 this.2 u hu
  by_cases ha : ∃ cs, v = .agg cs
  · obtain ⟨cs, rfl⟩ := ha
    cases h with | agg _ xs' h => exact ⟨h, key h ho⟩
  · have hc : v.cells = [v] := by cases v <;> first | rfl | exact absurd ⟨_, rfl⟩ ha
    rw [hc] at ho ⊢
    have h1 : v.one = true := by have : andB v.one true = true := ho; simpa using this
    obtain ⟨h2, h3⟩ := h.one h1
    rw [h3]; exact ⟨.cons _ _ _ _ h .nil, by simpa using h2⟩

/-! ### operators -/
section ops
variable {P : Program} {w : World}
theorem byteArray_toList (a b : ByteArray) : (a.toList == b.toList) = decide (a = b) := by
  rw [Bool.eq_iff_iff]; simp only [beq_iff_eq, decide_eq_true_eq]
  constructor
  · intro h
    have h1 : a.data.toList = b.data.toList := by simpa [ByteArray.toList_eq] using h
    cases a; cases b; simp at h1; exact congrArg ByteArray.mk (by cases h1; rfl)
  · intro h; rw [h]
theorem ibin_run {op : BinOp} {k : IntKind} {x y : Int} {v : AVal} (h : ibin op k x y = some v) (t : TypeId) (X Y : Operand) :
    ∃ u, (do eqGuard op t X Y (.int k x) (.int k y); binOp op t (.int k x) (.int k y)).run P w = .ok u w ∧ ∀ ρ, VR ρ v u := by
  cases op <;> simp only [ibin] at h <;> first
    | (cases h; done)
    | (obtain ⟨h0, h⟩ := ite'_none h; cases h
       have h0 : ¬ y = 0 := by simpa using h0
       refine ⟨_, ?_, fun ρ => .int _ _⟩
       simp [Op.intDiv, h0, eqGuard, binOp, aw_eq, bind, Sem.bind, pure, Sem.run]
       done)
    | (cases h; refine ⟨_, ?_, fun ρ => .int _ _⟩
       simp [eqGuard, binOp, Op.intArith, aw_eq, bind, Sem.bind, pure, Sem.run]; done)
    | (cases h; refine ⟨_, ?_, fun ρ => .bool _⟩
       simp [eqGuard, binOp, Op.intCmp, bind, Sem.bind, pure, Sem.run]
       try (first | rfl | (rw [Bool.eq_iff_iff]; simp)); done)
    | (cases h; exact ⟨_, rfl, fun ρ => .int _ _⟩)
    | (cases h; refine ⟨_, ?_, fun ρ => .int _ _⟩
       simp [eqGuard, binOp, Op.intBits, iand, ior, ixor, bind, Sem.bind, pure, Sem.run]; done)
    | (obtain ⟨h0, h⟩ := ite'_some h; cases h
       have h0 : ¬ y < 0 := by simp at h0; omega
       refine ⟨_, ?_, fun ρ => .int _ _⟩
       simp [Op.shift, h0, eqGuard, binOp, ishl, ishr, bind, Sem.bind, pure, Sem.run]
       done)
theorem sbin_run {op : BinOp} {x y : ByteArray} {v : AVal} (h : sbin op x y = some v) (t : TypeId) (X Y : Operand) :
    ∃ u, (do eqGuard op t X Y (.string x) (.string y); binOp op t (.string x) (.string y)).run P w = .ok u w ∧ ∀ ρ, VR ρ v u := by
  cases op <;> simp only [sbin] at h <;> first
    | (cases h; done)
    | skip
  · obtain ⟨h0, h⟩ := ite'_some h; cases h
    have h0 : x.size + y.size < 1000000000000 := by simpa [Nat.blt_eq] using h0
    refine ⟨_, ?_, fun ρ => .str _⟩
    have h1 : (x.size : Int) + (y.size : Int) ≤ 9223372036854775807 := by omega
    simp [eqGuard, binOp, Op.stringOp, bind, Sem.bind, pure, Sem.run]
    exact h1
  · cases h; refine ⟨_, ?_, fun ρ => .bool _⟩
    simp [eqGuard, binOp, Op.stringOp, bind, Sem.bind, pure, Sem.run]
    rw [byteArray_toList, strEq_iff]
  · cases h; refine ⟨_, ?_, fun ρ => .bool _⟩
    simp [eqGuard, binOp, Op.stringOp, bind, Sem.bind, pure, Sem.run]
    rw [byteArray_toList, strEq_iff]
theorem abin_run {op : BinOp} {a b v : AVal} {x y : Value} {ρ : Rho} (h : abin op a b = some v) (ha : VR ρ a x) (hb : VR ρ b y) (t : TypeId) (X Y : Operand) :
    ∃ u, (do eqGuard op t X Y x y; binOp op t x y).run P w = .ok u w ∧ ∀ ρ, VR ρ v u := by
  unfold abin at h
  cases hi : asInt a with
  | some p =>
    rw [hi] at h
    obtain ⟨q, hq, h1⟩ := ob_eq h; clear h
    obtain ⟨hk, h2⟩ := ite'_some h1; clear h1
    have hk : p.1 = q.1 := by simpa using hk
    have e1 := asInt_some hi; have e2 := asInt_some hq; clear hi hq
    obtain ⟨k, x⟩ := p; obtain ⟨k', y⟩ := q
    subst e1 e2; cases ha; cases hb
    cases hk; exact ibin_run h2 t X Y
  | none =>
    rw [hi] at h
    obtain ⟨s, hs, h1⟩ := ob_eq h; clear h
    obtain ⟨s', hs', h2⟩ := ob_eq h1; clear h1
    have e1 := asStr_some hs; have e2 := asStr_some hs'; clear hs hs' hi
    subst e1 e2; cases ha; cases hb
    exact sbin_run h2 t X Y
theorem aun_run {op : UnOp} {a v : AVal} {x : Value} {ρ : Rho} (h : aun op a = some v) (ha : VR ρ a x) : ∃ u, (Op.unary op x).run P w = .ok u w ∧ ∀ ρ, VR ρ v u := by
  cases op <;> simp only [aun] at h <;> first
    | (cases h; done)
    | skip
  all_goals obtain ⟨p, hp, h⟩ := ob_eq h
  all_goals first
    | (have e := asBool_some hp; subst e; cases h; cases ha; exact ⟨_, rfl, fun ρ => by rw [notB_eq]; exact .bool _⟩)
    | (have e := asInt_some hp; subst e; cases h; cases ha
       exact ⟨_, rfl, fun ρ => by rw [aw_eq]; exact .int _ _⟩)
theorem minmax2_run {mx : Bool} {a b v : AVal} {x y : Value} {ρ : Rho} (h : minmax2 mx a b = some v) (ha : VR ρ a x) (hb : VR ρ b y) :
    ∃ u, (if mx then Builtin.max2 x y else Builtin.min2 x y).run P w = .ok u w ∧ VR ρ v u := by
  obtain ⟨p, hp, h1⟩ := ob_eq h; clear h
  obtain ⟨q, hq, h2⟩ := ob_eq h1; clear h1
  obtain ⟨hk, h3⟩ := ite'_some h2; clear h2
  have hk : p.1 = q.1 := by simpa using hk
  have e1 := asInt_some hp; have e2 := asInt_some hq; clear hp hq
  obtain ⟨k, i⟩ := p; obtain ⟨k', j⟩ := q
  subst e1 e2; cases ha; cases hb; cases h3
  cases mx with
  | true =>
    refine ⟨_, rfl, ?_⟩
    simp only [ile_eq, ite'_true]
    by_cases hc : j ≤ i
    · rw [if_neg (by omega)]; simp [hc]; exact .int _ _
    · rw [if_pos (by omega)]; simp [hc]; exact .int _ _
  | false =>
    refine ⟨_, rfl, ?_⟩
    simp only [ile_eq, ite'_false]
    by_cases hc : i ≤ j
    · rw [if_neg (by omega)]; simp [hc]; exact .int _ _
    · rw [if_pos (by omega)]; simp [hc]; exact .int _ _
end ops
end Go.AI
