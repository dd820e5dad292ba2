/-
  WHAT COMES IN: arguments of plain data, read as numbers, strings, lists; rows that are read alone.
-/
import Derived.Test.YtcghmpalmedkiaaLAiY
import Derived.Deep.Slices
import Derived.Below
set_option linter.unusedVariables false
set_option linter.unusedSimpArgs false
namespace Go.AI
inductive PK where
  | int (k : IntKind)
  | bool
  | str
  deriving DecidableEq
def PIn : PK → Value → Prop
  | .int k, x => ∃ n, x = .int k n ∧ k.min ≤ n ∧ n ≤ k.max
  | .bool, x => ∃ b, x = .bool b
  | .str, x => ∃ s : ByteArray, x = .string s ∧ s.size ≤ maxLen
inductive PIns : List PK → List Value → Prop
  | nil : PIns [] []
  | cons {k : PK} {ks : List PK} {x : Value} {xs : List Value} (h : PIn k x) (hs : PIns ks xs) : PIns (k :: ks) (x :: xs)
inductive AK where
  | p (k : PK)
  | sl (ks : List PK)
  | sls (ks : List PK)
  deriving DecidableEq
def SlIn (w : World) (ks : List PK) (x : Value) : Prop := ∃ A len cap b o, x = .slice A len cap ∧ len ≤ cap ∧ cap ≤ maxLen ∧ (0 < cap → A = some ⟨b, o, none⟩) ∧
  ∀ i, i < len → ∃ cs, (∀ j c, cs[j]? = some c → w.cell? ⟨b, o + (i * ks.length + j), none⟩ = some c) ∧ PIns ks cs
def SlsIn (w : World) (ks : List PK) (x : Value) : Prop := ∃ A len cap b o, x = .slice A len cap ∧ len ≤ cap ∧ cap ≤ maxLen ∧ (0 < cap → A = some ⟨b, o, none⟩) ∧
  ∀ i, i < len → ∃ c, w.cell? ⟨b, o + i, none⟩ = some c ∧ SlIn w ks c
def AIn (w : World) : AK → Value → Prop
  | .p k, x => PIn k x
  | .sl ks, x => SlIn w ks x
  | .sls ks, x => SlsIn w ks x
inductive AIns (w : World) : List AK → List Value → Prop
  | nil : AIns w [] []
  | cons {k : AK} {ks : List AK} {x : Value} {xs : List Value} (h : AIn w k x) (hs : AIns w ks xs) : AIns w (k :: ks) (x :: xs)
theorem PIns.length {ks : List PK} {xs : List Value} (h : PIns ks xs) : ks.length = xs.length := by
  induction h with
  | nil => rfl
  | cons _ _ ih => simp [ih]
theorem AIns.length {w : World} {ks : List AK} {xs : List Value} (h : AIns w ks xs) : ks.length = xs.length := by
  induction h with
  | nil => rfl
  | cons _ _ ih => simp [ih]
theorem AIns.append {w : World} {ks ks' : List AK} {xs xs' : List Value} (h : AIns w ks xs) (h' : AIns w ks' xs') : AIns w (ks ++ ks') (xs ++ xs') := by
  induction h with
  | nil => exact h'
  | cons h1 _ ih => exact .cons h1 ih
theorem AIns.prims {w : World} {ks : List PK} {xs : List Value} (h : AIns w (ks.map .p) xs) : PIns ks xs := by
  induction ks generalizing xs with
  | nil => cases h; exact .nil
  | cons k ks ih => cases h with | cons h1 h2 => exact .cons h1 (ih h2)
/-! ### the types, checked -/
def fldsOk (f : TypeId → List AK → Bool) (P : Program) : List Field → Nat → List AK → Bool
  | [], _, l => l.isEmpty
  | g :: gs, at_, l => (g.offset == at_) && f g.type (l.take (P.cellsOf g.type)) && decide (P.cellsOf g.type ≤ l.length) && fldsOk f P gs (at_ + P.cellsOf g.type) (l.drop (P.cellsOf g.type))
def argOk (P : Program) : Nat → TypeId → List AK → Bool
  | 0, _, _ => false
  | n + 1, t, l => decide (P.cellsOf t = l.length) && match P.underlying t with
    | some (.int k) => decide (l = [.p (.int k)])
    | some .bool => decide (l = [.p .bool])
    | some .string => decide (l = [.p .str])
    | some (.struct fs) => fldsOk (argOk P n) P fs.toList 0 l
    | some (.array m e) => decide (m * P.cellsOf e = l.length) && (List.range m).all fun i => argOk P n e ((l.drop (i * P.cellsOf e)).take (P.cellsOf e))
    | some (.slice e) => match l with
      | [.sl ks] => decide (0 < ks.length) && argOk P n e (ks.map .p)
      | [.sls ks] => (match P.underlying e with | some (.slice e2) => decide (0 < ks.length) && argOk P n e2 (ks.map .p) && decide (P.cellsOf e = 1) | _ => false)
      | _ => false
    | _ => false
section
variable {H : Type} {enc : TypeId × Value → H} {P : Program} {w : World}
open Go.Deep Go.RowKit
theorem flds_open {f : TypeId → List AK → Bool} {n : Nat} (hf : ∀ t l cs x, f t l = true → DataW.trod enc P w 0 (fun _ => true) true n t cs = some x → AIns w l cs) :
    ∀ (gs : List Field) (at_ : Nat) (l : List AK) (cs : List Value), fldsOk f P gs at_ l = true → (∀ g ∈ gs, ∃ x, DataW.trod enc P w 0 (fun _ => true) true n g.type ((cs.drop g.offset).take (P.cellsOf g.type)) = some x) →
      cs.length = at_ + l.length → AIns w l (cs.drop at_) := by
  intro gs
  induction gs with
  | nil =>
    intro at_ l cs h _ hl
    cases l with
    | nil => rw [List.drop_eq_nil_of_le (by simp at hl; omega)]; exact .nil
    | cons _ _ => cases h
  | cons g gs ih =>
    intro at_ l cs h hx hl
    simp only [fldsOk, Bool.and_eq_true, beq_iff_eq, decide_eq_true_eq] at h
    obtain ⟨⟨⟨h1, h2⟩, h3⟩, h4⟩ := h
    obtain ⟨x, hx0⟩ := hx g (.head _)
    have k1 := hf _ _ _ _ h2 hx0
    have k2 := ih (at_ + P.cellsOf g.type) _ cs h4 (fun g' hg => hx g' (.tail _ hg)) (by rw [List.length_drop]; omega)
    rw [h1] at k1
    have := k1.append k2
    rw [List.take_append_drop] at this
    rw [← List.drop_drop, List.take_append_drop] at this
    exact this
theorem arr_open {f : List AK → Bool} {e : TypeId} {n z : Nat} (hf : ∀ l cs x, f l = true → DataW.trod enc P w 0 (fun _ => true) true n e cs = some x → AIns w l cs) :
    ∀ (m : Nat) (l : List AK) (cs : List Value), l.length = m * z → cs.length = m * z → (∀ i, i < m → f ((l.drop (i * z)).take z) = true) → (∀ i, i < m → ∃ x, DataW.trod enc P w 0 (fun _ => true) true n e ((cs.drop (i * z)).take z) = some x) → AIns w l cs := by
  intro m
  induction m with
  | zero =>
    intro l cs h1 h2 _ _
    have := List.eq_nil_of_length_eq_zero (by simpa using h1)
    have h := List.eq_nil_of_length_eq_zero (by simpa using h2)
    subst this; subst h; exact .nil
  | succ m ih =>
    intro l cs h1 h2 h3 h4
    obtain ⟨x, hx⟩ := h4 0 (by omega)
    have k1 := hf _ _ _ (h3 0 (by omega)) hx
    simp only [Nat.zero_mul, List.drop_zero] at k1
    rw [Nat.add_mul] at h1 h2
    have k2 := ih (l.drop z) (cs.drop z) (by rw [List.length_drop]; omega) (by rw [List.length_drop]; omega)
      (fun i hi => by have := h3 (i + 1) (by omega); rw [List.drop_drop]; rw [Nat.add_mul, Nat.one_mul, Nat.add_comm] at this; exact this)
      (fun i hi => by have := h4 (i + 1) (by omega); rw [List.drop_drop]; rw [Nat.add_mul, Nat.one_mul, Nat.add_comm] at this; exact this)
    have := k1.append k2
    rwa [List.take_append_drop, List.take_append_drop] at this
theorem trod_array {n m : Nat} {t e : TypeId} {cs : List Value} {x : DataW H × List MemPlace} (ht : P.underlying t = some (.array m e)) (h : DataW.trod enc P w 0 (fun _ => true) true (n + 1) t cs = some x) :
    cs.length = P.cellsOf t ∧ ∀ i, i < m → ∃ y, DataW.trod enc P w 0 (fun _ => true) true n e ((cs.drop (i * P.cellsOf e)).take (P.cellsOf e)) = some y := by
  unfold DataW.trod at h
  rw [ht] at h
  split at h <;> simp_all
  obtain ⟨hl, xs, hp, hd⟩ := h
  intro i hi
  have h1 := mapM_some_get hp i i (by simp [hi])
  have h2 := mapM_some_length hp
  rw [List.length_range] at h2
  have h3 : xs[i]? = some xs[i] := List.getElem?_eq_getElem (by omega)
  rw [h3] at h1
  exact ⟨_, _, h1⟩
theorem sl_open {n : Nat} {t e : TypeId} {ks : List PK} {cs : List Value} {x : DataW H × List MemPlace} (hf : ∀ l cs x, argOk P n e l = true → (∃ m, DataW.trod enc P w 0 (fun _ => true) true m e cs = some x) → AIns w l cs)
    (ht : P.underlying t = some (.slice e)) (h0 : 0 < ks.length) (hk : argOk P n e (ks.map .p) = true) {fuel : Nat} (h : DataW.trod enc P w 0 (fun _ => true) true fuel t cs = some x) : ∃ y, cs = [y] ∧ SlIn w ks y := by
  have hz : P.cellsOf e = ks.length := by
    cases n with
    | zero => cases hk
    | succ n => simp only [argOk, Bool.and_eq_true, decide_eq_true_eq] at hk; simpa using hk.1
  rcases open_slice ht h with ⟨rfl, _⟩ | ⟨a, len, cap, m, n', D, Pl, rfl, _, hl, hm, hme, _, hall⟩
  · exact ⟨_, rfl, none, 0, 0, 0, 0, rfl, Nat.le_refl _, Nat.zero_le _, fun h => absurd h (by omega), fun i hi => absurd hi (by omega)⟩
  · rw [if_pos rfl] at hme
    subst hme
    obtain ⟨b, o, sp⟩ := a
    have hsp : 0 < m → sp = none := fun hm0 => by
      obtain ⟨cs', hc, _⟩ := hall 0 hm0
      obtain ⟨_, hlen, hcell⟩ := World.cells?_some hc
      have h1 := hcell 0 (by omega)
      have h2 : cs'[0]? = some cs'[0] := List.getElem?_eq_getElem (by omega)
      rw [h2] at h1
      have := World.cell?_spot h1
      simpa [Addr.add] using this
    refine ⟨_, rfl, _, len, m, b, o, rfl, hl, hm, fun hm0 => by rw [hsp hm0], fun i hi => ?_⟩
    obtain ⟨cs', hc, hd⟩ := hall i (by omega)
    obtain ⟨_, hlen, hcell⟩ := World.cells?_some hc
    rw [hsp (by omega)] at hcell
    refine ⟨cs', fun j c hj => ?_, (hf _ _ _ hk ⟨_, hd⟩).prims⟩
    have hjl : j < cs'.length := (List.getElem?_eq_some_iff.1 hj).1
    have h1 := hcell j (by omega)
    rw [hj] at h1
    rw [add_none, add_none, hz] at h1
    rw [← h1]; congr 2; omega
theorem arg_open : ∀ (n : Nat) (t : TypeId) (l : List AK) (cs : List Value) (x : DataW H × List MemPlace) (fuel : Nat), argOk P n t l = true → DataW.trod enc P w 0 (fun _ => true) true fuel t cs = some x → AIns w l cs := by
  intro n
  induction n with
  | zero => intro t l cs x fuel h; cases h
  | succ n ih =>
    intro t l cs x fuel h hd
    simp only [argOk, Bool.and_eq_true, decide_eq_true_eq] at h
    obtain ⟨hlen, h⟩ := h
    split at h
    · rename_i k hu
      simp only [decide_eq_true_eq] at h; subst h
      obtain ⟨v, rfl, _, hw⟩ := DataW.trod_int hu hd
      simp only [Lit.wf, Bool.and_eq_true, decide_eq_true_eq] at hw
      exact .cons ⟨v, rfl, hw.1, hw.2⟩ .nil
    · rename_i hu
      simp only [decide_eq_true_eq] at h; subst h
      obtain ⟨v, rfl, _⟩ := DataW.trod_bool hu hd
      exact .cons ⟨v, rfl⟩ .nil
    · rename_i hu
      simp only [decide_eq_true_eq] at h; subst h
      obtain ⟨v, rfl, _, hw⟩ := DataW.trod_string hu hd
      exact .cons ⟨v, rfl, hw⟩ .nil
    · rename_i fs hu
      obtain ⟨xs, m, _, _, hl, hxl, hf⟩ := DataW.trod_struct hu hd
      have := flds_open (n := m) (fun t l cs x h1 h2 => ih t l cs x m h1 h2) fs.toList 0 l cs h (fun g hg => by
        obtain ⟨i, hi⟩ := List.getElem?_of_mem hg
        have hi' : fs[i]? = some g := by simpa using hi
        have h1 := hf i g hi'
        have h2 : i < xs.length := by rw [hxl]; exact (Array.getElem?_eq_some_iff.1 hi').1
        rw [List.getElem?_eq_getElem h2] at h1
        exact ⟨_, h1⟩) (by rw [hl, hlen]; omega)
      simpa using this
    · rename_i m e hu
      simp only [Bool.and_eq_true, decide_eq_true_eq, List.all_eq_true, List.mem_range] at h
      cases fuel with
      | zero => simp [DataW.trod] at hd
      | succ fuel =>
        obtain ⟨hl, hx⟩ := trod_array hu hd
        exact arr_open (n := fuel) (z := P.cellsOf e) (fun l cs x h1 h2 => ih e l cs x fuel h1 h2) m l cs h.1.symm (by rw [hl, hlen]; exact h.1.symm) h.2 hx
    · rename_i e hu
      split at h
      · rename_i ks
        simp only [Bool.and_eq_true, decide_eq_true_eq] at h
        obtain ⟨y, rfl, hy⟩ := sl_open (n := n) (fun l cs x h1 ⟨m, h2⟩ => ih e l cs x m h1 h2) hu h.1 h.2 hd
        exact .cons hy .nil
      · rename_i ks
        split at h
        · rename_i e2 hu2
          simp only [Bool.and_eq_true, decide_eq_true_eq] at h
          obtain ⟨⟨h1, h2⟩, h3⟩ := h
          rcases open_slice hu hd with ⟨rfl, _⟩ | ⟨a, len, cap, m, n', D, Pl, rfl, _, hl, hm, hme, _, hall⟩
          · exact .cons ⟨none, 0, 0, 0, 0, rfl, Nat.le_refl _, Nat.zero_le _, fun h => absurd h (by omega), fun i hi => absurd hi (by omega)⟩ .nil
          · rw [if_pos rfl] at hme
            subst hme
            rw [h3] at hall
            obtain ⟨b, o, sp⟩ := a
            have hsp : 0 < m → sp = none := fun hm0 => by
              obtain ⟨cs', hc, _⟩ := hall 0 hm0
              obtain ⟨_, hlen, hcell⟩ := World.cells?_some hc
              have h1 := hcell 0 (by omega)
              have h2 : cs'[0]? = some cs'[0] := List.getElem?_eq_getElem (by omega)
              rw [h2] at h1
              have := World.cell?_spot h1
              simpa [Addr.add] using this
            refine .cons ⟨_, len, m, b, o, rfl, hl, hm, fun hm0 => by rw [hsp hm0], fun i hi => ?_⟩ .nil
            obtain ⟨cs', hc, hd'⟩ := hall i (by omega)
            obtain ⟨_, hlen, hcell⟩ := World.cells?_some hc
            rw [hsp (by omega)] at hcell
            obtain ⟨y, rfl, hy⟩ := sl_open (n := n) (fun l cs x h1 ⟨m, h2⟩ => ih e2 l cs x m h1 h2) hu2 h1 h2 hd'
            refine ⟨y, ?_, hy⟩
            have := hcell 0 (by omega)
            simp only [Nat.mul_one] at this
            rw [add_none, add_none] at this
            simpa using this
        · cases h
      · cases h
    · cases h
theorem arg_cells {n : Nat} {t : TypeId} {l : List AK} {v : Value} {d : DataW H} {p : List MemPlace} (h : argOk P n t l = true) (hd : DataW.Trod enc P w 0 (fun _ => true) true t v d p) : AIns w l v.cells.toList := by
  obtain ⟨fuel, hd⟩ := hd
  exact arg_open n t l _ _ fuel h hd
theorem agg_cells {r : Reach} {base : Nat} {t : TypeId} {v : Value} (hv : Value.okWide P w r base t v) (ht : (match P.underlying t with | some (.struct _) | some (.array _ _) => true | _ => false) = true) : ∃ cs : Array Value, v = .agg cs ∧ v.cells.toList = cs.toList := by
  unfold Value.okWide at hv
  split at hv
  · obtain ⟨cs, rfl, _⟩ := hv; exact ⟨cs, rfl, rfl⟩
  · obtain ⟨cs, rfl, _⟩ := hv; exact ⟨cs, rfl, rfl⟩
  · rename_i h1 h2
    split at ht
    · rename_i hu; exact absurd hu (h1 _)
    · rename_i hu; exact absurd hu (h2 _ _)
    · cases ht
theorem AIns.head {w : World} {k : AK} {ks : List AK} {xs : List Value} (h : AIns w (k :: ks) xs) : ∃ x ys, xs = x :: ys ∧ AIn w k x ∧ AIns w ks ys := by
  cases h with | cons h1 h2 => exact ⟨_, _, rfl, h1, h2⟩
theorem AIns.tail0 {w : World} {xs : List Value} (h : AIns w [] xs) : xs = [] := by cases h; rfl
theorem sl_cell {w : World} {ks : List PK} {A : Option Addr} {l c : Nat} (h : AIns w [.sl ks] (Value.slice A l c).cells.toList) : SlIn w ks (.slice A l c) := by
  obtain ⟨x, ys, e, h1, _⟩ := h.head
  have : Value.slice A l c = x := by simpa [Value.cells] using congrArg List.head? e
  subst this; exact h1
/-! ### typed lists -/
class Rd (α : Type) extends Cell α where
  ks : List PK
  good : α → Prop
  hk : ks.length = Cell.k α
  build : ∀ cs, PIns ks cs → ∃ x : α, good x ∧ (∀ ρ, VRL ρ (Cell.enc x) cs) ∧ ∀ c ∈ cs, c.oneCell' = true
def i64 (n : Int) : Prop := -9223372036854775808 ≤ n ∧ n ≤ 9223372036854775807
instance : Rd Int where
  ks := [.int .i64]
  good := i64
  hk := rfl
  build cs h := by
    cases h with | cons h1 h2 => cases h2; obtain ⟨n, rfl, h3, h4⟩ := h1; exact ⟨n, ⟨h3, h4⟩, fun ρ => .cons _ _ _ _ (.int _ _) .nil, by simp [Value.oneCell']⟩
def RowIn (w : World) (g : Geo) (cs : List AVal) : Prop := g.ok = true ∧ g.own = false ∧ AVal.flatL cs = true ∧ ∀ i v, cs[i]? = some v → ∃ x, w.cell? ⟨g.b, g.o + i, none⟩ = some x ∧ x.oneCell' = true ∧ ∀ ρ, VR ρ v x
theorem list_open {α : Type} [Rd α] {x : Value} (h : SlIn w (Rd.ks α) x) : ∃ (l : List α) (g : Geo), (∀ y ∈ l, Rd.good y) ∧ l.length ≤ maxLen ∧ RowIn w g (rowC l) ∧ ∀ (ρ : Rho) (a : Nat), ρ.g (.p a) = g → a < ρ.n → VR ρ (.slice (.p a) 0 l.length l.length (Cell.k α) false) x := by
  obtain ⟨A, len, cap, b, o, rfl, hl, hm, hA, hall⟩ := h
  have hx : ∀ i, i < len → ∃ y : α, Rd.good y ∧ ∀ c v, (Cell.enc y)[c]? = some v → ∃ z, w.cell? ⟨b, o + (i * Cell.k α + c), none⟩ = some z ∧ z.oneCell' = true ∧ ∀ ρ, VR ρ v z := fun i hi => by
    obtain ⟨cs, h1, h2⟩ := hall i hi
    obtain ⟨y, h3, h4, h5⟩ := Rd.build cs h2
    refine ⟨y, h3, fun c v hc => ?_⟩
    have hR : Rho := ⟨0, fun _ => ⟨0, 0, 0, false, false⟩⟩
    obtain ⟨z, hz, _⟩ := (h4 hR).get hc
    have := h1 c z hz
    rw [Rd.hk] at this
    exact ⟨z, this, h5 z (List.mem_of_getElem? hz), fun ρ => by obtain ⟨z', hz', hr⟩ := (h4 ρ).get hc; rw [hz] at hz'; cases hz'; exact hr⟩
  have key : ∀ m, m ≤ len → ∃ l : List α, l.length = m ∧ (∀ y ∈ l, Rd.good y) ∧ ∀ i v, (rowC l)[i]? = some v → ∃ x, w.cell? ⟨b, o + i, none⟩ = some x ∧ x.oneCell' = true ∧ ∀ ρ, VR ρ v x := by
    intro m
    induction m with
    | zero => intro _; exact ⟨[], rfl, (fun y hy => by cases hy), (fun i v hv => by simp at hv)⟩
    | succ m ih =>
      intro hm'
      obtain ⟨l, h1, h2, h3⟩ := ih (by omega)
      obtain ⟨y, h4, h5⟩ := hx m (by omega)
      refine ⟨l ++ [y], by simp [h1], fun z hz => ?_, fun i v hv => ?_⟩
      · rcases List.mem_append.1 hz with hz | hz
        · exact h2 z hz
        · simp at hz; subst hz; exact h4
      · rw [rowC_append] at hv
        by_cases hi : i < (rowC l).length
        · rw [List.getElem?_append_left hi] at hv; exact h3 i v hv
        · rw [List.getElem?_append_right (by omega)] at hv
          rw [rowC_length, h1] at hi hv
          have hy : rowC [y] = Cell.enc y := by rw [rowC_cons]; simp
          rw [hy] at hv
          obtain ⟨z, hz1, hz2, hz3⟩ := h5 _ _ hv
          rw [show m * Cell.k α + (i - m * Cell.k α) = i from by omega] at hz1
          exact ⟨z, hz1, hz2, hz3⟩
  obtain ⟨l, h1, h2, h3⟩ := key len (Nat.le_refl _)
  refine ⟨l, ⟨b, o, 0, false, true⟩, h2, by omega, ⟨rfl, rfl, rowC_flat l, h3⟩, fun ρ a ha hn => ?_⟩
  rw [h1]
  exact .slice _ _ _ _ _ _ A cap ⟨hn, by rw [base_p, ha], by rw [ha]⟩ hl (fun h => by cases h) (fun h => by rw [ha]; simpa using hA h) (fun h => by rw [ha] at h; cases h) hl
theorem rows_SR {C : ACode → Code → Nat → Prop} {gs : List (Geo × List AVal)} (h : ∀ p ∈ gs, RowIn w p.1 p.2) :
    SR C ⟨gs.length, fun a => match a with | .p a => (match gs[a]? with | some p => p.1 | none => ⟨0, 0, 0, false, false⟩) | .v _ _ => ⟨0, 0, 0, false, false⟩⟩ (gs.map fun p => .row false true p.2) w := by
  have hv : ∀ a i, inner i (hget (gs.map fun p => AObj.row false true p.2) a) = .dead := fun a i => by
    rw [hget_eq, List.getElem?_map]
    cases gs[a]? <;> rfl
  have hro : ∀ a, (nget (gs.map fun p => AObj.row false true p.2) a).isRw = false := fun a => by
    cases a with
    | v a i => rw [nget_v, hv]; rfl
    | p a =>
      rw [nget_p, hget_eq, List.getElem?_map]
      cases gs[a]? with
      | none => rfl
      | some p => rfl
  refine ⟨by simp, fun a => ?_, fun a c _ ha => by rw [hro a] at ha; cases ha⟩
  cases a with
  | v a i => rw [nget_v, hv]; trivial
  | p a =>
  rw [nget_p, hget_eq, List.getElem?_map]
  cases hg : gs[a]? with
  | none => trivial
  | some p =>
    obtain ⟨h1, h2, h3, h4⟩ := h p (List.mem_of_getElem? hg)
    show RowR _ _ false true p.2 w
    simp only [hg]
    exact ⟨fun i v hv => by obtain ⟨x, k1, k2, k3⟩ := h4 i v hv; exact ⟨x, k1, k2, k3 _⟩, fun _ => h3, (fun h => by cases h), fun h => by cases h⟩
theorem ro_rows (l : List (List AVal)) (a : Nm) : (nget (l.map fun c => AObj.row false true c) a).isRw = false := by
  cases a with
  | p a =>
    rw [nget_p, hget_eq, List.getElem?_map]
    cases l[a]? <;> rfl
  | v a i =>
    rw [nget_v, hget_eq, List.getElem?_map]
    cases l[a]? <;> rfl
theorem run_below {C : ACode → Code → Nat → Prop} {f : FuncId} {args : List AVal} {H H' : Heap} {v : AVal} (hr : RunOK C P f args H v H') (hro : ∀ a, (nget H a).isRw = false) {ρ : Rho} {xs : List Value} (hx : VRL ρ args xs) (hs : SR C ρ H w) :
    Calls P f xs.toArray w fun e w' => (∃ x ρ', e = .returned x ∧ VR ρ' v x) ∧ Below w.heap.size w w' := by
  refine (callsIn_wide.1 (hr ρ w xs hx hs)).mono ?_
  rintro e w' ⟨x, ρ', rfl, h1, h2, _⟩
  exact ⟨⟨x, ρ', rfl, h1⟩, h2.os, h2.tape, h2.output, h2.size, fun k hk => h2.frame k hk fun a ha => by rw [hro a] at ha; cases ha⟩
end
end Go.AI
