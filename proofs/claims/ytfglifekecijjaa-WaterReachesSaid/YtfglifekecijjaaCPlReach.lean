/-
  VALID NETS; MARKS THAT SPREAD; THE PLAIN LAW OF WaterReaches.
-/
import Derived.Test.YtfglifekecijjaaCPlFew
set_option linter.unusedVariables false
set_option linter.unusedSimpArgs false
namespace Go.AI
/-! what holds in a valid net -/
structure NodeOk (x : WaterNode) : Prop where
  lake : x.fLake = true → (0 ≤ x.fHead ∧ x.fHead ≤ 1000000) ∧ x.fDraw = 0
  junc : x.fLake = false → (-10000 ≤ x.fDraw ∧ x.fDraw ≤ 10000) ∧ x.fHead = 0
structure CondOk (n : Nat) (x : WaterConduit) : Prop where
  f0 : 0 ≤ x.fFrom
  f1 : x.fFrom < n
  t0 : 0 ≤ x.fTo
  t1 : x.fTo < n
  ne : x.fFrom ≠ x.fTo
  r0 : 0 ≤ x.fResist
  r1 : x.fResist ≤ 1000
  vo : x.fValve = true ∨ x.fOpen = true
structure NetOk (ns : List WaterNode) (cs : List WaterConduit) : Prop where
  n0 : 0 < ns.length
  n1 : ns.length ≤ 10
  c0 : 0 < cs.length
  c1 : cs.length ≤ 14
  nodes : ∀ x ∈ ns, NodeOk x
  conds : ∀ c ∈ cs, CondOk ns.length c
theorem nodeE_ok {x : WaterNode} {l : List ByteArray} (h : nodeE x l = 0) : NodeOk x := by
  unfold nodeE at h
  by_cases a : nameOk x.fName = true
  · by_cases b : hasB x.fName l = true
    · simp [a, b] at h
    · cases c : x.fLake
      · refine ⟨fun e => by simp [c] at e, fun _ => ?_⟩
        by_cases d : -10000 ≤ x.fDraw ∧ x.fDraw ≤ 10000
        · by_cases e : x.fHead = 0
          · exact ⟨d, e⟩
          · simp [a, b, c, d, e] at h
        · simp [a, b, c, d] at h
      · refine ⟨fun _ => ?_, fun e => by simp [c] at e⟩
        by_cases d : 0 ≤ x.fHead ∧ x.fHead ≤ 1000000
        · by_cases e : x.fDraw = 0
          · exact ⟨d, e⟩
          · simp [a, b, c, d, e] at h
        · simp [a, b, c, d] at h
  · simp [a] at h
theorem condE_ok {x : WaterConduit} {n : Nat} {l : List ByteArray} (h : condE x n l = 0) : CondOk n x := by
  unfold condE at h
  by_cases a : nameOk x.fName = true
  · by_cases b : hasB x.fName l = true
    · simp [a, b] at h
    · by_cases c : (0 ≤ x.fFrom ∧ x.fFrom ≤ (n : Int) - 1) ∧ (0 ≤ x.fTo ∧ x.fTo ≤ (n : Int) - 1)
      · by_cases d : x.fFrom = x.fTo
        · simp only [a, b, c, d, if_true, if_false] at h; simp at h
        · by_cases e : 0 ≤ x.fResist ∧ x.fResist ≤ 1000
          · by_cases g : x.fValve = true ∨ x.fOpen = true
            · exact ⟨c.1.1, by omega, c.2.1, by omega, d, e.1, e.2, g⟩
            · rw [if_pos a, if_neg b, if_pos c, if_neg d, if_pos e, if_neg g] at h; cases h
          · rw [if_pos a, if_neg b, if_pos c, if_neg d, if_neg e] at h; cases h
      · rw [if_pos a, if_neg b, if_neg c] at h; cases h
  · simp [a] at h
theorem netLoop_ok {ns : List WaterNode} {u : Unit} (h : netLoop ns = .inl u) : ∀ x ∈ ns, NodeOk x := by
  have key : ∀ (ns : List WaterNode) (i : Nat) (l : List ByteArray), loopL bodyNode (fun _ => (.inl () : Unit ⊕ (Int × Int))) ns i l = .inl u → ∀ x ∈ ns, NodeOk x := by
    intro ns
    induction ns with
    | nil => intro i l _ x hx; cases hx
    | cons y ns ih =>
      intro i l h x hx
      rw [loopL] at h
      by_cases h0 : nodeE y l = 0
      · have hb : bodyNode i y l = .inl (l ++ [y.fName]) := by unfold bodyNode; rw [if_pos h0]
        rw [hb] at h
        cases hx with
        | head => exact nodeE_ok h0
        | tail _ hx => exact ih _ _ h x hx
      · have hb : bodyNode i y l = .inr (.inr ((i : Int), nodeE y l)) := by unfold bodyNode; rw [if_neg h0]
        rw [hb] at h; cases h
  exact key ns 0 [] h
theorem condLoop_ok {n : Nat} {cs : List WaterConduit} {u : Unit} (h : condLoop n cs = .inl u) : ∀ x ∈ cs, CondOk n x := by
  have key : ∀ (cs : List WaterConduit) (i : Nat) (l : List ByteArray), loopL (bodyCond n) (fun _ => (.inl () : Unit ⊕ (Int × Int))) cs i l = .inl u → ∀ x ∈ cs, CondOk n x := by
    intro cs
    induction cs with
    | nil => intro i l _ x hx; cases hx
    | cons y cs ih =>
      intro i l h x hx
      rw [loopL] at h
      by_cases h0 : condE y n l = 0
      · have hb : bodyCond n i y l = .inl (l ++ [y.fName]) := by unfold bodyCond; rw [if_pos h0]
        rw [hb] at h
        cases hx with
        | head => exact condE_ok h0
        | tail _ hx => exact ih _ _ h x hx
      · have hb : bodyCond n i y l = .inr (.inr ((i : Int), condE y n l)) := by unfold bodyCond; rw [if_neg h0]
        rw [hb] at h; cases h
  exact key cs 0 [] h
theorem netLoop_err {ns : List WaterNode} {r : Int × Int} (h : netLoop ns = .inr r) : r.2 ≠ 0 := by
  have key : ∀ (ns : List WaterNode) (i : Nat) (l : List ByteArray), loopL bodyNode (fun _ => (.inl () : Unit ⊕ (Int × Int))) ns i l = .inr r → r.2 ≠ 0 := by
    intro ns
    induction ns with
    | nil => intro i l h; cases h
    | cons y ns ih =>
      intro i l h
      rw [loopL] at h
      by_cases h0 : nodeE y l = 0
      · have hb : bodyNode i y l = .inl (l ++ [y.fName]) := by unfold bodyNode; rw [if_pos h0]
        rw [hb] at h; exact ih _ _ h
      · have hb : bodyNode i y l = .inr (.inr ((i : Int), nodeE y l)) := by unfold bodyNode; rw [if_neg h0]
        rw [hb] at h; cases h; exact h0
  exact key ns 0 [] h
theorem condLoop_err {n : Nat} {cs : List WaterConduit} {r : Int × Int} (h : condLoop n cs = .inr r) : r.2 ≠ 0 := by
  have key : ∀ (cs : List WaterConduit) (i : Nat) (l : List ByteArray), loopL (bodyCond n) (fun _ => (.inl () : Unit ⊕ (Int × Int))) cs i l = .inr r → r.2 ≠ 0 := by
    intro cs
    induction cs with
    | nil => intro i l h; cases h
    | cons y cs ih =>
      intro i l h
      rw [loopL] at h
      by_cases h0 : condE y n l = 0
      · have hb : bodyCond n i y l = .inl (l ++ [y.fName]) := by unfold bodyCond; rw [if_pos h0]
        rw [hb] at h; exact ih _ _ h
      · have hb : bodyCond n i y l = .inr (.inr ((i : Int), condE y n l)) := by unfold bodyCond; rw [if_neg h0]
        rw [hb] at h; cases h; exact h0
  exact key cs 0 [] h
theorem netOk {ns : List WaterNode} {cs : List WaterConduit} (h : (checkNet ns cs).2 = 0) : NetOk ns cs := by
  unfold checkNet at h
  by_cases a : ns.length = 0 ∨ cs.length = 0
  · rw [if_pos a] at h; cases h
  · by_cases b : 10 < ns.length ∨ 14 < cs.length
    · rw [if_neg a, if_pos b] at h; cases h
    · rw [if_neg a, if_neg b] at h
      cases c : netLoop ns with
      | inr r => rw [c] at h; exact absurd h (netLoop_err c)
      | inl u =>
        rw [c] at h
        cases d : condLoop ns.length cs with
        | inr r => rw [d] at h; exact absurd h (condLoop_err d)
        | inl v => exact ⟨by omega, by omega, by omega, by omega, netLoop_ok c, condLoop_ok d⟩
/-! marks -/
theorem geti_b {m : List Bool} {i : Int} (h0 : 0 ≤ i) (h1 : i < m.length) {γ : Type} (f : Nat → Bool → Option γ) : bind2 (geti m i) f = f i.toNat (m.getD i.toNat false) := by
  obtain ⟨k, rfl⟩ : ∃ k : Nat, i = k := ⟨i.toNat, by omega⟩
  have : m[k]? = some (m.getD k false) := by rw [List.getD_eq_getElem?_getD, List.getElem?_eq_getElem (by omega)]; rfl
  rw [geti_at this]; simp
theorem get_b {m : List Bool} {k : Nat} (h1 : k < m.length) {γ : Type} (f : Bool → Option γ) : (m[k]?).bind f = f (m.getD k false) := by
  rw [List.getD_eq_getElem?_getD, List.getElem?_eq_getElem h1]; rfl
theorem set_same {m : List Bool} {k : Nat} (h : m.getD k false = true) : m.set k true = m := by
  have h2 : m[k]? = some true := by
    rw [List.getD_eq_getElem?_getD] at h
    cases e : m[k]? with
    | none => rw [e] at h; cases h
    | some x => rw [e] at h; simp at h; rw [h]
  apply List.ext_getElem?
  intro i
  by_cases e : k = i
  · subst e
    obtain ⟨hl, _⟩ := List.getElem?_eq_some_iff.1 h2
    rw [List.getElem?_set_self hl, h2]
  · rw [List.getElem?_set_ne e]
def falses (m : List Bool) : Nat := m.count false
theorem falses_le (m : List Bool) : falses m ≤ m.length := List.count_le_length
theorem falses_set : ∀ {m : List Bool} {k : Nat}, falses (m.set k true) ≤ falses m := by
  intro m
  induction m with
  | nil => intro k; simp
  | cons b m ih =>
    intro k
    cases k with
    | zero => cases b <;> simp [falses]
    | succ k =>
      have := ih (k := k)
      unfold falses at this ⊢
      cases b <;> simp <;> omega
theorem falses_lt : ∀ {m : List Bool} {k : Nat}, k < m.length → m.getD k false = false → falses (m.set k true) < falses m := by
  intro m
  induction m with
  | nil => intro k h; cases h
  | cons b m ih =>
    intro k h hb
    cases k with
    | zero => simp at hb; subst hb; simp [falses]
    | succ k =>
      have := ih (k := k) (by simpa using h) (by simpa using hb)
      unfold falses at this ⊢
      cases b <;> simp <;> omega
def fr (c : WaterConduit) : Nat := c.fFrom.toNat
def to (c : WaterConduit) : Nat := c.fTo.toNat
structure EndOk (n : Nat) (c : WaterConduit) : Prop where
  f0 : 0 ≤ c.fFrom
  f1 : c.fFrom < n
  t0 : 0 ≤ c.fTo
  t1 : c.fTo < n
def EndsOk (n : Nat) (cs : List WaterConduit) : Prop := ∀ c ∈ cs, EndOk n c
theorem NetOk.ends {ns : List WaterNode} {cs : List WaterConduit} (h : NetOk ns cs) : EndsOk ns.length cs := fun c hc => by
  have := h.conds c hc; exact ⟨this.f0, this.f1, this.t0, this.t1⟩
def touch (m : List Bool) (c : WaterConduit) : List Bool :=
  if c.fOpen = true then if m.getD (fr c) false = true ∨ m.getD (to c) false = true then (m.set (fr c) true).set (to c) true else m else m
theorem touch_len (m : List Bool) (c : WaterConduit) : (touch m c).length = m.length := by
  unfold touch; split
  · split <;> simp
  · rfl
theorem touch_or {n : Nat} {m : List Bool} {c : WaterConduit} (hm : m.length = n) (hc : EndOk n c) :
    (touch m c = m ∧ (c.fOpen = true → m.getD (fr c) false = m.getD (to c) false)) ∨
    (touch m c = (m.set (fr c) true).set (to c) true ∧ c.fOpen = true ∧ m.getD (fr c) false ≠ m.getD (to c) false ∧ falses (touch m c) < falses m) := by
  have h1 := hc.f0; have h2 := hc.f1; have h3 := hc.t0; have h4 := hc.t1
  have h5 : fr c < m.length := by unfold fr; omega
  have h6 : to c < m.length := by unfold to; omega
  unfold touch
  cases o : c.fOpen
  · left; simp
  · cases a : m.getD (fr c) false <;> cases b : m.getD (to c) false
    · left; simp
    · right
      refine ⟨by simp, rfl, by simp, ?_⟩
      simp only [if_true, or_true]
      have := falses_lt h5 a
      have := falses_set (m := m.set (fr c) true) (k := to c)
      omega
    · right
      refine ⟨by simp, rfl, by simp, ?_⟩
      simp only [if_true, true_or]
      have h7 : (m.set (fr c) true) = m := set_same a
      rw [h7]
      exact falses_lt h6 b
    · left
      refine ⟨?_, fun _ => rfl⟩
      simp only [if_true, or_true]
      rw [set_same a, set_same b]
def round (cs : List WaterConduit) (m : List Bool) : List Bool := cs.foldl touch m
theorem round_len (cs : List WaterConduit) : ∀ m : List Bool, (round cs m).length = m.length := by
  induction cs with
  | nil => intro m; rfl
  | cons c cs ih => intro m; show (round cs (touch m c)).length = _; rw [ih, touch_len]
theorem round_le {n : Nat} : ∀ {cs : List WaterConduit} {m : List Bool}, EndsOk n cs → m.length = n → round cs m = m ∨ falses (round cs m) < falses m := by
  intro cs
  induction cs with
  | nil => intro m _ _; exact .inl rfl
  | cons c cs ih =>
    intro m hc hm
    have h1 := ih (m := touch m c) (fun x hx => hc x (.tail _ hx)) (by rw [touch_len, hm])
    show round cs (touch m c) = m ∨ falses (round cs (touch m c)) < falses m
    rcases touch_or hm (hc c (.head _)) with ⟨h2, _⟩ | ⟨_, _, _, h2⟩
    · rw [h2] at h1 ⊢; exact h1
    · rcases h1 with h1 | h1
      · rw [h1]; exact .inr h2
      · exact .inr (by omega)
/-! as often as one likes -/
def itN {α : Type} (f : α → α) : Nat → α → α
  | 0, x => x
  | n + 1, x => itN f n (f x)
theorem itN_fix {α : Type} {f : α → α} {x : α} (h : f x = x) : ∀ n, itN f n x = x := by
  intro n; induction n with
  | zero => rfl
  | succ n ih => show itN f n (f x) = x; rw [h, ih]
def spread (cs : List WaterConduit) (n : Nat) (m : List Bool) : List Bool := itN (round cs) n m
theorem spread_len (cs : List WaterConduit) : ∀ (n : Nat) (m : List Bool), (spread cs n m).length = m.length := by
  intro n; induction n with
  | zero => intro m; rfl
  | succ n ih => intro m; show (spread cs n (round cs m)).length = _; rw [ih, round_len]
/-- the program's round -/
theorem L90l1_eq {ns : List WaterNode} {cs : List WaterConduit} (hE : EndsOk ns.length cs) (hcs : cs.length < 100000) (hns : ns.length < 100000) (l : List Int) (m : List Bool) (hm : m.length = ns.length) :
    ∃ b, L90l1_0 (cs.length : Int) ns cs l (false, 0, m) = some (b, round cs m) ∧ (b = false → round cs m = m) ∧ (b = true → falses (round cs m) < falses m) := by
  have h := iter_list0 (step := S90l1_0 (cs.length : Int) ns cs l) (fun i (a : Bool × List Bool) => (a.1, (i : Int), a.2)) cs
    (fun _ c a => (.inl (if c.fOpen = true ∧ a.2.getD (fr c) false ≠ a.2.getD (to c) false then true else a.1, touch a.2 c) : (Bool × List Bool) ⊕ (Bool × List Bool))) (fun a => (a.1, a.2))
    (fun _ a => a.2.length = ns.length)
    (fun a _ => by simp [S90l1_0]) (fun i c a hx hi ha => by
      have hc := hE c (List.mem_of_getElem? hx)
      have h1 := hc.f0; have h2 := hc.f1; have h3 := hc.t0; have h4 := hc.t1
      have h5 : fr c < a.2.length := by unfold fr; omega
      have h6 : to c < a.2.length := by unfold to; omega
      refine ⟨?_, fun a' h => ?_⟩
      · simp only [S90l1_0, if_neg (show ¬ ((cs.length : Int) ≤ (i : Int)) by omega), geti_at hx, F91_0, Option.bind_some]
        rw [aw_ok (n := (i : Int) + 1) (by omega) (by omega)]
        rw [geti_b (m := a.2) h1 (by omega), geti_b (m := a.2) h3 (by omega)]
        rw [show c.fFrom.toNat = fr c from rfl, show c.fTo.toNat = to c from rfl]
        rw [get_b (m := a.2.set (fr c) true) (by rw [List.length_set]; exact h6)]
        rcases touch_or ha hc with ⟨e1, e2⟩ | ⟨e1, e2, e3, _⟩
        · rw [e1]
          cases o : c.fOpen
          · simp
          · have := e2 o; rw [this]; simp
        · rw [e1]
          have e4 : (a.2.getD (fr c) false == a.2.getD (to c) false) = false := by
            rw [beq_eq_false_iff_ne]; exact e3
          simp only [e2, e4, if_true, if_neg (show ¬ (false = true) by decide)]
          rw [if_pos ⟨trivial, e3⟩]; simp
      · cases h; simp only [touch_len]; exact ha) (by omega) (false, m) hm
  have key : ∀ (cs : List WaterConduit) (i : Nat) (a : Bool × List Bool), EndsOk ns.length cs → a.2.length = ns.length →
      ∃ b, loopL (fun (_ : Nat) (c : WaterConduit) (a : Bool × List Bool) => (.inl (if c.fOpen = true ∧ a.2.getD (fr c) false ≠ a.2.getD (to c) false then true else a.1, touch a.2 c) : (Bool × List Bool) ⊕ (Bool × List Bool))) (fun a => (a.1, a.2)) cs i a = (b, round cs a.2) ∧
        (b = false → round cs a.2 = a.2 ∧ a.1 = false) ∧ (b = true → a.1 = true ∨ falses (round cs a.2) < falses a.2) := by
    intro cs
    induction cs with
    | nil => intro i a _ _; exact ⟨a.1, rfl, fun h => ⟨rfl, h⟩, fun h => .inl h⟩
    | cons c cs ih =>
      intro i a hE ha
      have hE2 : EndsOk ns.length cs := fun x hx => hE x (.tail _ hx)
      rw [loopL]
      simp only
      obtain ⟨b, e, e1, e2⟩ := ih (i + 1) (if c.fOpen = true ∧ a.2.getD (fr c) false ≠ a.2.getD (to c) false then true else a.1, touch a.2 c) hE2 (by simp only [touch_len]; exact ha)
      refine ⟨b, e, fun h => ?_, fun h => ?_⟩
      · obtain ⟨g1, g2⟩ := e1 h
        simp only at g1 g2
        show round cs (touch a.2 c) = a.2 ∧ a.1 = false
        rcases touch_or ha (hE c (.head _)) with ⟨k1, k2⟩ | ⟨k1, k2, k3, _⟩
        · rw [if_neg (fun k => k.2 (k2 k.1))] at g2
          rw [g1, k1]; exact ⟨rfl, g2⟩
        · rw [if_pos ⟨k2, k3⟩] at g2; cases g2
      · have g := e2 h
        simp only at g
        show a.1 = true ∨ falses (round cs (touch a.2 c)) < falses a.2
        rcases touch_or ha (hE c (.head _)) with ⟨k1, k2⟩ | ⟨k1, k2, k3, k4⟩
        · rw [if_neg (fun k => k.2 (k2 k.1))] at g
          rw [k1] at g ⊢; exact g
        · right
          have := round_le (m := touch a.2 c) hE2 (by rw [touch_len, ha])
          rcases this with q | q
          · rw [q]; exact k4
          · omega
  obtain ⟨b, e, e1, e2⟩ := key cs 0 (false, m) hE hm
  rw [e] at h
  refine ⟨b, h, fun hb => (e1 hb).1, fun hb => ?_⟩
  rcases e2 hb with q | q
  · cases q
  · exact q
theorem L90l2_eq {ns : List WaterNode} {cs : List WaterConduit} (hE : EndsOk ns.length cs) (hcs : cs.length < 100000) (hns : ns.length < 100000) (l : List Int) (m : List Bool) (hm : m.length = ns.length) :
    L90l2_0 ns cs l (true, m) = some (spread cs ns.length m) := by
  have key : ∀ (n : Nat) (m : List Bool), m.length = ns.length → falses m ≤ n → iter (S90l2_0 ns cs l) (n + 2) (true, m) = some (spread cs n m) := by
    intro n
    induction n with
    | zero =>
      intro m hm h0
      obtain ⟨b, e, e1, e2⟩ := L90l1_eq hE hcs hns l m hm
      have hb : b = false := by cases b with
        | false => rfl
        | true => have := e2 rfl; omega
      subst hb
      have hs : S90l2_0 ns cs l (true, m) = some (.inl (false, m)) := by simp only [S90l2_0, if_true, e, bind2_some]; rw [e1 rfl]
      exact iter_in hs (iter_out (by simp [S90l2_0]; rfl) 0)
    | succ n ih =>
      intro m hm h0
      obtain ⟨b, e, e1, e2⟩ := L90l1_eq hE hcs hns l m hm
      cases b with
      | false =>
        have hs : S90l2_0 ns cs l (true, m) = some (.inl (false, m)) := by simp only [S90l2_0, if_true, e, bind2_some]; rw [e1 rfl]
        have hf : spread cs (n + 1) m = m := itN_fix (e1 rfl) _
        rw [hf]
        exact iter_in hs (iter_out (by simp [S90l2_0]) _)
      | true =>
        have := e2 rfl
        have hs : S90l2_0 ns cs l (true, m) = some (.inl (true, round cs m)) := by simp only [S90l2_0, if_true, e, bind2_some]
        exact iter_in hs (ih (round cs m) (by rw [round_len, hm]) (by omega))
  have h := key ns.length m hm (by have := falses_le m; omega)
  exact iter_mono h (by omega)
/-- the reference's round -/
theorem L95l0_eq {ns : List WaterNode} {cs : List WaterConduit} (hE : EndsOk ns.length cs) (hcs : cs.length < 100000) (k : Int) (l : List Bool) (m : List Bool) (hm : m.length = ns.length) :
    L95l0_0 k ns cs l (0, m) = some (round cs m) := by
  have h := iter_list0 (step := S95l0_0 k ns cs l) (fun i (a : List Bool) => ((i : Int), a)) cs
    (fun _ c a => (.inl (touch a c) : List Bool ⊕ List Bool)) (fun a => a) (fun _ a => a.length = ns.length)
    (fun a _ => by simp [S95l0_0]) (fun i c a hx hi ha => by
      have hc := hE c (List.mem_of_getElem? hx)
      have h1 := hc.f0; have h2 := hc.f1; have h3 := hc.t0; have h4 := hc.t1
      have h5 : fr c < a.length := by unfold fr; omega
      have h6 : to c < a.length := by unfold to; omega
      refine ⟨?_, fun a' h => ?_⟩
      · simp only [S95l0_0, if_neg (show ¬ ((cs.length : Int) ≤ (i : Int)) by omega), geti_at hx]
        rw [aw_ok (n := (i : Int) + 1) (by omega) (by omega)]
        rw [geti_b (m := a) h1 (by omega), geti_b (m := a.set c.fFrom.toNat true) h3 (by rw [List.length_set]; omega), geti_b (m := a) h3 (by omega)]
        rw [show c.fFrom.toNat = fr c from rfl, show c.fTo.toNat = to c from rfl]
        rw [get_b (m := a.set (fr c) true) (by rw [List.length_set]; exact h6)]
        unfold touch
        cases o : c.fOpen
        · simp
        · cases p : a.getD (fr c) false <;> cases q : a.getD (to c) false <;> simp
      · cases h; rw [touch_len]; exact ha) (by omega) m hm
  have key : ∀ (cs : List WaterConduit) (i : Nat) (a : List Bool), loopL (fun (_ : Nat) (c : WaterConduit) (a : List Bool) => (.inl (touch a c) : List Bool ⊕ List Bool)) (fun a => a) cs i a = round cs a := by
    intro cs
    induction cs with
    | nil => intro i a; rfl
    | cons c cs ih => intro i a; rw [loopL]; exact ih _ _
  rw [key] at h
  exact h
theorem L95l1_eq {ns : List WaterNode} {cs : List WaterConduit} (hE : EndsOk ns.length cs) (hcs : cs.length < 100000) (hns : ns.length < 100000) (l : List Bool) (m : List Bool) (hm : m.length = ns.length) :
    L95l1_0 ns cs l (0, m) = some (spread cs ns.length m) := by
  have h := iter_list0 (step := S95l1_0 ns cs l) (fun i (a : List Bool) => ((i : Int), a)) ns
    (fun _ _ a => (.inl (round cs a) : List Bool ⊕ List Bool)) (fun a => a) (fun _ a => a.length = ns.length)
    (fun a _ => by simp [S95l1_0]) (fun i c a hx hi ha => by
      refine ⟨?_, fun a' h => ?_⟩
      · simp only [S95l1_0, if_neg (show ¬ ((ns.length : Int) ≤ (i : Int)) by omega)]
        rw [aw_ok (n := (i : Int) + 1) (by omega) (by omega), L95l0_eq hE hcs _ _ a ha]
        simp
      · cases h; rw [round_len]; exact ha) (by omega) m hm
  have key : ∀ (ns : List WaterNode) (i : Nat) (a : List Bool), loopL (fun (_ : Nat) (_ : WaterNode) (a : List Bool) => (.inl (round cs a) : List Bool ⊕ List Bool)) (fun a => a) ns i a = spread cs ns.length a := by
    intro ns
    induction ns with
    | nil => intro i a; rfl
    | cons c ns ih => intro i a; rw [loopL]; exact ih _ _
  rw [key] at h
  exact h
theorem F95_eq {ns : List WaterNode} {cs : List WaterConduit} (hE : EndsOk ns.length cs) (hcs : cs.length < 100000) (hns : ns.length < 100000) (m : List Bool) (hm : m.length = ns.length) :
    F95_0 ns cs m = some (spread cs ns.length m) := by
  unfold F95_0
  rw [room_le (by omega), L95l1_eq hE hcs hns m m hm]; rfl
/-! the indexes of marks -/
def idxF : Nat → List Bool → List Int
  | _, [] => []
  | i, b :: l => if b = true then (i : Int) :: idxF (i + 1) l else idxF (i + 1) l
theorem idxF_len : ∀ (l : List Bool) (i : Nat), (idxF i l).length ≤ l.length := by
  intro l
  induction l with
  | nil => intro i; exact Nat.le_refl _
  | cons b l ih => intro i; have := ih (i + 1); cases b <;> simp [idxF] <;> omega
theorem idx_loop {β : Type} (f : β → Bool) : ∀ (l : List β) (i : Nat) (a : List Int), loopL (fun (i : Nat) (b : β) (a : List Int) => (.inl (if f b = true then a ++ [(i : Int)] else a) : List Int ⊕ List Int)) (fun a => a) l i a = a ++ idxF i (l.map f) := by
  intro l
  induction l with
  | nil => intro i a; simp [loopL, idxF]
  | cons b l ih =>
    intro i a
    rw [loopL]; simp only [ih]
    by_cases hb : f b = true
    · simp [idxF, hb]
    · simp [idxF, hb]
theorem F89_eq (l : List Bool) (hl : l.length < 100000) : F89_0 l = some (idxF 0 l) := by
  have h := iter_list0 (step := S89l0_0 (l.length : Int) l) (fun i (a : List Int) => ((i : Int), a)) l
    (fun i b a => (.inl (if id b = true then a ++ [(i : Int)] else a) : List Int ⊕ List Int)) (fun a => a) (fun i a => a.length ≤ i)
    (fun a _ => by simp [S89l0_0]) (fun i c a hx hi ha => by
      simp only [S89l0_0, if_neg (show ¬ ((l.length : Int) ≤ (i : Int)) by omega), geti_at hx]
      rw [aw_ok (n := (i : Int) + 1) (by omega) (by omega), room_le (by omega)]
      cases c
      · exact ⟨by simp, fun a' h => by cases h; simp; omega⟩
      · exact ⟨by simp, fun a' h => by cases h; simp; omega⟩) (by omega) [] (by simp)
  rw [idx_loop id] at h
  simp only [List.map_id, List.nil_append] at h
  unfold F89_0 L89l0_0
  rw [show (0, ([] : List Int)) = (((0 : Nat) : Int), ([] : List Int)) from rfl, h]; rfl
theorem F94_eq (l : List Bool) (hl : l.length < 100000) : F94_0 l = some (idxF 0 l) := by
  have h := iter_list0 (step := S94l0_0 l) (fun i (a : List Int) => ((i : Int), a)) l
    (fun i b a => (.inl (if id b = true then a ++ [(i : Int)] else a) : List Int ⊕ List Int)) (fun a => a) (fun i a => a.length ≤ i)
    (fun a _ => by simp [S94l0_0]) (fun i c a hx hi ha => by
      simp only [S94l0_0, if_neg (show ¬ ((l.length : Int) ≤ (i : Int)) by omega), geti_at hx]
      rw [aw_ok (n := (i : Int) + 1) (by omega) (by omega), room_le (by omega)]
      cases c
      · exact ⟨by simp, fun a' h => by cases h; simp; omega⟩
      · exact ⟨by simp, fun a' h => by cases h; simp; omega⟩) (by omega) [] (by simp)
  rw [idx_loop id] at h
  simp only [List.map_id, List.nil_append] at h
  unfold F94_0 L94l0_0
  rw [show (0, ([] : List Int)) = (((0 : Nat) : Int), ([] : List Int)) from rfl, h]; rfl
def lakes (ns : List WaterNode) : List Bool := ns.map fun x => x.fLake
theorem F135_eq (ns : List WaterNode) (cs : List WaterConduit) (hl : ns.length < 100000) : F135_0 ns cs = some (idxF 0 (lakes ns)) := by
  have h := iter_list0 (step := S135l0_0 (ns.length : Int) ns cs) (fun i (a : List Int) => ((i : Int), a)) ns
    (fun i b a => (.inl (if (fun x : WaterNode => x.fLake) b = true then a ++ [(i : Int)] else a) : List Int ⊕ List Int)) (fun a => a) (fun i a => a.length ≤ i)
    (fun a _ => by simp [S135l0_0]) (fun i c a hx hi ha => by
      simp only [S135l0_0, if_neg (show ¬ ((ns.length : Int) ≤ (i : Int)) by omega), geti_at hx]
      rw [aw_ok (n := (i : Int) + 1) (by omega) (by omega), room_le (by omega)]
      by_cases hl : c.fLake = true
      · simp only [if_pos hl]; exact ⟨by simp, fun a' h => by cases h; simp; omega⟩
      · simp only [if_neg hl]; exact ⟨by simp, fun a' h => by cases h; omega⟩) (by omega) [] (by simp)
  rw [idx_loop] at h
  unfold F135_0 L135l0_0
  rw [show (0, ([] : List Int)) = (((0 : Nat) : Int), ([] : List Int)) from rfl, h]; rfl
/-! marks from indexes -/
def marks (l : List Int) (m : List Bool) : List Bool := l.foldl (fun m i => m.set i.toNat true) m
theorem marks_len : ∀ (l : List Int) (m : List Bool), (marks l m).length = m.length := by
  intro l
  induction l with
  | nil => intro m; rfl
  | cons i l ih => intro m; show (marks l (m.set i.toNat true)).length = _; rw [ih, List.length_set]
theorem L90l0_eq (ns : List WaterNode) (cs : List WaterConduit) (l : List Int) (m : List Bool) (hl : l.length < 100000) (h : ∀ i ∈ l, 0 ≤ i ∧ i < m.length) :
    L90l0_0 (l.length : Int) ns cs l (0, m) = some (marks l m) := by
  have h1 := iter_list0 (step := S90l0_0 (l.length : Int) ns cs l) (fun i (a : List Bool) => ((i : Int), a)) l
    (fun _ i a => (.inl (a.set i.toNat true) : List Bool ⊕ List Bool)) (fun a => a) (fun _ a => a.length = m.length)
    (fun a _ => by simp [S90l0_0]) (fun i c a hx hi ha => by
      obtain ⟨h1, h2⟩ := h c (List.mem_of_getElem? hx)
      simp only [S90l0_0, if_neg (show ¬ ((l.length : Int) ≤ (i : Int)) by omega), geti_at hx]
      rw [aw_ok (n := (i : Int) + 1) (by omega) (by omega), geti_b h1 (by omega)]
      exact ⟨by simp, fun a' h => by cases h; simp [ha]⟩) (by omega) m rfl
  have key : ∀ (l : List Int) (i : Nat) (a : List Bool), loopL (fun (_ : Nat) (i : Int) (a : List Bool) => (.inl (a.set i.toNat true) : List Bool ⊕ List Bool)) (fun a => a) l i a = marks l a := by
    intro l
    induction l with
    | nil => intro i a; rfl
    | cons c l ih => intro i a; rw [loopL]; exact ih _ _
  rw [key] at h1
  exact h1
theorem marks_idx : ∀ (b : List Bool) (p : List Bool), marks (idxF p.length b) (p ++ List.replicate b.length false) = p ++ b := by
  intro b
  induction b with
  | nil => intro p; simp [idxF, marks]
  | cons x b ih =>
    intro p
    cases x
    · have := ih (p ++ [false])
      simp only [List.length_append, List.length_singleton, List.append_assoc, List.singleton_append] at this
      simp only [idxF, List.length_cons, List.replicate_succ]
      exact this
    · have := ih (p ++ [true])
      simp only [List.length_append, List.length_singleton, List.append_assoc, List.singleton_append] at this
      simp only [idxF, List.length_cons, List.replicate_succ, if_true]
      show marks (idxF (p.length + 1) b) ((p ++ false :: List.replicate b.length false).set ((p.length : Int)).toNat true) = _
      rw [show ((p.length : Int)).toNat = p.length from by omega, List.set_append_right _ _ (Nat.le_refl _), Nat.sub_self, List.set_cons_zero]
      exact this
theorem idxF_range : ∀ (b : List Bool) (k : Nat), ∀ i ∈ idxF k b, (k : Int) ≤ i ∧ i < k + b.length := by
  intro b
  induction b with
  | nil => intro k i hi; cases hi
  | cons x b ih =>
    intro k i hi
    have := ih (k + 1) i
    cases x
    · have := this (by simpa [idxF] using hi)
      simp only [List.length_cons]; omega
    · simp only [idxF, if_true] at hi
      simp only [List.length_cons]
      cases hi with
      | head => omega
      | tail _ hi => have := this hi; omega
theorem F90_eq {ns : List WaterNode} {cs : List WaterConduit} (hE : EndsOk ns.length cs) (hcs : cs.length < 100000) (hns : ns.length < 100000) (l : List Int) (hl : l.length < 100000) (h : ∀ i ∈ l, 0 ≤ i ∧ i < ns.length) :
    F90_0 ns cs l = some (spread cs ns.length (marks l (List.replicate ns.length false))) := by
  unfold F90_0
  rw [inx_nat (show ns.length < 140737488355329 by omega)]
  simp only [Option.bind_some]
  rw [room_le (by omega), L90l0_eq ns cs l _ hl (by simpa using h)]
  simp only [Option.bind_some]
  rw [L90l2_eq hE hcs hns l _ (by rw [marks_len, List.length_replicate])]; rfl
/-! wet conduits -/
def wetB (m : List Bool) (c : WaterConduit) : Bool := if m.getD (to c) false = true then true else if c.fOpen = true then m.getD (fr c) false else false
theorem app_loop {τ β : Type} (f : τ → β) : ∀ (l : List τ) (i : Nat) (a : List β), loopL (fun (_ : Nat) (x : τ) (a : List β) => (.inl (a ++ [f x]) : List β ⊕ List β)) (fun a => a) l i a = a ++ l.map f := by
  intro l
  induction l with
  | nil => intro i a; simp [loopL]
  | cons x l ih => intro i a; rw [loopL]; simp only [ih]; simp
theorem fill_loop {τ β : Type} (f : τ → β) : ∀ (l : List τ) (p r : List β), r.length = l.length → loopL (fun (i : Nat) (x : τ) (a : List β) => (.inl (a.set i (f x)) : List β ⊕ List β)) (fun a => a) l p.length (p ++ r) = p ++ l.map f := by
  intro l
  induction l with
  | nil => intro p r h; cases r with
    | nil => simp [loopL]
    | cons _ _ => cases h
  | cons x l ih =>
    intro p r h
    cases r with
    | nil => cases h
    | cons y r =>
      rw [loopL]
      simp only
      rw [List.set_append_right _ _ (Nat.le_refl _), Nat.sub_self, List.set_cons_zero]
      have := ih (p ++ [f x]) r (by simpa using h)
      simp only [List.length_append, List.length_singleton, List.append_assoc, List.singleton_append] at this
      simpa using this
theorem L92l0_eq {ns : List WaterNode} {cs : List WaterConduit} (hE : EndsOk ns.length cs) (hcs : cs.length < 100000) (m : List Bool) (hm : m.length = ns.length) :
    L92l0_0 (cs.length : Int) ns cs m (0, []) = some (cs.map (wetB m)) := by
  have h := iter_list0 (step := S92l0_0 (cs.length : Int) ns cs m) (fun i (a : List Bool) => ((i : Int), a)) cs
    (fun _ c a => (.inl (a ++ [wetB m c]) : List Bool ⊕ List Bool)) (fun a => a) (fun i a => a.length = i)
    (fun a _ => by simp [S92l0_0]) (fun i c a hx hi ha => by
      have hc := hE c (List.mem_of_getElem? hx)
      have h1 := hc.f0; have h2 := hc.f1; have h3 := hc.t0; have h4 := hc.t1
      refine ⟨?_, fun a' h => by cases h; simp [ha]⟩
      simp only [S92l0_0, if_neg (show ¬ ((cs.length : Int) ≤ (i : Int)) by omega), geti_at hx]
      rw [aw_ok (n := (i : Int) + 1) (by omega) (by omega), geti_b (m := m) h1 (by omega), geti_b (m := m) h3 (by omega), show c.fFrom.toNat = fr c from rfl, show c.fTo.toNat = to c from rfl]
      simp only [room_le (show a.length + 1 ≤ 140737488355328 by omega)]
      unfold wetB
      cases m.getD (to c) false
      · cases c.fOpen <;> simp
      · simp) (by omega) [] rfl
  rw [app_loop] at h
  exact h
def wetL (ns : List WaterNode) (cs : List WaterConduit) : List Bool := cs.map (wetB (spread cs ns.length (lakes ns)))
theorem wetL_len (ns : List WaterNode) (cs : List WaterConduit) : (wetL ns cs).length = cs.length := by simp [wetL]
theorem F92_eq {ns : List WaterNode} {cs : List WaterConduit} (hE : EndsOk ns.length cs) (hcs : cs.length < 100000) (hns : ns.length < 100000) : F92_0 ns cs = some (wetL ns cs) := by
  have hlen : (lakes ns).length = ns.length := by simp [lakes]
  have hmk : marks (idxF 0 (lakes ns)) (List.replicate ns.length false) = lakes ns := by
    have := marks_idx (lakes ns) []
    simpa [hlen] using this
  unfold F92_0
  rw [F135_eq ns cs hns, Option.bind_some, F90_eq hE hcs hns _ (by have := idxF_len (lakes ns) 0; omega) (fun i hi => by have := idxF_range (lakes ns) 0 i hi; omega)]
  rw [hmk, Option.bind_some, L92l0_eq hE hcs _ (by rw [spread_len, hlen])]; rfl
theorem L96l0_eq (ns : List WaterNode) (cs : List WaterConduit) (hns : ns.length < 100000) : L96l0_0 ns cs (0, List.replicate ns.length false) = some (lakes ns) := by
  have h := iter_list0 (step := S96l0_0 ns cs) (fun i (a : List Bool) => ((i : Int), a)) ns
    (fun i x a => (.inl (a.set i ((fun x : WaterNode => x.fLake) x)) : List Bool ⊕ List Bool)) (fun a => a) (fun _ a => a.length = ns.length)
    (fun a _ => by simp [S96l0_0]) (fun i c a hx hi ha => by
      refine ⟨?_, fun a' h => by cases h; simp [ha]⟩
      simp only [S96l0_0, if_neg (show ¬ ((ns.length : Int) ≤ (i : Int)) by omega), geti_at hx]
      rw [aw_ok (n := (i : Int) + 1) (by omega) (by omega), geti_b (m := a) (i := (i : Int)) (by omega) (by omega)]
      simp) (by omega) (List.replicate ns.length false) (by simp)
  have := fill_loop (fun x : WaterNode => x.fLake) ns [] (List.replicate ns.length false) (by simp)
  simp only [List.nil_append, List.length_nil] at this
  rw [this] at h
  exact h
theorem L96l1_eq {ns : List WaterNode} {cs : List WaterConduit} (hE : EndsOk ns.length cs) (hcs : cs.length < 100000) (m : List Bool) (hm : m.length = ns.length) :
    L96l1_0 ns cs m (0, List.replicate cs.length false) = some (cs.map (wetB m)) := by
  have h := iter_list0 (step := S96l1_0 ns cs m) (fun i (a : List Bool) => ((i : Int), a)) cs
    (fun i c a => (.inl (a.set i (wetB m c)) : List Bool ⊕ List Bool)) (fun a => a) (fun _ a => a.length = cs.length)
    (fun a _ => by simp [S96l1_0]) (fun i c a hx hi ha => by
      have hc := hE c (List.mem_of_getElem? hx)
      have h1 := hc.f0; have h2 := hc.f1; have h3 := hc.t0; have h4 := hc.t1
      refine ⟨?_, fun a' h => by cases h; simp [ha]⟩
      simp only [S96l1_0, if_neg (show ¬ ((cs.length : Int) ≤ (i : Int)) by omega), geti_at hx]
      rw [aw_ok (n := (i : Int) + 1) (by omega) (by omega), geti_b (m := m) h1 (by omega), geti_b (m := m) h3 (by omega), show c.fFrom.toNat = fr c from rfl, show c.fTo.toNat = to c from rfl]
      simp only [geti_b (m := a) (i := (i : Int)) (by omega) (by omega)]
      unfold wetB
      cases m.getD (to c) false
      · cases c.fOpen <;> simp
      · simp) (by omega) (List.replicate cs.length false) (by simp)
  have := fill_loop (wetB m) cs [] (List.replicate cs.length false) (by simp)
  simp only [List.nil_append, List.length_nil] at this
  rw [this] at h
  exact h
theorem F96_eq {ns : List WaterNode} {cs : List WaterConduit} (hE : EndsOk ns.length cs) (hcs : cs.length < 100000) (hns : ns.length < 100000) : F96_0 ns cs = some (wetL ns cs) := by
  have hlen : (lakes ns).length = ns.length := by simp [lakes]
  unfold F96_0
  rw [inx_nat (show ns.length < 140737488355329 by omega)]
  simp only [Option.bind_some]
  rw [room_le (by omega), L96l0_eq ns cs hns, Option.bind_some, F95_eq hE hcs hns _ hlen, Option.bind_some, inx_nat (show cs.length < 140737488355329 by omega)]
  simp only [Option.bind_some]
  rw [room_le (by omega), L96l1_eq hE hcs _ (by rw [spread_len, hlen])]; rfl
/-! a list is like itself -/
theorem F34_self (l : List Int) (hl : l.length < 100000) : F34_0 l l = some true := by
  have h := iter_list0 (step := S34l0_0 l l) (fun i (_ : Unit) => (i : Int)) l (fun _ _ _ => (.inl () : Unit ⊕ (Unit ⊕ Unit))) (fun _ => .inl ()) (fun _ _ => True)
    (fun a _ => by simp [S34l0_0]) (fun i c a hx hi _ => by
      refine ⟨?_, fun _ _ => trivial⟩
      simp only [S34l0_0, if_neg (show ¬ ((l.length : Int) ≤ (i : Int)) by omega), geti_at hx]
      rw [aw_ok (n := (i : Int) + 1) (by omega) (by omega)]
      simp) (by omega) () trivial
  have key : ∀ (l : List Int) (i : Nat), (loopL (fun (_ : Nat) (_ : Int) (_ : Unit) => (.inl () : Unit ⊕ (Unit ⊕ Unit))) (fun _ => .inl ()) l i ()) = .inl () := by
    intro l
    induction l with
    | nil => intro i; rfl
    | cons x l ih => intro i; rw [loopL]; simp only [ih]
  rw [key] at h
  unfold F34_0 L34l0_0
  rw [if_pos rfl, show (0 : Int) = ((0 : Nat) : Int) from rfl, h]; rfl
/-! what a valve fills -/
theorem set_ends {n : Nat} {cs : List WaterConduit} (hE : EndsOk n cs) (j : Nat) {x : WaterConduit} (hx : cs[j]? = some x) (b : Bool) : EndsOk n (cs.set j { x with fOpen := b }) := by
  intro c hc
  rcases List.mem_or_eq_of_mem_set hc with h | h
  · exact hE c h
  · subst h
    have := hE x (List.mem_of_getElem? hx)
    exact ⟨this.f0, this.f1, this.t0, this.t1⟩
def fillB (y : List Bool) (i : Nat) (x : Bool) (a : List Bool) : List Bool ⊕ List Bool := .inl (a.set i (if x = true then !(y.getD i false) else false))
def fillL (x y : List Bool) : List Bool := loopL (fillB y) (fun a => a) x 0 x
theorem fillL_len (x y : List Bool) : (fillL x y).length = x.length := by
  have key : ∀ (l : List Bool) (i : Nat) (a : List Bool), (loopL (fillB y) (fun a => a) l i a).length = a.length := by
    intro l
    induction l with
    | nil => intro i a; rfl
    | cons b l ih => intro i a; rw [loopL]; show (loopL (fillB y) (fun a => a) l (i + 1) _).length = _; rw [ih, List.length_set]
  exact key x 0 x
theorem drop_at {a l : List Bool} {i : Nat} (h : a.drop i = l.drop i) : a[i]? = l[i]? := by
  have := congrArg (fun z : List Bool => z[0]?) h
  simpa using this
theorem drop_set {a l : List Bool} {i : Nat} {v : Bool} (h : a.drop i = l.drop i) : (a.set i v).drop (i + 1) = l.drop (i + 1) := by
  rw [List.drop_set_of_lt (by omega)]
  have := congrArg (List.drop 1) h
  simpa [List.drop_drop] using this
theorem L37l0_eq (ns : List WaterNode) (cs : List WaterConduit) (x y : List Bool) (h : x.length = y.length) (hx : x.length < 100000) : L37l0_0 ns cs y (0, x) = some (fillL x y) :=
  iter_list0 (step := S37l0_0 ns cs y) (fun i (a : List Bool) => ((i : Int), a)) x (fillB y) (fun a => a) (fun i a => a.length = x.length ∧ a.drop i = x.drop i)
    (fun a ha => by simp [S37l0_0, ha.1]) (fun i c a hc hi ha => by
      have hac : a[i]? = some c := by rw [drop_at ha.2, hc]
      refine ⟨?_, fun a' h => by cases h; exact ⟨by simp [ha.1], drop_set ha.2⟩⟩
      simp only [S37l0_0, if_neg (show ¬ ((a.length : Int) ≤ (i : Int)) by omega), geti_at hac]
      rw [aw_ok (n := (i : Int) + 1) (by omega) (by omega), geti_b (m := y) (i := (i : Int)) (by omega) (by omega)]
      unfold fillB
      cases c <;> simp) (by omega) x ⟨rfl, rfl⟩
theorem L31l0_eq (ns : List WaterNode) (cs : List WaterConduit) (x y : List Bool) (h : x.length = y.length) (hx : x.length < 100000) : L31l0_0 (x.length : Int) ns cs y (0, x) = some (fillL x y) :=
  iter_list0 (step := S31l0_0 (x.length : Int) ns cs y) (fun i (a : List Bool) => ((i : Int), a)) x (fillB y) (fun a => a) (fun i a => a.length = x.length ∧ a.drop i = x.drop i)
    (fun a ha => by simp [S31l0_0]) (fun i c a hc hi ha => by
      have hac : a[i]? = some c := by rw [drop_at ha.2, hc]
      refine ⟨?_, fun a' h => by cases h; exact ⟨by simp [ha.1], drop_set ha.2⟩⟩
      simp only [S31l0_0, if_neg (show ¬ ((x.length : Int) ≤ (i : Int)) by omega), geti_at hac]
      rw [aw_ok (n := (i : Int) + 1) (by omega) (by omega), geti_b (m := y) (i := (i : Int)) (by omega) (by omega)]
      unfold fillB
      cases c <;> simp) (by omega) x ⟨rfl, rfl⟩
theorem F93_eq {ns : List WaterNode} {cs : List WaterConduit} {j : Nat} {x : WaterConduit} (hx : cs[j]? = some x) (hcs : cs.length < 100000) (b : Bool) : F93_0 (j : Int) b ns cs = some (cs.set j { x with fOpen := b }) := by
  have hj := (List.getElem?_eq_some_iff.1 hx).1
  unfold F93_0 F136_0
  rw [if_neg (by omega), room_le (by omega)]
  simp only [Option.bind_some, geti_at hx]
/-- **THE PLAIN LAW OF WaterReaches** -/
theorem plainWaterReaches (node k : Int) (ns : List WaterNode) (cs : List WaterConduit) : F5_0 node k ns cs = some true := by
  unfold F5_0
  rcases F15_spec ns cs with h | ⟨h, hf⟩
  · rw [h]; rfl
  · have hn := hf.n
    have hc := hf.c
    have h87 : F87_0 ns cs = some (checkNet ns cs).2 := by unfold F87_0; rw [F16_few hf]; rfl
    have h32 : F32_0 ns cs = some (checkNet ns cs).2 := by unfold F32_0; rw [F19_few hf]; rfl
    have e1 : aw .i64 ((ns.length : Int) - 1) = (ns.length : Int) - 1 := aw_ok (by omega) (by omega)
    have e2 : aw .i64 ((cs.length : Int) - 1) = (cs.length : Int) - 1 := aw_ok (by omega) (by omega)
    have f71 : ∀ a b : Int, F71_0 [a, b] = some (firstNZ [a, b]) := fun a b => F71_eq _ (show ([_, _] : List Int).length < 1000000 by simp)
    rw [h, F17_eq ns cs hf]
    simp only [Option.bind_some, if_true]
    by_cases h0 : (checkNet ns cs).2 = 0
    · have ok := netOk h0
      have hE := ok.ends
      have hn0 := ok.n0
      have hc0 := ok.c0
      have hwl : (wetL ns cs).length = cs.length := wetL_len ns cs
      have h30 : F30_0 ns cs = some (0, idxF 0 (wetL ns cs)) := by
        unfold F30_0; rw [h87, h0]; simp only [Option.bind_some, if_true]
        rw [F92_eq hE (by omega) (by omega), Option.bind_some, F89_eq _ (by omega)]; rfl
      have h36 : F36_0 ns cs = some (idxF 0 (wetL ns cs)) := by
        unfold F36_0; rw [F96_eq hE (by omega) (by omega), Option.bind_some, F94_eq _ (by omega)]; rfl
      have h34 := F34_self (idxF 0 (wetL ns cs)) (by have := idxF_len (wetL ns cs) 0; omega)
      -- what the valve fills
      have h31 : F31_0 k ns cs = some (if 0 ≤ k ∧ k ≤ (cs.length : Int) - 1 then
          (match cs[k.toNat]? with
            | some x => if x.fValve = true then ((0 : Int), idxF 0 (fillL (wetL ns (cs.set k.toNat { x with fOpen := true })) (wetL ns (cs.set k.toNat { x with fOpen := false })))) else (12, [])
            | none => (6, []))
          else (6, [])) := by
        unfold F31_0
        simp only [h87, h0, F74_eq, F72_eq, e2, Option.bind_some, f71]
        by_cases hk : 0 ≤ k ∧ k ≤ (cs.length : Int) - 1
        · obtain ⟨j, rfl⟩ : ∃ j : Nat, k = j := ⟨k.toNat, by omega⟩
          have hj : j < cs.length := by omega
          have hx : cs[j]? = some cs[j] := List.getElem?_eq_getElem hj
          generalize cs[j] = x at hx
          simp only [hk.1, hk.2, decide_true, Bool.and_self, if_true, firstNZ, geti_at hx, Int.toNat_natCast, hx, and_self]
          by_cases hv : x.fValve = true
          rotate_left
          · simp only [if_neg hv]
          · simp only [if_pos hv]
            rw [F93_eq hx (by omega), F93_eq hx (by omega)]
            simp only [Option.bind_some]
            rw [F92_eq (set_ends hE j hx false) (by simp; omega) (by omega), F92_eq (set_ends hE j hx true) (by simp; omega) (by omega)]
            simp only [Option.bind_some]
            have hl2 : (wetL ns (cs.set j { x with fOpen := true })).length = cs.length := by rw [wetL_len, List.length_set]
            have hl3 : (wetL ns (cs.set j { x with fOpen := false })).length = cs.length := by rw [wetL_len, List.length_set]
            rw [L31l0_eq ns cs _ _ (by omega) (by omega), Option.bind_some, F89_eq _ (by rw [fillL_len]; omega)]
            rfl
        · have hd : (decide (0 ≤ k) && decide (k ≤ (cs.length : Int) - 1)) = false := by
            by_cases a : 0 ≤ k <;> by_cases b : k ≤ (cs.length : Int) - 1 <;> simp [a, b]
            exact hk ⟨a, b⟩
          rw [if_neg hk]
          simp [hd, firstNZ]
      have h37 : ∀ (j : Nat) (x : WaterConduit), cs[j]? = some x → F37_0 (j : Int) ns cs = some (idxF 0 (fillL (wetL ns (cs.set j { x with fOpen := true })) (wetL ns (cs.set j { x with fOpen := false })))) := by
        intro j x hx
        have hl2 : (wetL ns (cs.set j { x with fOpen := true })).length = cs.length := by rw [wetL_len, List.length_set]
        have hl3 : (wetL ns (cs.set j { x with fOpen := false })).length = cs.length := by rw [wetL_len, List.length_set]
        unfold F37_0
        rw [F17_eq ns cs hf]
        simp only [Option.bind_some, geti_at hx]
        rw [F96_eq (set_ends hE j hx true) (by simp; omega) (by omega), F96_eq (set_ends hE j hx false) (by simp; omega) (by omega)]
        simp only [Option.bind_some]
        rw [L37l0_eq ns cs _ _ (by omega) (by omega), Option.bind_some, F94_eq _ (by rw [fillL_len]; omega)]
        rfl
      simp only [h30, h36, h31, h32, bind2_some, Option.bind_some, h0, if_true, h34, F20_eq, e2]
      -- the node
      have hnode : ∃ e l, F29_0 node ns cs = some (e, l) ∧ ((e = 0 ∧ F33_0 node ns cs = some 0 ∧ F35_0 node ns cs = some l ∧ l.length < 100000) ∨ (e = 6 ∧ l = [] ∧ F33_0 node ns cs = some 6)) := by
        unfold F29_0 F88_0 F33_0
        simp only [h87, h0, F74_eq, F20_eq, F72_eq, e1, Option.bind_some, f71]
        by_cases hk : 0 ≤ node ∧ node ≤ (ns.length : Int) - 1
        · have hm1 : marks [node] (List.replicate ns.length false) = (List.replicate ns.length false).set node.toNat true := rfl
          have hlen : ((List.replicate ns.length false).set node.toNat true).length = ns.length := by simp
          simp only [hk.1, hk.2, decide_true, Bool.and_self, if_true, firstNZ]
          rw [F90_eq hE (by omega) (by omega) [node] (by simp) (by simp; omega), Option.bind_some, F89_eq _ (by rw [spread_len, marks_len]; simp; omega)]
          refine ⟨0, _, rfl, .inl ⟨rfl, by simp, ?_, ?_⟩⟩
          · unfold F35_0
            rw [inx_nat (show ns.length < 140737488355329 by omega)]
            simp only [Option.bind_some]
            rw [room_le (by omega), geti_b (m := List.replicate ns.length false) hk.1 (by simp; omega), F95_eq hE (by omega) (by omega) _ hlen, Option.bind_some, F94_eq _ (by rw [spread_len, hlen]; omega), hm1]
            rfl
          · have := idxF_len (spread cs ns.length (marks [node] (List.replicate ns.length false))) 0
            rw [spread_len, marks_len, List.length_replicate] at this
            omega
        · have hd : (decide (0 ≤ node) && decide (node ≤ (ns.length : Int) - 1)) = false := by
            by_cases a : 0 ≤ node <;> by_cases b : node ≤ (ns.length : Int) - 1 <;> simp [a, b]
            exact hk ⟨a, b⟩
          exact ⟨6, [], by simp [hd, firstNZ], .inr ⟨rfl, rfl, by simp [hd]⟩⟩
      obtain ⟨e, l, g1, g2⟩ := hnode
      by_cases hk : 0 ≤ k ∧ k ≤ (cs.length : Int) - 1
      · obtain ⟨j, rfl⟩ : ∃ j : Nat, k = j := ⟨k.toNat, by omega⟩
        have hj : j < cs.length := by omega
        have hx : cs[j]? = some cs[j] := List.getElem?_eq_getElem hj
        generalize cs[j] = x at hx
        have hlf : (idxF 0 (fillL (wetL ns (cs.set j { x with fOpen := true })) (wetL ns (cs.set j { x with fOpen := false })))).length < 100000 := by
          have := idxF_len (fillL (wetL ns (cs.set j { x with fOpen := true })) (wetL ns (cs.set j { x with fOpen := false }))) 0
          rw [fillL_len, wetL_len, List.length_set] at this
          omega
        simp only [hk.1, hk.2, and_self, if_true, decide_true, Bool.and_self, geti_at hx, Int.toNat_natCast, hx, h37 j x hx, g1, bind2_some]
        rcases g2 with ⟨rfl, g3, g4, g5⟩ | ⟨rfl, rfl, g3⟩
        · simp only [g3, g4, F34_self l g5, Option.bind_some, if_true]
          by_cases hv : x.fValve = true
          · simp only [if_pos hv, bind2_some, F34_self _ hlf, Option.bind_some, if_true]
          · simp [hv]
        · simp only [g3, Option.bind_some, if_true]
          by_cases hv : x.fValve = true
          · simp only [if_pos hv, bind2_some, F34_self _ hlf, Option.bind_some, if_true]; simp
          · simp [hv]
      · have hd : (decide (0 ≤ k) && decide (k ≤ (cs.length : Int) - 1)) = false := by
          by_cases a : 0 ≤ k <;> by_cases b : k ≤ (cs.length : Int) - 1 <;> simp [a, b]
          exact hk ⟨a, b⟩
        simp only [if_neg hk, hd, g1, bind2_some]
        rcases g2 with ⟨rfl, g3, g4, g5⟩ | ⟨rfl, rfl, g3⟩
        · simp [g3, g4, F34_self l g5]
        · simp [g3]
    · have h29 : F29_0 node ns cs = some ((checkNet ns cs).2, []) := by
        unfold F29_0 F88_0
        simp only [h87, F74_eq, F72_eq, Option.bind_some, f71, firstNZ, h0, if_false]
      have h30 : F30_0 ns cs = some ((checkNet ns cs).2, []) := by
        unfold F30_0; simp only [h87, Option.bind_some, h0, if_false]
      have h31 : F31_0 k ns cs = some ((checkNet ns cs).2, []) := by
        unfold F31_0
        simp only [h87, F74_eq, F72_eq, Option.bind_some, f71, firstNZ, h0, if_false]
      simp only [h29, h30, h31, h32, bind2_some, Option.bind_some, h0, if_false, if_true]
      rw [aw_ok (n := (([] : List Int).length : Int) + (([] : List Int).length : Int)) (by simp) (by simp)]
      simp [aw_ok]
end Go.AI
