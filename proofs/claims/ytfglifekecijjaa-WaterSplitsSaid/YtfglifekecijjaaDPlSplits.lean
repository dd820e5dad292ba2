import Derived.Test.YtfglifekecijjaaDAiP
import Derived.Test.YtfglifekecijjaaDWnF
section
/-
  WHICH NETS ARE VALID: the program's answer is the reference's.
-/
set_option linter.unusedVariables false
set_option linter.unusedSimpArgs false
namespace Go.AI
theorem F74_eq (a b c : Int) : F74_0 a b c = some (decide (b ≤ a) && decide (a ≤ c)) := by
  unfold F74_0; by_cases h : b ≤ a <;> simp [h]
theorem F20_eq (a b c : Int) : F20_0 a b c = some (decide (b ≤ a) && decide (a ≤ c)) := by
  unfold F20_0; by_cases h : b ≤ a <;> simp [h]
theorem F73_eq (a b : Int) : F73_0 a b = some (decide (aw .i64 (0 - b) ≤ a) && decide (a ≤ b)) := by
  unfold F73_0; rw [F74_eq]; rfl
theorem F72_eq (b : Bool) (k : Int) : F72_0 b k = some (if b = true then 0 else k) := by
  unfold F72_0; cases b <;> rfl
/-! first -/
def firstNZ : List Int → Int
  | [] => 0
  | x :: xs => if x = 0 then firstNZ xs else x
theorem F71_eq (l : List Int) (hl : l.length < 1000000) : F71_0 l = some (firstNZ l) := by
  have h := iter_list0 (step := S71l0_0 (l.length : Int) l) (fun i (_ : Unit) => (i : Int)) l (fun _ x _ => if x = 0 then .inl () else .inr (.inr x)) (fun _ => .inl ()) (fun _ _ => True)
    (fun a _ => by simp [S71l0_0]) (fun i x a hx hi _ => by
      refine ⟨?_, fun _ _ => trivial⟩
      have hle : ¬ ((l.length : Int) ≤ (i : Int)) := by omega
      simp only [S71l0_0, if_neg hle, geti_at hx]
      rw [aw_ok (by omega) (by omega)]
      by_cases h : x = 0 <;> simp [h]) hl () trivial
  have key : ∀ (l : List Int) (i : Nat), (loopL (fun (_ : Nat) (x : Int) (_ : Unit) => if x = 0 then (.inl () : Unit ⊕ (Unit ⊕ Int)) else .inr (.inr x)) (fun _ => .inl ()) l i ()) = (if firstNZ l = 0 then .inl () else .inr (firstNZ l)) := by
    intro l
    induction l with
    | nil => intro i; rfl
    | cons x l ih =>
      intro i
      unfold loopL
      by_cases hx : x = 0
      · simp [hx, ih, firstNZ]
      · simp [hx, firstNZ]
  rw [key] at h
  unfold F71_0 L71l0_0
  rw [show ((0 : Int)) = ((0 : Nat) : Int) from rfl, h]
  by_cases h0 : firstNZ l = 0 <;> simp [h0]
/-! names -/
def charOk (i : Nat) (c : Int) : Bool := (decide (97 ≤ c) && decide (c ≤ 122)) || (decide (65 ≤ c) && decide (c ≤ 90)) || (!decide (i = 0) && (decide (c = 45) || (decide (48 ≤ c) && decide (c ≤ 57))))
def charsOk : List UInt8 → Nat → Bool
  | [], _ => true
  | b :: l, i => charOk i (b.toNat : Int) && charsOk l (i + 1)
def bodyN (i : Nat) (b : UInt8) (_ : Unit) : Unit ⊕ (Unit ⊕ Unit) := if charOk i (b.toNat : Int) then .inl () else .inr (.inr ())
theorem loopN_eq : ∀ (l : List UInt8) (i : Nat), loopL bodyN (fun _ => .inl ()) l i () = (if charsOk l i then .inl () else .inr ()) := by
  intro l
  induction l with
  | nil => intro i; rfl
  | cons b l ih =>
    intro i
    rw [loopL]
    have hb : bodyN i b () = if charOk i (b.toNat : Int) then .inl () else .inr (.inr ()) := rfl
    rw [hb]
    cases h : charOk i (b.toNat : Int)
    · simp [charsOk, h]
    · simp [charsOk, h, ih]
def nameOk (s : ByteArray) : Bool := charsOk s.data.toList 0 && (decide (1 ≤ s.size) && decide (s.size ≤ 12))
theorem F75_eq (s : ByteArray) (hs : s.size < 1000000) : F75_0 s = some (nameOk s) := by
  have hl : s.data.toList.length = s.size := by simp
  have h := iter_list0 (step := S75l0_0 s (s.size : Int) s.data.toList) (fun i (_ : Unit) => (i : Int)) s.data.toList bodyN (fun _ => .inl ()) (fun _ _ => True)
    (fun a _ => by simp [S75l0_0]) (fun i b a hx hi _ => by
      refine ⟨?_, fun _ _ => trivial⟩
      have hle : ¬ ((s.size : Int) ≤ (i : Int)) := by omega
      have hb : b.toNat < 256 := b.toNat_lt
      simp only [S75l0_0, if_neg hle, geti_at hx, F74_eq, Option.bind_some]
      rw [aw_ok (n := (b.toNat : Int)) (by omega) (by omega), aw_ok (n := (i : Int) + 1) (by omega) (by omega)]
      unfold bodyN charOk
      generalize (b.toNat : Int) = c
      by_cases h1 : (decide (97 ≤ c) && decide (c ≤ 122)) = true
      · simp [h1]
      · by_cases h2 : (decide (65 ≤ c) && decide (c ≤ 90)) = true
        · simp [h1, h2]
        · by_cases h3 : i = 0
          · subst h3; simp [h1, h2]
          · have h3' : ¬ (i : Int) = 0 := by omega
            by_cases h4 : c = 45
            · simp [h1, h2, h3, h3', h4]
            · by_cases h5 : (decide (48 ≤ c) && decide (c ≤ 57)) = true
              · simp [h1, h2, h3, h3', h4, h5]
              · simp [h1, h2, h3, h3', h4, h5]) (by omega) () trivial
  rw [loopN_eq] at h
  unfold F75_0 L75l0_0
  unfold roomS
  rw [if_pos (by omega)]
  rw [show ((0 : Int)) = ((0 : Nat) : Int) from rfl, h]
  cases hc : charsOk s.data.toList 0
  · simp [nameOk, hc]
  · simp only [nameOk, hc, F74_eq, Option.bind_some, Bool.true_and, if_true]
    by_cases h1 : 1 ≤ s.size <;> by_cases h2 : s.size ≤ 12 <;> simp [h1, h2] <;> omega
theorem F131_eq (s : ByteArray) (hs : s.size < 1000000) : F131_0 s = some (nameOk s) := by
  have hl : s.data.toList.length = s.size := by simp
  have h := iter_list0 (step := S131l0_0 s) (fun i (_ : Unit) => (i : Int)) s.data.toList bodyN (fun _ => .inl ()) (fun _ _ => True)
    (fun a _ => by simp [S131l0_0]) (fun i b a hx hi _ => by
      refine ⟨?_, fun _ _ => trivial⟩
      have hle : ¬ ((s.size : Int) ≤ (i : Int)) := by omega
      simp only [S131l0_0, if_neg hle, geti_at hx]
      rw [aw_ok (n := (i : Int) + 1) (by omega) (by omega)]
      unfold bodyN charOk
      generalize (b.toNat : Int) = c
      by_cases h3 : i = 0
      · subst h3
        by_cases a1 : 97 ≤ c <;> by_cases a2 : c ≤ 122 <;> by_cases a3 : 65 ≤ c <;> by_cases a4 : c ≤ 90 <;> simp [a1, a2, a3, a4]
      · have h3' : ¬ (i : Int) = 0 := by omega
        by_cases a1 : 97 ≤ c <;> by_cases a2 : c ≤ 122 <;> by_cases a3 : 65 ≤ c <;> by_cases a4 : c ≤ 90 <;> by_cases a5 : c = 45 <;> by_cases a6 : 48 ≤ c <;> by_cases a7 : c ≤ 57 <;> simp [h3, h3', a1, a2, a3, a4, a5, a6, a7]) (by omega) () trivial
  rw [loopN_eq] at h
  unfold F131_0 L131l0_0
  by_cases h1 : 1 ≤ s.size
  · by_cases h2 : s.size ≤ 12
    · rw [if_pos (by omega), if_pos (by omega), show ((0 : Int)) = ((0 : Nat) : Int) from rfl, h]
      cases hc : charsOk s.data.toList 0 <;> simp [nameOk, hc, h1, h2]
    · rw [if_pos (by omega), if_neg (by omega)]; simp [nameOk, h2]
  · rw [if_neg (by omega)]; simp [nameOk, h1]
/-! the reference's list of names, the program's map of names -/
def hasB (s : ByteArray) (l : List ByteArray) : Bool := l.any fun x => decide (x = s)
theorem F132_eq (s : ByteArray) (l : List ByteArray) (hl : l.length < 1000000) : F132_0 s l = some (hasB s l) := by
  have h := iter_list0 (step := S132l0_0 s l) (fun i (_ : Unit) => (i : Int)) l (fun _ x _ => if x = s then .inr (.inr ()) else .inl ()) (fun _ => .inl ()) (fun _ _ => True)
    (fun a _ => by simp [S132l0_0]) (fun i x a hx hi _ => by
      refine ⟨?_, fun _ _ => trivial⟩
      have hle : ¬ ((l.length : Int) ≤ (i : Int)) := by omega
      simp only [S132l0_0, if_neg hle, geti_at hx]
      rw [aw_ok (by omega) (by omega)]
      by_cases h : x = s <;> simp [h]) hl () trivial
  have key : ∀ (l : List ByteArray) (i : Nat), (loopL (fun (_ : Nat) (x : ByteArray) (_ : Unit) => if x = s then (.inr (.inr ()) : Unit ⊕ (Unit ⊕ Unit)) else .inl ()) (fun _ => .inl ()) l i ()) = (if hasB s l = true then .inr () else .inl ()) := by
    intro l
    induction l with
    | nil => intro i; rfl
    | cons x l ih =>
      intro i
      unfold loopL
      by_cases hx : x = s
      · simp [hx, hasB]
      · have : hasB s (x :: l) = hasB s l := by simp [hasB, hx]
        rw [this, ← ih (i + 1)]; simp [hx]
  rw [key] at h
  unfold F132_0 L132l0_0
  rw [show ((0 : Int)) = ((0 : Nat) : Int) from rfl, h]
  cases h0 : hasB s l <;> simp [h0]
/-- a map in which some names are true, all others false -/
def Names (m : List (ByteArray × Bool)) (l : List ByteArray) : Prop := ∀ s, getM s false m = hasB s l
theorem names_nil : Names [] [] := fun s => by simp [getM, findM, hasB]
theorem findM_put (k s : ByteArray) (v : Bool) (m : List (ByteArray × Bool)) : findM s (putM k v m) = if s = k then some v else findM s m := by
  induction m with
  | nil => simp [putM, findM]
  | cons p m ih =>
    obtain ⟨k', v'⟩ := p
    unfold putM
    by_cases hk : k = k'
    · subst hk
      by_cases hs : s = k <;> simp [findM, hs]
    · by_cases hs : s = k
      · subst hs; simp [findM, hk, ih]
      · by_cases hs' : s = k'
        · subst hs'; simp [findM, hk, hs]
        · simp [findM, hk, hs, hs', ih]
theorem names_put {m : List (ByteArray × Bool)} {l : List ByteArray} (h : Names m l) (k : ByteArray) : Names (putM k true m) (l ++ [k]) := fun s => by
  unfold getM
  rw [findM_put]
  have hb : hasB s (l ++ [k]) = (hasB s l || decide (k = s)) := by simp [hasB]
  rw [hb]
  by_cases hs : s = k
  · simp [hs]
  · have := h s
    unfold getM at this
    have hs' : ¬ k = s := fun h => hs h.symm
    simp [hs, hs', this]
/-! one node, one conduit: the first error -/
def nodeE (x : WaterNode) (l : List ByteArray) : Int :=
  if nameOk x.fName = true then if hasB x.fName l = true then 5 else if x.fLake = true then (if 0 ≤ x.fHead ∧ x.fHead ≤ 1000000 then (if x.fDraw = 0 then 0 else 3) else 2)
    else (if -10000 ≤ x.fDraw ∧ x.fDraw ≤ 10000 then (if x.fHead = 0 then 0 else 3) else 2) else 4
def condE (x : WaterConduit) (n : Nat) (l : List ByteArray) : Int :=
  if nameOk x.fName = true then if hasB x.fName l = true then 5 else
    if (0 ≤ x.fFrom ∧ x.fFrom ≤ (n : Int) - 1) ∧ (0 ≤ x.fTo ∧ x.fTo ≤ (n : Int) - 1) then if x.fFrom = x.fTo then 13 else
      if 0 ≤ x.fResist ∧ x.fResist ≤ 1000 then (if x.fValve = true ∨ x.fOpen = true then 0 else 3) else 2 else 6 else 4
theorem F78_eq (x : WaterNode) (l : List ByteArray) (hl : l.length < 1000000) (hs : x.fName.size < 1000000) : F78_0 x.fName x.fLake x.fHead x.fDraw l = some (nodeE x l) := by
  unfold F78_0 nodeE
  simp only [F131_eq _ hs, F132_eq _ _ hl, F20_eq, Option.bind_some]
  cases nameOk x.fName
  · simp
  · by_cases h1 : hasB x.fName l = true
    · simp [h1]
    · cases x.fLake
      · by_cases a : -10000 ≤ x.fDraw <;> by_cases b : x.fDraw ≤ 10000 <;> by_cases c : x.fHead = 0 <;> simp [h1, a, b, c]
      · by_cases a : 0 ≤ x.fHead <;> by_cases b : x.fHead ≤ 1000000 <;> by_cases c : x.fDraw = 0 <;> simp [h1, a, b, c]
theorem F79_eq (x : WaterConduit) (ns : List WaterNode) (cs : List WaterConduit) (l : List ByteArray) (hl : l.length < 1000000) (hs : x.fName.size < 1000000) (hn : ns.length < 1000000) :
    F79_0 x.fName x.fFrom x.fTo x.fResist x.fValve x.fOpen ns cs l = some (condE x ns.length l) := by
  unfold F79_0 condE
  simp only [F131_eq _ hs, F132_eq _ _ hl, F20_eq, Option.bind_some]
  rw [aw_ok (by omega) (by omega)]
  cases nameOk x.fName
  · simp
  · by_cases h1 : hasB x.fName l = true
    · simp [h1]
    · by_cases a : 0 ≤ x.fFrom <;> by_cases b : x.fFrom ≤ (ns.length : Int) - 1 <;> by_cases c : 0 ≤ x.fTo <;> by_cases d : x.fTo ≤ (ns.length : Int) - 1 <;> simp only [h1, a, b, c, d, decide_true, decide_false, Bool.and_true, Bool.and_false, Bool.false_and, Bool.true_and, if_true, if_false, and_true, and_false, true_and, false_and, Bool.false_eq_true]
      by_cases e : x.fFrom = x.fTo
      · simp [e]
      · by_cases g : 0 ≤ x.fResist <;> by_cases k : x.fResist ≤ 1000 <;> cases x.fValve <;> cases x.fOpen <;> simp [e, g, k]
/-! the loops -/
def bodyNode (i : Nat) (x : WaterNode) (l : List ByteArray) : List ByteArray ⊕ (Unit ⊕ (Int × Int)) := if nodeE x l = 0 then .inl (l ++ [x.fName]) else .inr (.inr ((i : Int), nodeE x l))
def bodyCond (n : Nat) (i : Nat) (x : WaterConduit) (l : List ByteArray) : List ByteArray ⊕ (Unit ⊕ (Int × Int)) := if condE x n l = 0 then .inl (l ++ [x.fName]) else .inr (.inr ((i : Int), condE x n l))
def netLoop (ns : List WaterNode) : Unit ⊕ (Int × Int) := loopL bodyNode (fun _ => .inl ()) ns 0 []
def condLoop (n : Nat) (cs : List WaterConduit) : Unit ⊕ (Int × Int) := loopL (bodyCond n) (fun _ => .inl ()) cs 0 []
def NamesN (ns : List WaterNode) : Prop := ∀ x ∈ ns, x.fName.size < 1000000
def NamesC (cs : List WaterConduit) : Prop := ∀ x ∈ cs, x.fName.size < 1000000
theorem L19l0_eq (ns : List WaterNode) (cs : List WaterConduit) (hn : ns.length < 100000) (hN : NamesN ns) : L19l0_0 ns cs (0, []) = some (netLoop ns) :=
  iter_list0 (step := S19l0_0 ns cs) (fun i (l : List ByteArray) => ((i : Int), l)) ns bodyNode (fun _ => .inl ()) (fun i l => l.length = i)
    (fun a _ => by simp [S19l0_0]) (fun i x l hx hi hl => by
      have hle : ¬ ((ns.length : Int) ≤ (i : Int)) := by omega
      simp only [S19l0_0, if_neg hle, geti_at hx, F78_eq x l (by omega) (hN x (List.mem_of_getElem? hx)), Option.bind_some]
      rw [aw_ok (by omega) (by omega)]
      unfold bodyNode
      by_cases h0 : nodeE x l = 0
      · simp only [h0, if_true]
        rw [room_le (by omega)]
        refine ⟨by simp, fun a' h => ?_⟩
        cases h; simp [hl]
      · simp [h0]) (by omega) [] rfl
theorem L19l1_eq (ns : List WaterNode) (cs : List WaterConduit) (hn : ns.length < 100000) (hc : cs.length < 100000) (hN : NamesC cs) : L19l1_0 ns cs (0, []) = some (condLoop ns.length cs) :=
  iter_list0 (step := S19l1_0 ns cs) (fun i (l : List ByteArray) => ((i : Int), l)) cs (bodyCond ns.length) (fun _ => .inl ()) (fun i l => l.length = i)
    (fun a _ => by simp [S19l1_0]) (fun i x l hx hi hl => by
      have hle : ¬ ((cs.length : Int) ≤ (i : Int)) := by omega
      simp only [S19l1_0, if_neg hle, geti_at hx, F79_eq x ns cs l (by omega) (hN x (List.mem_of_getElem? hx)) (by omega), Option.bind_some]
      rw [aw_ok (by omega) (by omega)]
      unfold bodyCond
      by_cases h0 : condE x ns.length l = 0
      · simp only [h0, if_true]
        rw [room_le (by omega)]
        refine ⟨by simp, fun a' h => ?_⟩
        cases h; simp [hl]
      · simp [h0]) (by omega) [] rfl
theorem neg_10000 : aw .i64 (0 - 10000) = -10000 := aw_ok (by decide) (by decide)
theorem neg_200000 : aw .i64 (0 - 200000) = -200000 := aw_ok (by decide) (by decide)
/-- what the program's loop does with a node -/
theorem node_step (x : WaterNode) (m : List (ByteArray × Bool)) (l : List ByteArray) (hm : Names m l) (hs : x.fName.size < 1000000) (n : Int) (ns : List WaterNode) (cs : List WaterConduit) (i : Nat) (hx : ns[i]? = some x) (hi : (i : Int) < n) (hb : i < 1000000) :
    S16l0_0 n ns cs ((i : Int), m) = some (if nodeE x l = 0 then .inl (((i + 1 : Nat) : Int), putM x.fName true m) else .inr (.inr ((i : Int), nodeE x l))) := by
  have hle : ¬ (n ≤ (i : Int)) := by omega
  simp only [S16l0_0, if_neg hle, geti_at hx, F73_eq, F74_eq, F75_eq _ hs, F72_eq, Option.bind_some, hm x.fName, neg_10000]
  rw [aw_ok (by omega) (by omega), F71_eq _ (by simp), F71_eq _ (by simp)]
  simp only [Option.bind_some]
  unfold nodeE
  cases nameOk x.fName
  · cases x.fLake <;> simp [firstNZ]
  · cases hasB x.fName l
    · cases x.fLake
      · by_cases a : -10000 ≤ x.fDraw <;> by_cases b : x.fDraw ≤ 10000 <;> by_cases c : x.fHead = 0 <;> simp [firstNZ, a, b, c]
      · by_cases a : 0 ≤ x.fHead <;> by_cases b : x.fHead ≤ 1000000 <;> by_cases c : x.fDraw = 0 <;> simp [firstNZ, a, b, c]
    · cases x.fLake <;> simp [firstNZ]
theorem iter_names {τ S : Type} {step : S → Option (S ⊕ (Unit ⊕ (Int × Int)))} (enc : Nat → List (ByteArray × Bool) → S) (xs : List τ) (nm : τ → ByteArray) (E : τ → List ByteArray → Int)
    (hend : ∀ m, step (enc xs.length m) = some (.inr (.inl ())))
    (hstep : ∀ i x m l, xs[i]? = some x → Names m l → i < xs.length → step (enc i m) = some (if E x l = 0 then .inl (enc (i + 1) (putM (nm x) true m)) else .inr (.inr ((i : Int), E x l)))) (hl : xs.length < 1000000) :
    iter step 1000000 (enc 0 []) = some (loopL (fun i x l => if E x l = 0 then .inl (l ++ [nm x]) else .inr (.inr ((i : Int), E x l))) (fun _ => .inl ()) xs 0 []) := by
  have key : ∀ (k i : Nat) (m : List (ByteArray × Bool)) (l : List ByteArray), i + k = xs.length → Names m l →
      iter step (k + 1) (enc i m) = some (loopL (fun i x l => if E x l = 0 then .inl (l ++ [nm x]) else .inr (.inr ((i : Int), E x l))) (fun _ => .inl ()) (xs.drop i) i l) := by
    intro k
    induction k with
    | zero =>
      intro i m l hi _
      have : i = xs.length := by omega
      subst this
      rw [List.drop_length]
      exact iter_out (hend m) 0
    | succ k ih =>
      intro i m l hi hm
      have hlt : i < xs.length := by omega
      have h1 := hstep i xs[i] m l (List.getElem?_eq_getElem hlt) hm hlt
      rw [List.drop_eq_getElem_cons hlt]
      by_cases h0 : E xs[i] l = 0
      · rw [if_pos h0] at h1
        rw [loopL]; simp only [h0, if_true]
        exact iter_in h1 (ih (i + 1) _ _ (by omega) (names_put hm _))
      · rw [if_neg h0] at h1
        rw [loopL]; simp only [if_neg h0]
        exact iter_out h1 _
  have := key xs.length 0 [] [] (by omega) names_nil
  rw [List.drop_zero] at this
  exact iter_mono this (by omega)
theorem L16l0_eq (ns : List WaterNode) (cs : List WaterConduit) (hn : ns.length < 100000) (hN : NamesN ns) : L16l0_0 (ns.length : Int) ns cs (0, []) = some (netLoop ns) :=
  iter_names (step := S16l0_0 (ns.length : Int) ns cs) (fun i m => ((i : Int), m)) ns (fun x => x.fName) nodeE (fun m => by simp [S16l0_0])
    (fun i x m l hx hm hi => node_step x m l hm (hN x (List.mem_of_getElem? hx)) _ ns cs i hx (by omega) (by omega)) (by omega)
theorem F76_eq (a : Int) (ns : List WaterNode) (cs : List WaterConduit) (hn : ns.length < 1000000) : F76_0 a ns cs = some (decide (0 ≤ a) && decide (a ≤ (ns.length : Int) - 1)) := by
  unfold F76_0; rw [F74_eq, aw_ok (by omega) (by omega)]; rfl
theorem cond_step (x : WaterConduit) (m : List (ByteArray × Bool)) (l : List ByteArray) (hm : Names m l) (hs : x.fName.size < 1000000) (n : Int) (ns : List WaterNode) (cs : List WaterConduit) (i : Nat) (hx : cs[i]? = some x) (hi : (i : Int) < n) (hb : i < 1000000) (hn : ns.length < 1000000) :
    S16l1_0 n ns cs ((i : Int), m) = some (if condE x ns.length l = 0 then .inl (((i + 1 : Nat) : Int), putM x.fName true m) else .inr (.inr ((i : Int), condE x ns.length l))) := by
  have hle : ¬ (n ≤ (i : Int)) := by omega
  simp only [S16l1_0, if_neg hle, geti_at hx, F74_eq, F75_eq _ hs, F72_eq, F76_eq _ _ _ hn, Option.bind_some, hm x.fName]
  rw [aw_ok (by omega) (by omega)]
  simp only [F71_eq _ (show ([_, _, _, _, _, _] : List Int).length < 1000000 by simp), Option.bind_some]
  unfold condE
  cases nameOk x.fName
  · by_cases a : 0 ≤ x.fFrom <;> by_cases b : x.fFrom ≤ (ns.length : Int) - 1 <;> cases x.fValve <;> simp [firstNZ, a, b]
  · cases hasB x.fName l
    · by_cases a : 0 ≤ x.fFrom <;> by_cases b : x.fFrom ≤ (ns.length : Int) - 1 <;> by_cases c : 0 ≤ x.fTo <;> by_cases d : x.fTo ≤ (ns.length : Int) - 1 <;>
        simp only [a, b, c, d, decide_true, decide_false, Bool.and_true, Bool.and_false, Bool.false_and, Bool.true_and, if_true, if_false, and_true, and_false, true_and, false_and, Bool.false_eq_true, Bool.not_false]
      · by_cases e : x.fFrom = x.fTo <;> by_cases g : 0 ≤ x.fResist <;> by_cases k : x.fResist ≤ 1000 <;> cases x.fValve <;> cases x.fOpen <;> simp [firstNZ, e, g, k]
      all_goals (cases x.fValve <;> simp [firstNZ])
    · by_cases a : 0 ≤ x.fFrom <;> by_cases b : x.fFrom ≤ (ns.length : Int) - 1 <;> cases x.fValve <;> simp [firstNZ, a, b]
theorem L16l1_eq (ns : List WaterNode) (cs : List WaterConduit) (hn : ns.length < 100000) (hc : cs.length < 100000) (hN : NamesC cs) : L16l1_0 (cs.length : Int) ns cs (0, []) = some (condLoop ns.length cs) :=
  iter_names (step := S16l1_0 (cs.length : Int) ns cs) (fun i m => ((i : Int), m)) cs (fun x => x.fName) (fun x l => condE x ns.length l) (fun m => by simp [S16l1_0])
    (fun i x m l hx hm hi => cond_step x m l hm (hN x (List.mem_of_getElem? hx)) _ ns cs i hx (by omega) (by omega) (by omega)) (by omega)
/-- which nets are valid -/
def checkNet (ns : List WaterNode) (cs : List WaterConduit) : Int × Int :=
  if ns.length = 0 ∨ cs.length = 0 then (0, 10) else if 10 < ns.length ∨ 14 < cs.length then (0, 8) else
    match netLoop ns with
    | .inr r => r
    | .inl _ => match condLoop ns.length cs with
      | .inr r => r
      | .inl _ => (0, 0)
theorem F19_eq (ns : List WaterNode) (cs : List WaterConduit) (hn : ns.length < 100000) (hc : cs.length < 100000) (hN : NamesN ns) (hC : NamesC cs) : F19_0 ns cs = some (checkNet ns cs) := by
  unfold F19_0 checkNet
  rw [L19l0_eq ns cs hn hN, L19l1_eq ns cs hn hc hC]
  by_cases a : ns.length = 0
  · simp [a]
  · by_cases b : cs.length = 0
    · simp [b]
    · by_cases c : ns.length ≤ 10 <;> by_cases d : cs.length ≤ 14
      · have a' : ¬ (ns.length : Int) = 0 := by omega
        have b' : ¬ (cs.length : Int) = 0 := by omega
        have c' : (ns.length : Int) ≤ 10 := by omega
        have d' : (cs.length : Int) ≤ 14 := by omega
        have c2 : ¬ 10 < ns.length := by omega
        have d2 : ¬ 14 < cs.length := by omega
        simp only [a, b, a', b', c', d', c2, d2, if_false, if_true, or_self, Option.bind_some]
        cases netLoop ns with
        | inr r => rfl
        | inl _ => cases condLoop ns.length cs <;> rfl
      · have a' : ¬ (ns.length : Int) = 0 := by omega
        have b' : ¬ (cs.length : Int) = 0 := by omega
        have c' : (ns.length : Int) ≤ 10 := by omega
        have d' : ¬ (cs.length : Int) ≤ 14 := by omega
        have d2 : 14 < cs.length := by omega
        simp [a, b, a', b', c', d', d2]
      · have a' : ¬ (ns.length : Int) = 0 := by omega
        have b' : ¬ (cs.length : Int) = 0 := by omega
        have c' : ¬ (ns.length : Int) ≤ 10 := by omega
        have c2 : 10 < ns.length := by omega
        simp [a, b, a', b', c', c2]
      · have a' : ¬ (ns.length : Int) = 0 := by omega
        have b' : ¬ (cs.length : Int) = 0 := by omega
        have c' : ¬ (ns.length : Int) ≤ 10 := by omega
        have c2 : 10 < ns.length := by omega
        simp [a, b, a', b', c', c2]
theorem F16_eq (ns : List WaterNode) (cs : List WaterConduit) (hn : ns.length < 100000) (hc : cs.length < 100000) (hN : NamesN ns) (hC : NamesC cs) : F16_0 ns cs = some (checkNet ns cs) := by
  unfold F16_0 checkNet
  rw [L16l0_eq ns cs hn hN, L16l1_eq ns cs hn hc hC]
  simp only [F72_eq, F71_eq _ (show ([_, _] : List Int).length < 1000000 by simp), Option.bind_some]
  by_cases a : ns.length = 0
  · have a1 : (ns.length : Int) ≤ 0 := by omega
    have a2 : (ns.length : Int) ≤ 10 := by omega
    simp [a, a1, a2, firstNZ]
  · have a1 : ¬ (ns.length : Int) ≤ 0 := by omega
    by_cases b : cs.length = 0
    · have b1 : (cs.length : Int) ≤ 0 := by omega
      by_cases c : (ns.length : Int) ≤ 10 <;> simp [a, b, a1, c, firstNZ]
    · have b1 : ¬ (cs.length : Int) ≤ 0 := by omega
      by_cases c : ns.length ≤ 10
      · have c1 : (ns.length : Int) ≤ 10 := by omega
        have c2 : ¬ 10 < ns.length := by omega
        by_cases d : cs.length ≤ 14
        · have d1 : (cs.length : Int) ≤ 14 := by omega
          have d2 : ¬ 14 < cs.length := by omega
          simp only [a, b, a1, b1, c1, c2, d1, d2, firstNZ, if_true, if_false, or_self, decide_true, decide_false, Bool.not_false, Option.bind_some]
          cases netLoop ns with
          | inr r => rfl
          | inl _ => cases condLoop ns.length cs <;> rfl
        · have d1 : ¬ (cs.length : Int) ≤ 14 := by omega
          have d2 : 14 < cs.length := by omega
          simp [a, b, a1, b1, c1, c2, d1, d2, firstNZ]
      · have c1 : ¬ (ns.length : Int) ≤ 10 := by omega
        have c2 : 10 < ns.length := by omega
        simp [a, b, a1, b1, c1, c2, firstNZ]
end Go.AI
end
section
/-
  FEW, COPY, LOSS; THE PLAIN LAW OF WaterNets.
-/
set_option linter.unusedVariables false
set_option linter.unusedSimpArgs false
namespace Go.AI
def bodyS {α : Type} (nm : α → ByteArray) (_ : Nat) (x : α) (_ : Unit) : Unit ⊕ (Unit ⊕ Unit) := if (nm x).size ≤ 20 then .inl () else .inr (.inr ())
theorem loopS_eq {α : Type} (nm : α → ByteArray) : ∀ (l : List α) (i : Nat), loopL (bodyS nm) (fun _ => .inl ()) l i () = if l.all (fun x => decide ((nm x).size ≤ 20)) = true then .inl () else .inr () := by
  intro l
  induction l with
  | nil => intro i; rfl
  | cons x l ih =>
    intro i
    rw [loopL]
    by_cases h : (nm x).size ≤ 20
    · have : bodyS nm i x () = .inl () := if_pos h
      rw [this]; simp only [ih, List.all_cons, h, decide_true, Bool.true_and]
    · have : bodyS nm i x () = .inr (.inr ()) := if_neg h
      rw [this]; simp [h]
theorem L15l0_eq (ns : List WaterNode) (cs : List WaterConduit) (hn : ns.length < 100000) : L15l0_0 ns cs 0 = some (if ns.all (fun x => decide (x.fName.size ≤ 20)) = true then .inl () else .inr ()) := by
  have h := iter_list0 (step := S15l0_0 ns cs) (fun i (_ : Unit) => (i : Int)) ns (bodyS fun x => x.fName) (fun _ => .inl ()) (fun _ _ => True)
    (fun a _ => by simp [S15l0_0]) (fun i x a hx hi _ => by
      refine ⟨?_, fun _ _ => trivial⟩
      have hle : ¬ ((ns.length : Int) ≤ (i : Int)) := by omega
      simp only [S15l0_0, if_neg hle, geti_at hx, bodyS]
      rw [aw_ok (by omega) (by omega)]
      by_cases h : x.fName.size ≤ 20
      · have h' : (x.fName.size : Int) ≤ 20 := by omega
        simp [h, h']
      · have h' : ¬ (x.fName.size : Int) ≤ 20 := by omega
        simp [h, h']) (by omega) () trivial
  rw [loopS_eq] at h
  exact h
theorem L15l1_eq (ns : List WaterNode) (cs : List WaterConduit) (hn : cs.length < 100000) : L15l1_0 ns cs 0 = some (if cs.all (fun x => decide (x.fName.size ≤ 20)) = true then .inl () else .inr ()) := by
  have h := iter_list0 (step := S15l1_0 ns cs) (fun i (_ : Unit) => (i : Int)) cs (bodyS fun x => x.fName) (fun _ => .inl ()) (fun _ _ => True)
    (fun a _ => by simp [S15l1_0]) (fun i x a hx hi _ => by
      refine ⟨?_, fun _ _ => trivial⟩
      have hle : ¬ ((cs.length : Int) ≤ (i : Int)) := by omega
      simp only [S15l1_0, if_neg hle, geti_at hx, bodyS]
      rw [aw_ok (by omega) (by omega)]
      by_cases h : x.fName.size ≤ 20
      · have h' : (x.fName.size : Int) ≤ 20 := by omega
        simp [h, h']
      · have h' : ¬ (x.fName.size : Int) ≤ 20 := by omega
        simp [h, h']) (by omega) () trivial
  rw [loopS_eq] at h
  exact h
structure FewN (ns : List WaterNode) (cs : List WaterConduit) : Prop where
  n : ns.length ≤ 12
  c : cs.length ≤ 16
  nn : ∀ x ∈ ns, x.fName.size ≤ 20
  cn : ∀ x ∈ cs, x.fName.size ≤ 20
theorem F15_spec (ns : List WaterNode) (cs : List WaterConduit) : F15_0 ns cs = some false ∨ (F15_0 ns cs = some true ∧ FewN ns cs) := by
  unfold F15_0
  by_cases a : ns.length ≤ 12
  · by_cases b : cs.length ≤ 16
    · rw [if_pos (by omega), if_pos (by omega), L15l0_eq ns cs (by omega), L15l1_eq ns cs (by omega)]
      by_cases c : ns.all (fun x => decide (x.fName.size ≤ 20)) = true
      · by_cases d : cs.all (fun x => decide (x.fName.size ≤ 20)) = true
        · right
          refine ⟨by simp [c, d], a, b, fun x hx => ?_, fun x hx => ?_⟩
          · simpa using List.all_eq_true.1 c x hx
          · simpa using List.all_eq_true.1 d x hx
        · left; simp [c, d]
      · left; simp [c]
    · left; rw [if_pos (by omega), if_neg (by omega)]
  · left; rw [if_neg (by omega)]
theorem FewN.names {ns : List WaterNode} {cs : List WaterConduit} (h : FewN ns cs) : NamesN ns := fun x hx => by have := h.nn x hx; omega
theorem FewN.cnames {ns : List WaterNode} {cs : List WaterConduit} (h : FewN ns cs) : NamesC cs := fun x hx => by have := h.cn x hx; omega
theorem F17_eq (ns : List WaterNode) (cs : List WaterConduit) (h : FewN ns cs) : F17_0 ns cs = some () := by
  have h1 := h.n; have h2 := h.c
  unfold F17_0; rw [room_le (by omega), room_le (by omega)]
theorem F19_few {ns : List WaterNode} {cs : List WaterConduit} (h : FewN ns cs) : F19_0 ns cs = some (checkNet ns cs) :=
  F19_eq ns cs (by have := h.n; omega) (by have := h.c; omega) h.names h.cnames
theorem F16_few {ns : List WaterNode} {cs : List WaterConduit} (h : FewN ns cs) : F16_0 ns cs = some (checkNet ns cs) :=
  F16_eq ns cs (by have := h.n; omega) (by have := h.c; omega) h.names h.cnames
theorem F21_eq (q : Int) : F21_0 q = some (if -200000 ≤ q ∧ q ≤ 200000 then 0 else 2) := by
  unfold F21_0; rw [F20_eq]
  by_cases a : -200000 ≤ q <;> by_cases b : q ≤ 200000 <;> simp [a, b]
noncomputable def lossV (c q : Int) : Int := aw .i64 (aw .i64 (c * q) * max q (aw .i64 (0 - q)))
theorem F77_eq (c q : Int) : F77_0 c q = some (lossV c q) := rfl
theorem F22_eq (c q : Int) : F22_0 c q = some (lossV c q) := rfl
/-- **THE PLAIN LAW OF WaterNets** -/
theorem plainWaterNets (r q : Int) (ns : List WaterNode) (cs : List WaterConduit) : F3_0 r q ns cs = some true := by
  unfold F3_0
  rcases F15_spec ns cs with h | ⟨h, hf⟩
  · rw [h]; rfl
  · rw [h, F17_eq ns cs hf, F16_few hf, F19_few hf]
    simp only [Option.bind_some, if_true]
    generalize checkNet ns cs = k
    obtain ⟨k1, k2⟩ := k
    unfold F18_0
    simp only [bind2_some, F20_eq, F21_eq, F74_eq, F73_eq, F77_eq, F22_eq, neg_200000, if_true, Option.bind_some]
    by_cases a : 0 ≤ r <;> by_cases b : r ≤ 1000 <;> by_cases c : -200000 ≤ q <;> by_cases d : q ≤ 200000 <;> simp [a, b, c, d]
end Go.AI
end
section
/-
  THE FLOW THROUGH A CONDUIT, THROUGH PARALLEL ONES; THE DROP FOR A FLOW.
-/
set_option linter.unusedVariables false
set_option linter.unusedSimpArgs false
namespace Go.AI
theorem sq_le {a b : Int} (h0 : 0 ≤ a) (h : a ≤ b) : a * a ≤ b * b := Int.mul_le_mul h h h0 (by omega)
theorem csq_le {c a b : Int} (hc : 0 ≤ c) (h0 : 0 ≤ a) (h : a ≤ b) : c * a * a ≤ c * b * b := by
  rw [Int.mul_assoc, Int.mul_assoc]; exact Int.mul_le_mul_of_nonneg_left (sq_le h0 h) hc
theorem csq_bound {c a : Int} (hc : 0 ≤ c) (hc2 : c ≤ 1000) (h0 : 0 ≤ a) (h : a ≤ 40000) : 0 ≤ c * a * a ∧ c * a * a ≤ 1600000000000 ∧ 0 ≤ c * a ∧ c * a ≤ 40000000 := by
  have h1 : 0 ≤ c * a := Int.mul_nonneg hc h0
  have h2 : c * a ≤ 1000 * 40000 := Int.mul_le_mul hc2 h h0 (by omega)
  have h3 : 0 ≤ c * a * a := Int.mul_nonneg h1 h0
  have h4 : c * a * a ≤ 1000 * 40000 * 40000 := Int.mul_le_mul h2 h h0 (by omega)
  exact ⟨h3, by omega, h1, by omega⟩
/-- lo and hi are the flow through a conduit of coefficient c at the drop d -/
structure Thr (c d lo hi : Int) : Prop where
  hi0 : 0 ≤ hi
  hi1 : hi ≤ 31623
  ge : d ≤ c * hi * hi
  lt : 0 < hi → c * (hi - 1) * (hi - 1) < d
  lo : lo = if c * hi * hi ≤ d then hi else hi - 1
theorem F134_eq {c d q : Int} (hc : 1 ≤ c) (hc2 : c ≤ 1000) (h0 : 0 ≤ q) (h1 : q ≤ 40000) : F134_0 q c d = some (decide (d ≤ c * q * q)) := by
  obtain ⟨h2, h3, h4, h5⟩ := csq_bound (c := c) (a := q) (by omega) hc2 h0 h1
  unfold F134_0
  rw [aw_ok (n := c * q) (by omega) (by omega), aw_ok (by omega) (by omega)]
theorem F83_ok {c d : Int} (hc : 1 ≤ c) (hc2 : c ≤ 1000) (hd : 0 ≤ d) (hd2 : d ≤ 1000000000) : ∃ lo hi, F83_0 c d = some (lo, hi) ∧ Thr c d lo hi := by
  obtain ⟨r, hr, h1, h2, h3, h4⟩ := least_iter (step := S84l0_0 c d) (p := fun q => decide (d ≤ c * q * q)) (lo := 0) (hi := 31623) (by omega) (by omega) (by omega)
    (fun a b h => by simp [S84l0_0, h]) (fun a b h1 h2 h3 => by
      simp only [S84l0_0, if_neg (show ¬ b ≤ a by omega)]
      rw [half_mid (by omega) (by omega) h2]
      have hm : (b - a) / 2 ≤ b - a := by omega
      have hm0 : 0 ≤ (b - a) / 2 := by omega
      have hm2 : a + (b - a) / 2 < b := by omega
      rw [F134_eq hc hc2 (by omega) (by omega)]
      simp only [Option.bind_some]
      rw [aw_ok (n := a + (b - a) / 2 + 1) (by omega) (by omega)]
      by_cases h : d ≤ c * (a + (b - a) / 2) * (a + (b - a) / 2) <;> simp [h])
  have hbig : d ≤ c * 31623 * 31623 := by
    have : (1 : Int) * 31623 * 31623 ≤ c * 31623 * 31623 := by omega
    omega
  have hge : d ≤ c * r * r := by
    by_cases h : r < 31623
    · simpa using h3 h
    · have : r = 31623 := by omega
      rw [this]; exact hbig
  obtain ⟨k1, k2, k3, k4⟩ := csq_bound (c := c) (a := r) (by omega) hc2 h1 (by omega)
  refine ⟨if c * r * r ≤ d then r else r - 1, r, ?_, h1, h2, hge, fun h => ?_, rfl⟩
  · unfold F83_0 F84_0 L84l0_0
    rw [hr]
    simp only [Option.bind_some]
    rw [aw_ok (n := c * r) (by omega) (by omega), aw_ok (n := c * r * r) (by omega) (by omega), aw_ok (n := r - 1) (by omega) (by omega)]
    by_cases h : c * r * r ≤ d <;> simp [h]
  · have := h4 h; simpa using this
noncomputable def thr (c d : Int) : Int × Int := (F83_0 c d).getD (0, 0)
structure Co (c : Int) : Prop where
  ge : 1 ≤ c
  le : c ≤ 1000
structure Dr (d : Int) : Prop where
  ge : 0 ≤ d
  le : d ≤ 1000000000
theorem F83_eq {c d : Int} (hc : Co c) (hd : Dr d) : F83_0 c d = some (thr c d) ∧ Thr c d (thr c d).1 (thr c d).2 := by
  obtain ⟨lo, hi, h, ht⟩ := F83_ok hc.ge hc.le hd.ge hd.le
  unfold thr; rw [h]; exact ⟨rfl, ht⟩
theorem thr_le {c d lo hi lo' hi' : Int} {d' : Int} (hc : Co c) (h : Thr c d lo hi) (h' : Thr c d' lo' hi') (hd : d ≤ d') : lo ≤ lo' ∧ hi ≤ hi' := by
  have hc0 : 0 ≤ c := by have := hc.ge; omega
  have h1 : hi ≤ hi' := by
    by_cases hlt : hi' < hi
    · have := csq_le hc0 h'.hi0 (show hi' ≤ hi - 1 by omega)
      have := h.lt (by have := h'.hi0; omega)
      have := h'.ge
      omega
    · omega
  refine ⟨?_, h1⟩
  rw [h.lo, h'.lo]
  by_cases a : c * hi * hi ≤ d
  · by_cases b : c * hi' * hi' ≤ d'
    · simp [a, b, h1]
    · have hne : hi ≠ hi' := fun he => by subst he; have := h'.ge; omega
      simp only [a, b, if_true, if_false]; omega
  · by_cases b : c * hi' * hi' ≤ d'
    · simp only [a, b, if_true, if_false]; omega
    · simp only [a, b, if_false]; omega
theorem thr_facts {c d lo hi : Int} (hc : Co c) (hd : Dr d) (h : Thr c d lo hi) : 0 ≤ lo ∧ lo ≤ hi ∧ hi - lo ≤ 1 ∧ c * lo * lo ≤ d := by
  have hc0 : 0 ≤ c := by have := hc.ge; omega
  have h0 := h.hi0
  by_cases a : c * hi * hi ≤ d
  · have e : lo = hi := by rw [h.lo, if_pos a]
    subst e; exact ⟨h0, Int.le_refl _, by omega, a⟩
  · have e : lo = hi - 1 := by rw [h.lo, if_neg a]
    have h1 : 0 < hi := by
      rcases Int.lt_or_eq_of_le h0 with h1 | h1
      · exact h1
      · rw [← h1] at a; have := hd.ge; simp at a; omega
    have h5 := h.lt h1
    subst e; exact ⟨by omega, by omega, by omega, by omega⟩
/-! parallel conduits -/
noncomputable def par (d : Int) : List Int → Int × Int
  | [] => (0, 0)
  | c :: l => ((thr c d).1 + (par d l).1, (thr c d).2 + (par d l).2)
theorem par_facts {d : Int} (hd : Dr d) : ∀ (l : List Int), (∀ c ∈ l, Co c) → 0 ≤ (par d l).1 ∧ (par d l).1 ≤ (par d l).2 ∧ (par d l).2 - (par d l).1 ≤ l.length ∧ (par d l).2 ≤ 31623 * l.length := by
  intro l
  induction l with
  | nil => intro _; simp [par]
  | cons c l ih =>
    intro h
    have hc := h c (.head _)
    obtain ⟨h1, h2, h3, h4⟩ := ih fun x hx => h x (.tail _ hx)
    have ht := (F83_eq hc hd).2
    obtain ⟨k1, k2, k3, _⟩ := thr_facts hc hd ht
    have := ht.hi1
    simp only [par, List.length_cons]
    omega
theorem par_mono {d d' : Int} (hd : Dr d) (hd' : Dr d') (hle : d ≤ d') : ∀ (l : List Int), (∀ c ∈ l, Co c) → (par d l).1 ≤ (par d' l).1 ∧ (par d l).2 ≤ (par d' l).2 := by
  intro l
  induction l with
  | nil => intro _; simp [par]
  | cons c l ih =>
    intro h
    have hc := h c (.head _)
    obtain ⟨h1, h2⟩ := ih fun x hx => h x (.tail _ hx)
    obtain ⟨k1, k2⟩ := thr_le hc (F83_eq hc hd).2 (F83_eq hc hd').2 hle
    simp only [par]
    omega
theorem F82_eq {d : Int} (hd : Dr d) (l : List Int) (hl : l.length ≤ 1000) (h : ∀ c ∈ l, Co c) : F82_0 d l = some (par d l) := by
  have h1 := iter_list0 (step := S82l0_0 d (l.length : Int) l) (fun i (a : Int × Int) => ((i : Int), a.1, a.2)) l (fun _ c a => .inl (a.1 + (thr c d).1, a.2 + (thr c d).2)) (fun a => (a.1, a.2))
    (fun i a => 0 ≤ a.1 ∧ a.1 ≤ 31623 * i ∧ 0 ≤ a.2 ∧ a.2 ≤ 31623 * i)
    (fun a _ => by simp [S82l0_0]) (fun i c a hx hi ha => by
      have hle : ¬ ((l.length : Int) ≤ (i : Int)) := by omega
      have hc := h c (List.mem_of_getElem? hx)
      have ht := (F83_eq hc hd).2
      obtain ⟨k1, k2, k3, _⟩ := thr_facts hc hd ht
      have k4 := ht.hi1
      simp only [S82l0_0, if_neg hle, geti_at hx, (F83_eq hc hd).1]
      clear ht
      generalize thr c d = t at k1 k2 k3 k4
      obtain ⟨t1, t2⟩ := t
      simp only at k1 k2 k3 k4
      simp only [bind2_some]
      rw [aw_ok (n := (i : Int) + 1) (by omega) (by omega), aw_ok (n := a.1 + t1) (by omega) (by omega), aw_ok (n := a.2 + t2) (by omega) (by omega)]
      refine ⟨by simp, fun a' h => ?_⟩
      cases h
      simp only
      omega) (by omega) (0, 0) (by simp)
  have key : ∀ (l : List Int) (i : Nat) (a : Int × Int), loopL (fun (_ : Nat) (c : Int) (a : Int × Int) => (.inl (a.1 + (thr c d).1, a.2 + (thr c d).2) : (Int × Int) ⊕ (Int × Int))) (fun a => (a.1, a.2)) l i a = (a.1 + (par d l).1, a.2 + (par d l).2) := by
    intro l
    induction l with
    | nil => intro i a; simp [loopL, par]
    | cons c l ih =>
      intro i a
      rw [loopL]
      simp only [ih, par]
      exact Prod.ext (by simp; omega) (by simp; omega)
  rw [key] at h1
  unfold F82_0 L82l0_0
  simp only [Int.zero_add] at h1
  have h2 : iter (S82l0_0 d (l.length : Int) l) 1000000 (0, 0, 0) = some (par d l) := h1
  rw [h2]
  rfl
end Go.AI
end
section
/-
  ERRORS OF COEFFICIENTS AND DROPS; PARALLEL CONDUITS; THE DROP FOR A FLOW; THE PLAIN LAW OF WaterMonotone.
-/
set_option linter.unusedVariables false
set_option linter.unusedSimpArgs false
namespace Go.AI
def coB (c : Int) : Bool := decide (1 ≤ c) && decide (c ≤ 1000)
theorem coB_iff (c : Int) : coB c = true ↔ Co c := by
  unfold coB
  constructor
  · intro h; simp at h; exact ⟨h.1, h.2⟩
  · intro h; simp [h.ge, h.le]
def drB (d : Int) : Bool := decide (0 ≤ d) && decide (d ≤ 1000000000)
theorem drB_iff (d : Int) : drB d = true ↔ Dr d := by
  unfold drB
  constructor
  · intro h; simp at h; exact ⟨h.1, h.2⟩
  · intro h; simp [h.ge, h.le]
def resE (l : List Int) : Int := if l.length = 0 then 10 else if 8 < l.length then 8 else if l.all coB = true then 0 else 2
theorem resE_ok {l : List Int} (h : resE l = 0) : 1 ≤ l.length ∧ l.length ≤ 8 ∧ ∀ c ∈ l, Co c := by
  unfold resE at h
  by_cases a : l.length = 0
  · rw [if_pos a] at h; cases h
  · rw [if_neg a] at h
    by_cases b : 8 < l.length
    · rw [if_pos b] at h; cases h
    · rw [if_neg b] at h
      by_cases c : l.all coB = true
      · exact ⟨by omega, by omega, fun x hx => (coB_iff x).1 (List.all_eq_true.1 c x hx)⟩
      · rw [if_neg c] at h; cases h
theorem F44_eq (c : Int) : F44_0 c = some (if coB c = true then 0 else 2) := by
  unfold F44_0; rw [F20_eq]; unfold coB
  by_cases a : 1 ≤ c <;> by_cases b : c ≤ 1000 <;> simp [a, b]
theorem F24_eq (d : Int) : F24_0 d = some (if drB d = true then 0 else 2) := by
  unfold F24_0; rw [F20_eq]; unfold drB
  by_cases a : 0 ≤ d <;> by_cases b : d ≤ 1000000000 <;> simp [a, b]
theorem F81_eq (d : Int) : F81_0 d = some (if drB d = true then 0 else 2) := by
  unfold F81_0; rw [F74_eq]; simp only [F72_eq, Option.bind_some]; unfold drB
  by_cases a : 0 ≤ d <;> by_cases b : d ≤ 1000000000 <;> simp [a, b]
theorem F23_eq (l : List Int) : F23_0 l = some (resE l) := by
  unfold F23_0 resE
  by_cases a : l.length = 0
  · simp [a]
  · have a' : ¬ (l.length : Int) = 0 := by omega
    by_cases b : l.length ≤ 8
    · have b' : (l.length : Int) ≤ 8 := by omega
      have b2 : ¬ 8 < l.length := by omega
      simp only [a, a', b', b2, if_true, if_false]
      have h := iter_list0 (step := S23l0_0 l) (fun i (_ : Unit) => (i : Int)) l (fun _ c _ => if coB c = true then .inl () else .inr (.inr 2)) (fun _ => .inl ()) (fun _ _ => True)
        (fun a _ => by simp [S23l0_0]) (fun i c a hx hi _ => by
          refine ⟨?_, fun _ _ => trivial⟩
          have hle : ¬ ((l.length : Int) ≤ (i : Int)) := by omega
          simp only [S23l0_0, if_neg hle, geti_at hx, F44_eq, Option.bind_some]
          rw [aw_ok (by omega) (by omega)]
          cases coB c <;> simp) (by omega) () trivial
      have key : ∀ (l : List Int) (i : Nat), (loopL (fun (_ : Nat) (c : Int) (_ : Unit) => if coB c = true then (.inl () : Unit ⊕ (Unit ⊕ Int)) else .inr (.inr 2)) (fun _ => .inl ()) l i ()) = (if l.all coB = true then .inl () else .inr 2) := by
        intro l
        induction l with
        | nil => intro i; rfl
        | cons x l ih =>
          intro i
          rw [loopL]
          cases hx : coB x
          · simp [hx]
          · simp only [if_true, ih, List.all_cons, hx, Bool.true_and]
      rw [key] at h
      unfold L23l0_0
      rw [show ((0 : Int)) = ((0 : Nat) : Int) from rfl, h]
      cases l.all coB <;> simp
    · have b' : ¬ (l.length : Int) ≤ 8 := by omega
      have b2 : 8 < l.length := by omega
      simp [a, a', b', b2]
theorem F133_eq (c : Int) : F133_0 c = some (!coB c) := by unfold F133_0; rw [F74_eq]; rfl
theorem F119_eq (l : List Int) (hl : l.length < 100000) : F119_0 l = some (!l.all coB) := by
  have h := iter_list0 (step := S149l0_0 (l.length : Int) l) (fun i (_ : Unit) => (i : Int)) l (fun i c _ => if coB c = true then .inl () else .inr (.inr (i : Int))) (fun _ => .inl ()) (fun _ _ => True)
    (fun a _ => by simp [S149l0_0]) (fun i c a hx hi _ => by
      refine ⟨?_, fun _ _ => trivial⟩
      have hle : ¬ ((l.length : Int) ≤ (i : Int)) := by omega
      simp only [S149l0_0, if_neg hle, geti_at hx, F133_eq, Option.bind_some]
      rw [aw_ok (by omega) (by omega)]
      cases coB c <;> simp) (by omega) () trivial
  have key : ∀ (l : List Int) (i : Nat), ((loopL (fun (i : Nat) (c : Int) (_ : Unit) => if coB c = true then (.inl () : Unit ⊕ (Unit ⊕ Int)) else .inr (.inr (i : Int))) (fun _ => .inl ()) l i ()) = .inl () ∧ l.all coB = true) ∨
      ∃ k : Nat, (loopL (fun (i : Nat) (c : Int) (_ : Unit) => if coB c = true then (.inl () : Unit ⊕ (Unit ⊕ Int)) else .inr (.inr (i : Int))) (fun _ => .inl ()) l i ()) = .inr (k : Int) ∧ l.all coB = false := by
    intro l
    induction l with
    | nil => intro i; exact .inl ⟨rfl, rfl⟩
    | cons x l ih =>
      intro i
      rw [loopL]
      cases hx : coB x
      · right; exact ⟨i, by simp, by simp [hx]⟩
      · simp only [if_true, List.all_cons, hx, Bool.true_and]; exact ih (i + 1)
  unfold F119_0 F149_0 L149l0_0
  rw [show ((0 : Int)) = ((0 : Nat) : Int) from rfl, h]
  rcases key l 0 with ⟨h1, h2⟩ | ⟨k, h1, h2⟩
  · rw [h1, h2]; simp
  · rw [h1, h2]; simp
theorem F80_eq (l : List Int) (hl : l.length < 100000) : F80_0 l = some (resE l) := by
  unfold F80_0 resE
  simp only [F119_eq l hl, F72_eq, F71_eq _ (show ([_, _, _] : List Int).length < 1000000 by simp), Option.bind_some]
  by_cases a : l.length = 0
  · have a' : (l.length : Int) ≤ 0 := by omega
    simp [a, a', firstNZ]
  · have a' : ¬ (l.length : Int) ≤ 0 := by omega
    by_cases b : 8 < l.length
    · have b' : ¬ (l.length : Int) ≤ 8 := by omega
      simp [a, a', b, b', firstNZ]
    · have b' : (l.length : Int) ≤ 8 := by omega
      cases hc : l.all coB <;> simp [a, a', b, b', firstNZ]
theorem F26_eq (l : List Int) (hl : l.length < 100000) : F26_0 l = some () := by unfold F26_0; rw [room_le (by omega)]
theorem F25_ok {d : Int} {l : List Int} (hd : Dr d) (hl : resE l = 0) : F25_0 d l = some ((par d l).1, (par d l).2, 0) := by
  obtain ⟨h1, h2, h3⟩ := resE_ok hl
  unfold F25_0
  simp only [F80_eq l (by omega), F81_eq, (drB_iff d).2 hd, hl, if_true, Option.bind_some, F71_eq _ (show ([_, _] : List Int).length < 1000000 by simp), firstNZ, F82_eq hd l (by omega) h3]
  generalize par d l = t
  obtain ⟨a, b⟩ := t
  rfl
theorem resE_one {c : Int} (hc : Co c) : resE [c] = 0 := by simp [resE, (coB_iff c).2 hc]
theorem F27_ok {c d : Int} (hc : Co c) (hd : Dr d) : F27_0 c d = some ((thr c d).1, (thr c d).2, 0) := by
  unfold F27_0
  simp only [F80_eq [c] (by simp), F81_eq, (drB_iff d).2 hd, resE_one hc, if_true, Option.bind_some, F71_eq _ (show ([_, _] : List Int).length < 1000000 by simp), firstNZ, (F83_eq hc hd).1]
  generalize thr c d = t
  obtain ⟨a, b⟩ := t
  rfl
/-! the drop for a flow -/
theorem F85_eq {d : Int} (hd : Dr d) {l : List Int} (hl : l.length ≤ 1000) (h : ∀ c ∈ l, Co c) (q : Int) : F85_0 d l q = some (decide (q ≤ (par d l).2)) := by
  unfold F85_0; rw [F82_eq hd l hl h]; rfl
theorem F86_eq {d : Int} (hd : Dr d) {l : List Int} (hl : l.length ≤ 1000) (h : ∀ c ∈ l, Co c) (q : Int) : F86_0 d l q = some (decide (q ≤ (par d l).1)) := by
  unfold F86_0; rw [F82_eq hd l hl h]; rfl
theorem F84_hi {lo q : Int} {l : List Int} (h0 : 0 ≤ lo) (h1 : lo ≤ 1000000001) (hl : l.length ≤ 1000) (h : ∀ c ∈ l, Co c) :
    ∃ r, F84_1 lo 1000000001 l q = some r ∧ lo ≤ r ∧ r ≤ 1000000001 ∧ (r ≤ 1000000000 → q ≤ (par r l).2) ∧ (lo < r → (par (r - 1) l).2 < q) := by
  obtain ⟨r, hr, a1, a2, a3, a4⟩ := least_iter (step := S84l0_1 l q) (p := fun d => decide (q ≤ (par d l).2)) (lo := lo) (hi := 1000000001) (by omega) (by omega) h1
    (fun a b h => by simp [S84l0_1, h]) (fun a b b1 b2 b3 => by
      simp only [S84l0_1, if_neg (show ¬ b ≤ a by omega)]
      rw [half_mid (by omega) (by omega) b2]
      have hm : (b - a) / 2 ≤ b - a := by omega
      have hm0 : 0 ≤ (b - a) / 2 := by omega
      have hm2 : a + (b - a) / 2 < b := by omega
      rw [F85_eq ⟨by omega, by omega⟩ hl h]
      simp only [Option.bind_some]
      rw [aw_ok (n := a + (b - a) / 2 + 1) (by omega) (by omega)]
      by_cases hp : q ≤ (par (a + (b - a) / 2) l).2 <;> simp [hp])
  refine ⟨r, ?_, a1, a2, fun h => by simpa using a3 (by omega), fun h => by simpa using a4 h⟩
  unfold F84_1 L84l0_1; rw [hr]; rfl
theorem F84_lo {lo q : Int} {l : List Int} (h0 : 0 ≤ lo) (h1 : lo ≤ 1000000001) (hl : l.length ≤ 1000) (h : ∀ c ∈ l, Co c) :
    ∃ r, F84_2 lo 1000000001 l q = some r ∧ lo ≤ r ∧ r ≤ 1000000001 ∧ (r ≤ 1000000000 → q ≤ (par r l).1) ∧ (lo < r → (par (r - 1) l).1 < q) := by
  obtain ⟨r, hr, a1, a2, a3, a4⟩ := least_iter (step := S84l0_2 l q) (p := fun d => decide (q ≤ (par d l).1)) (lo := lo) (hi := 1000000001) (by omega) (by omega) h1
    (fun a b h => by simp [S84l0_2, h]) (fun a b b1 b2 b3 => by
      simp only [S84l0_2, if_neg (show ¬ b ≤ a by omega)]
      rw [half_mid (by omega) (by omega) b2]
      have hm : (b - a) / 2 ≤ b - a := by omega
      have hm0 : 0 ≤ (b - a) / 2 := by omega
      have hm2 : a + (b - a) / 2 < b := by omega
      rw [F86_eq ⟨by omega, by omega⟩ hl h]
      simp only [Option.bind_some]
      rw [aw_ok (n := a + (b - a) / 2 + 1) (by omega) (by omega)]
      by_cases hp : q ≤ (par (a + (b - a) / 2) l).1 <;> simp [hp])
  refine ⟨r, ?_, a1, a2, fun h => by simpa using a3 (by omega), fun h => by simpa using a4 h⟩
  unfold F84_2 L84l0_2; rw [hr]; rfl
/-- the drop for a flow: the program's answer, and what it means -/
theorem F28_ok {q : Int} {l : List Int} (hq : 0 ≤ q ∧ q ≤ 10000) (hl : resE l = 0) :
    ∃ lo hi, 0 ≤ lo ∧ lo ≤ hi ∧ hi ≤ 1000000001 ∧ (lo ≤ 1000000000 → q ≤ (par lo l).2) ∧ (0 < lo → (par (lo - 1) l).2 < q) ∧ (hi ≤ 1000000000 → q ≤ (par hi l).1) ∧ (lo < hi → (par (hi - 1) l).1 < q) ∧
      F28_0 q l = some (if hi ≤ 1000000000 then (lo, hi, 0) else (0, 0, 12)) := by
  obtain ⟨h1, h2, h3⟩ := resE_ok hl
  obtain ⟨lo, e1, a1, a2, a3, a4⟩ := F84_hi (q := q) (l := l) (lo := 0) (by omega) (by omega) (by omega) h3
  obtain ⟨hi, e2, b1, b2, b3, b4⟩ := F84_lo (q := q) (l := l) (lo := lo) (by omega) (by omega) (by omega) h3
  refine ⟨lo, hi, a1, b1, b2, a3, a4, b3, b4, ?_⟩
  unfold F28_0
  simp only [F80_eq l (by omega), F74_eq, F72_eq, hl, hq.1, hq.2, decide_true, Bool.and_self, if_true, Option.bind_some, F71_eq _ (show ([_, _] : List Int).length < 1000000 by simp), firstNZ, e1, e2]
  by_cases h : hi ≤ 1000000000 <;> simp [h]
/-! the loop of the law -/
theorem L4_eq {q : Int} {l : List Int} {d d' : Int} (hd : Dr d) (hl : resE l = 0) : L4l0_0 q l d d' 0 = some (.inl ()) := by
  obtain ⟨h1, h2, h3⟩ := resE_ok hl
  have h := iter_list0 (step := S4l0_0 q l d d') (fun i (_ : Unit) => (i : Int)) l (fun _ _ _ => (.inl () : Unit ⊕ (Unit ⊕ Unit))) (fun _ => .inl ()) (fun _ _ => True)
    (fun a _ => by simp [S4l0_0]) (fun i c a hx hi _ => by
      refine ⟨?_, fun _ _ => trivial⟩
      have hle : ¬ ((l.length : Int) ≤ (i : Int)) := by omega
      have hc := h3 c (List.mem_of_getElem? hx)
      have ht := (F83_eq hc hd).2
      obtain ⟨k1, k2, k3, k4⟩ := thr_facts hc hd ht
      have k5 := ht.hi1
      have k6 := ht.ge
      have hc1 := hc.ge
      have hc2 := hc.le
      simp only [S4l0_0, if_neg hle, geti_at hx, F27_ok hc hd, F20_eq, bind3_some, Option.bind_some]
      obtain ⟨m1, m2, m3, m4⟩ := csq_bound (c := c) (a := (thr c d).1) (by omega) hc2 k1 (by omega)
      obtain ⟨n1, n2, n3, n4⟩ := csq_bound (c := c) (a := (thr c d).2) (by omega) hc2 (by omega) (by omega)
      rw [aw_ok (n := (i : Int) + 1) (by omega) (by omega), aw_ok (n := c * (thr c d).1) (by omega) (by omega), aw_ok (n := c * (thr c d).1 * (thr c d).1) (by omega) (by omega),
        aw_ok (n := c * (thr c d).2) (by omega) (by omega), aw_ok (n := c * (thr c d).2 * (thr c d).2) (by omega) (by omega)]
      simp [k1, k2, k4, k6, show (thr c d).2 ≤ 40000 by omega]) (by omega) () trivial
  have key : ∀ (l : List Int) (i : Nat), (loopL (fun (_ : Nat) (_ : Int) (_ : Unit) => (.inl () : Unit ⊕ (Unit ⊕ Unit))) (fun _ => .inl ()) l i ()) = .inl () := by
    intro l
    induction l with
    | nil => intro i; rfl
    | cons x l ih => intro i; rw [loopL]; simp only [ih]
  rw [key] at h
  exact h
/-- **THE PLAIN LAW OF WaterMonotone** -/
theorem plainWaterMonotone (d0 d1 q : Int) (l : List Int) : F4_0 d0 d1 q l = some true := by
  unfold F4_0
  rw [F23_eq]
  simp only [Option.bind_some, F24_eq, F20_eq]
  by_cases hl : resE l = 0
  · obtain ⟨h1, h2, h3⟩ := resE_ok hl
    cases e0 : drB d0
    · simp [hl]
    · cases e1 : drB d1
      · simp [hl]
      · by_cases hle : d0 ≤ d1
        · by_cases hq : 0 ≤ q ∧ q ≤ 10000
          · have hd0 := (drB_iff d0).1 e0
            have hd1 := (drB_iff d1).1 e1
            obtain ⟨p1, p2, p3, p4⟩ := par_facts hd0 l h3
            obtain ⟨m1, m2⟩ := par_mono hd0 hd1 hle l h3
            obtain ⟨c, l', rfl⟩ : ∃ c l', l = c :: l' := by
              cases l with
              | nil => simp at h1
              | cons c l' => exact ⟨c, l', rfl⟩
            have hc := h3 c (.head _)
            have h26 : F26_1 1 (c :: l').length (c :: l') = some [c] := by
              unfold F26_1 partL
              rw [if_pos (by simp)]; simp [room]
            have hinx : inx 1 ((c :: l').length + 1) = some 1 := inx_nat (i := 1) (by simp)
            obtain ⟨q1, q2, q3, q4⟩ := par_facts hd0 l' (fun x hx => h3 x (.tail _ hx))
            have hpc : par d0 [c] = thr c d0 := by simp [par]
            have hsum : par d0 (c :: l') = ((thr c d0).1 + (par d0 l').1, (thr c d0).2 + (par d0 l').2) := rfl
            obtain ⟨lo, hi, a1, a2, a3, a4, a5, a6, a7, e28⟩ := F28_ok (q := q) hq hl
            simp only [hl, hle, hq.1, hq.2, if_true, decide_true, Bool.and_self, F26_eq _ (show (c :: l').length < 100000 by omega), Option.bind_some, F25_ok hd0 hl, F25_ok hd1 hl, bind3_some, hinx, h26,
              F25_ok hd0 (resE_one hc), hpc, L4_eq hd0 hl, e28]
            have g1 : (thr c d0).1 ≤ (par d0 (c :: l')).1 := by rw [hsum]; simp only; omega
            have g2 : (thr c d0).2 ≤ (par d0 (c :: l')).2 := by rw [hsum]; simp only; omega
            rw [aw_ok (n := (par d0 (c :: l')).2 - (par d0 (c :: l')).1) (by omega) (by omega)]
            simp only [p1, p2, m1, m2, g1, g2, p3, show 0 ≤ (par d0 (c :: l')).2 - (par d0 (c :: l')).1 by omega, decide_true, Bool.and_self, if_true]
            by_cases hhi : hi ≤ 1000000000
            · have dlo : Dr lo := ⟨a1, by omega⟩
              have dhi : Dr hi := ⟨by omega, hhi⟩
              simp only [hhi, if_true, bind3_some, F20_eq, a1, a2, decide_true, Bool.and_self, Option.bind_some, F25_ok dlo hl, F25_ok dhi hl, a4 (by omega), a6 hhi]
            · simp only [hhi, if_false, bind3_some]
              rfl
          · by_cases x1 : 0 ≤ q
            · have x2 : ¬ q ≤ 10000 := fun h => hq ⟨x1, h⟩
              simp [hl, hle, x1, x2]
            · simp [hl, hle, x1]
        · simp [hl, hle]
  · simp [hl]
end Go.AI
end
section
/-
  ROOTS, BIT BY BIT; THE REFERENCE's FLOWS AND DROPS ARE THE PROGRAM's.
-/
set_option linter.unusedVariables false
set_option linter.unusedSimpArgs false
namespace Go.AI
theorem sq_bound {a b : Int} (h0 : 0 ≤ a) (h : a ≤ b) (hb : b ≤ 2147483648) : 0 ≤ a * a ∧ a * a ≤ 4611686018427387904 := by
  have h1 : 0 ≤ a * a := Int.mul_nonneg h0 h0
  have h2 : a * a ≤ 2147483648 * 2147483648 := Int.mul_le_mul (by omega) (by omega) h0 (by omega)
  exact ⟨h1, by omega⟩
theorem root_step {n r b : Int} (hb : 0 < b) (h0 : 0 ≤ r) (hs : r + b ≤ 2147483648) : S103l0_0 n (r, b) = some (.inl (if (r + b) * (r + b) ≤ n then r + b else r, b / 2)) := by
  obtain ⟨h1, h2⟩ := sq_bound (a := r + b) (b := r + b) (by omega) (Int.le_refl _) hs
  simp only [S103l0_0, if_neg (show ¬ b ≤ 0 by omega)]
  rw [aw_ok (n := r + b) (by omega) (by omega), aw_ok (n := (r + b) * (r + b)) (by omega) (by omega), Int.tdiv_eq_ediv_of_nonneg (by omega), aw_ok (n := b / 2) (by omega) (by omega)]
  by_cases h : (r + b) * (r + b) ≤ n <;> simp [h]
theorem root_key (n : Int) : ∀ (k : Nat) (r : Int), 0 ≤ r → r + 2 * 2 ^ k ≤ 2147483648 → r * r ≤ n → n < (r + 2 * 2 ^ k) * (r + 2 * 2 ^ k) →
    ∃ s, iter (S103l0_0 n) (k + 2) (r, 2 ^ k) = some s ∧ 0 ≤ s ∧ s * s ≤ n ∧ n < (s + 1) * (s + 1) := by
  intro k
  induction k with
  | zero =>
    intro r h0 h1 h2 h3
    simp only [Int.pow_zero, Int.mul_one] at h1 h3 ⊢
    have hs := root_step (n := n) (r := r) (b := 1) (by omega) h0 (by omega)
    by_cases h : (r + 1) * (r + 1) ≤ n
    · rw [if_pos h] at hs
      exact ⟨r + 1, iter_in hs (iter_out (by simp [S103l0_0]) 0), by omega, h, by rw [show r + 1 + 1 = r + 2 from by omega]; exact h3⟩
    · rw [if_neg h] at hs
      exact ⟨r, iter_in hs (iter_out (by simp [S103l0_0]) 0), h0, h2, by omega⟩
  | succ k ih =>
    intro r h0 h1 h2 h3
    have hp : (2 : Int) ^ (k + 1) = 2 * 2 ^ k := by rw [Int.pow_succ]; omega
    have hpos : 0 < (2 : Int) ^ k := Int.pow_pos (by omega)
    have hs := root_step (n := n) (r := r) (b := 2 ^ (k + 1)) (by omega) h0 (by omega)
    rw [show (2 : Int) ^ (k + 1) / 2 = 2 ^ k from by omega] at hs
    by_cases h : (r + 2 ^ (k + 1)) * (r + 2 ^ (k + 1)) ≤ n
    · rw [if_pos h] at hs
      obtain ⟨s, hi, hr⟩ := ih (r + 2 ^ (k + 1)) (by omega) (by omega) h (by
        rw [show r + 2 ^ (k + 1) + 2 * 2 ^ k = r + 2 * 2 ^ (k + 1) from by omega]; exact h3)
      exact ⟨s, iter_in hs hi, hr⟩
    · rw [if_neg h] at hs
      obtain ⟨s, hi, hr⟩ := ih r h0 (by omega) h2 (by rw [← hp]; omega)
      exact ⟨s, iter_in hs hi, hr⟩
theorem F103_ok {n : Int} (h0 : 0 ≤ n) (h1 : n ≤ 1000000000) : ∃ s, F103_0 n = some s ∧ 0 ≤ s ∧ s ≤ 31623 ∧ s * s ≤ n ∧ n < (s + 1) * (s + 1) := by
  obtain ⟨s, hi, a1, a2, a3⟩ := root_key n 30 0 (by omega) (by decide) (by simpa using h0) (by simp; omega)
  refine ⟨s, ?_, a1, ?_, a2, a3⟩
  · unfold F103_0 L103l0_0
    have : (1073741824 : Int) = 2 ^ 30 := by decide
    rw [this, iter_mono hi (by omega)]; rfl
  · by_cases h : s ≤ 31623
    · exact h
    · have := sq_le (a := 31624) (b := s) (by omega) (by omega)
      omega
theorem thr_lo {c d lo hi x : Int} (hc : Co c) (hd : Dr d) (h : Thr c d lo hi) (h0 : 0 ≤ x) (h1 : c * x * x ≤ d) (h2 : d < c * (x + 1) * (x + 1)) : x = lo := by
  have hc0 : 0 ≤ c := by have := hc.ge; omega
  obtain ⟨k1, k2, k3, k4⟩ := thr_facts hc hd h
  have k5 : d < c * (lo + 1) * (lo + 1) := by
    by_cases a : c * hi * hi ≤ d
    · have e : lo = hi := by rw [h.lo, if_pos a]
      subst e
      have hlt : lo * lo < (lo + 1) * (lo + 1) := by rw [Int.mul_add, Int.add_mul]; omega
      have h5 : c * (lo * lo) < c * ((lo + 1) * (lo + 1)) := Int.mul_lt_mul_of_pos_left hlt (by have := hc.ge; omega)
      have h6 := h.ge
      rw [Int.mul_assoc] at a h6 ⊢
      omega
    · have e : lo + 1 = hi := by rw [h.lo, if_neg a]; omega
      rw [e]; omega
  by_cases h3 : x < lo
  · have := csq_le hc0 (show 0 ≤ x + 1 by omega) (show x + 1 ≤ lo by omega); omega
  · by_cases h4 : lo < x
    · have := csq_le hc0 (show 0 ≤ lo + 1 by omega) (show lo + 1 ≤ x by omega); omega
    · omega
theorem thr_hi {c d lo hi x : Int} (hc : Co c) (hd : Dr d) (h : Thr c d lo hi) (h0 : 0 ≤ x) (h1 : d ≤ c * x * x) (h2 : 0 < x → c * (x - 1) * (x - 1) < d) : x = hi := by
  have hc0 : 0 ≤ c := by have := hc.ge; omega
  have hh := h.hi0
  by_cases h3 : x < hi
  · have := csq_le hc0 h0 (show x ≤ hi - 1 by omega)
    have := h.lt (by omega)
    omega
  · by_cases h4 : hi < x
    · have := csq_le hc0 hh (show hi ≤ x - 1 by omega)
      have := h2 (by omega)
      have := h.ge
      omega
    · omega
theorem F45_eq {c d : Int} (hc : Co c) (hd : Dr d) : F45_0 c d = some (thr c d) := by
  have hc1 := hc.ge
  have hc2 := hc.le
  have hd1 := hd.ge
  have hd2 := hd.le
  have ht := (F83_eq hc hd).2
  -- the quotient, rounded down
  have q1 : c * (d / c) ≤ d := Int.mul_ediv_self_le (by omega)
  have q2 : d < c * (d / c) + c := by have := Int.lt_mul_ediv_self_add (x := d) (show 0 < c by omega); omega
  have q0 : 0 ≤ d / c := Int.ediv_nonneg hd1 (by omega)
  have q3 : d / c ≤ d := Int.ediv_le_self _ hd1
  -- and up
  have e1 : aw .i64 (0 - d) = -d := by rw [aw_ok (by omega) (by omega)]; omega
  have hcl : ∃ u, F105_0 d c = some u ∧ 0 ≤ u ∧ u ≤ 1000000000 ∧ d ≤ c * u ∧ (0 < u → c * (u - 1) < d) := by
    unfold F105_0 F113_0
    rw [e1, if_neg (show ¬ c = 0 by omega)]
    have t1 : Int.tdiv (-d) c = -(d / c) := by rw [Int.neg_tdiv, Int.tdiv_eq_ediv_of_nonneg hd1]
    have t2 : Int.tmod (-d) c = -(d % c) := by rw [Int.neg_tmod, Int.tmod_eq_emod_of_nonneg hd1]
    have m0 := Int.emod_nonneg d (show c ≠ 0 by omega)
    have m1 := Int.mul_ediv_add_emod d c
    rw [t1, t2]
    by_cases hm : d % c = 0
    · rw [if_pos (by omega), Option.bind_some, aw_ok (n := -(d / c)) (by omega) (by omega), aw_ok (by omega) (by omega)]
      refine ⟨_, rfl, by omega, by omega, ?_, fun h => ?_⟩
      · rw [show 0 - -(d / c) = d / c from by omega]; omega
      · rw [show 0 - -(d / c) = d / c from by omega] at h ⊢; rw [Int.mul_sub]; omega
    · have hlt : d / c < 1000000000 := by
        by_cases hdd : d = 0
        · subst hdd; simp at hm
        · by_cases hcc : c = 1
          · subst hcc; simp at hm
          · have h5 : 2 * (d / c) ≤ c * (d / c) := Int.mul_le_mul_of_nonneg_right (by omega) q0
            omega
      rw [if_neg (by omega), Option.bind_some, aw_ok (n := -(d / c)) (by omega) (by omega), aw_ok (n := -(d / c) - 1) (by omega) (by omega), aw_ok (by omega) (by omega)]
      refine ⟨_, rfl, by omega, by omega, ?_, fun _ => ?_⟩
      · rw [show 0 - (-(d / c) - 1) = d / c + 1 from by omega, Int.mul_add]; omega
      · rw [show 0 - (-(d / c) - 1) - 1 = d / c from by omega]; omega
  obtain ⟨u, hu, u0, u1, u2, u3⟩ := hcl
  obtain ⟨s, hs, s0, s1, s2, s3⟩ := F103_ok (n := d / c) q0 (by omega)
  obtain ⟨v, hv, v0, v1, v2, v3⟩ := F103_ok (n := u) u0 u1
  -- the root that is rounded up
  have hup : ∃ x, F104_0 u = some x ∧ 0 ≤ x ∧ u ≤ x * x ∧ (0 < x → (x - 1) * (x - 1) < u) := by
    obtain ⟨b1, b2⟩ := sq_bound (a := v) (b := v) v0 (Int.le_refl _) (by omega)
    unfold F104_0
    rw [hv, Option.bind_some, aw_ok (n := v * v) (by omega) (by omega), aw_ok (n := v + 1) (by omega) (by omega)]
    by_cases h : u ≤ v * v
    · rw [if_pos h]
      refine ⟨v, rfl, v0, h, fun hp => ?_⟩
      have := sq_le (a := v - 1) (b := v) (by omega) (by omega)
      have h6 : (v - 1) * (v - 1) < v * v := by
        have : (v - 1) * (v - 1) = v * v - 2 * v + 1 := by rw [Int.sub_mul, Int.mul_sub]; omega
        omega
      omega
    · rw [if_neg h]
      refine ⟨v + 1, rfl, by omega, by omega, fun _ => ?_⟩
      rw [show v + 1 - 1 = v from by omega]; omega
  obtain ⟨x, hx, x0, x1, x2⟩ := hup
  have hlo : s = (thr c d).1 := by
    refine thr_lo hc hd ht s0 ?_ ?_
    · have h5 : c * (s * s) ≤ c * (d / c) := Int.mul_le_mul_of_nonneg_left s2 (by omega)
      rw [Int.mul_assoc]; omega
    · have h5 : c * (d / c + 1) ≤ c * ((s + 1) * (s + 1)) := Int.mul_le_mul_of_nonneg_left (by omega) (by omega)
      rw [Int.mul_add] at h5
      rw [Int.mul_assoc]; omega
  have hhi : x = (thr c d).2 := by
    refine thr_hi hc hd ht x0 ?_ fun h => ?_
    · have h5 : c * u ≤ c * (x * x) := Int.mul_le_mul_of_nonneg_left x1 (by omega)
      rw [Int.mul_assoc]; omega
    · have h6 := x2 h
      have hpos : 0 < u := by
        have := Int.mul_nonneg (show 0 ≤ x - 1 by omega) (show 0 ≤ x - 1 by omega); omega
      have h5 : c * ((x - 1) * (x - 1)) ≤ c * (u - 1) := Int.mul_le_mul_of_nonneg_left (by omega) (by omega)
      have := u3 hpos
      rw [Int.mul_assoc]; omega
  unfold F45_0
  rw [if_neg (show ¬ c = 0 by omega), Int.tdiv_eq_ediv_of_nonneg hd1, aw_ok (n := d / c) (by omega) (by omega), hs, hu]
  simp only [Option.bind_some]
  rw [hx, Option.bind_some, hlo, hhi]
theorem F46_eq {d : Int} (hd : Dr d) (l : List Int) (hl : l.length ≤ 1000) (h : ∀ c ∈ l, Co c) : F46_0 d l = some (par d l) := by
  have h1 := iter_list0 (step := S46l0_0 d l) (fun i (a : Int × Int) => ((i : Int), a.1, a.2)) l (fun _ c a => .inl (a.1 + (thr c d).1, a.2 + (thr c d).2)) (fun a => (a.1, a.2))
    (fun i a => 0 ≤ a.1 ∧ a.1 ≤ 31623 * i ∧ 0 ≤ a.2 ∧ a.2 ≤ 31623 * i)
    (fun a _ => by simp [S46l0_0]) (fun i c a hx hi ha => by
      have hle : ¬ ((l.length : Int) ≤ (i : Int)) := by omega
      have hc := h c (List.mem_of_getElem? hx)
      have ht := (F83_eq hc hd).2
      obtain ⟨k1, k2, k3, _⟩ := thr_facts hc hd ht
      have k4 := ht.hi1
      simp only [S46l0_0, if_neg hle, geti_at hx, F45_eq hc hd]
      clear ht
      generalize thr c d = t at k1 k2 k3 k4
      obtain ⟨t1, t2⟩ := t
      simp only at k1 k2 k3 k4
      simp only [bind2_some]
      rw [aw_ok (n := (i : Int) + 1) (by omega) (by omega), aw_ok (n := a.1 + t1) (by omega) (by omega), aw_ok (n := a.2 + t2) (by omega) (by omega)]
      refine ⟨by simp, fun a' h => ?_⟩
      cases h
      simp only
      omega) (by omega) (0, 0) (by simp)
  have key : ∀ (l : List Int) (i : Nat) (a : Int × Int), loopL (fun (_ : Nat) (c : Int) (a : Int × Int) => (.inl (a.1 + (thr c d).1, a.2 + (thr c d).2) : (Int × Int) ⊕ (Int × Int))) (fun a => (a.1, a.2)) l i a = (a.1 + (par d l).1, a.2 + (par d l).2) := by
    intro l
    induction l with
    | nil => intro i a; simp [loopL, par]
    | cons c l ih =>
      intro i a
      rw [loopL]
      simp only [ih, par]
      exact Prod.ext (by simp; omega) (by simp; omega)
  rw [key] at h1
  simp only [Int.zero_add] at h1
  have h2 : iter (S46l0_0 d l) 1000000 (0, 0, 0) = some (par d l) := h1
  unfold F46_0 L46l0_0
  rw [h2]
  rfl
end Go.AI
end
section
/-
  THE PLAIN LAW OF WaterSplits.
-/
set_option linter.unusedVariables false
set_option linter.unusedSimpArgs false
namespace Go.AI
theorem sum_mid {a b : Int} (ha : 0 ≤ a) (hb : b ≤ 2305843009213693952) (h : a < b) : aw .i64 (Int.tdiv (aw .i64 (a + b)) 2) = a + (b - a) / 2 := by
  rw [aw_ok (n := a + b) (by omega) (by omega), Int.tdiv_eq_ediv_of_nonneg (by omega), aw_ok (by omega) (by omega)]; omega
theorem L47_0 {q : Int} {l : List Int} (hl : l.length ≤ 1000) (h : ∀ c ∈ l, Co c) :
    ∃ r, L47l0_0 q l (0, 1000000000) = some r ∧ 0 ≤ r ∧ r ≤ 1000000000 ∧ (r < 1000000000 → q ≤ (par r l).2) ∧ (0 < r → (par (r - 1) l).2 < q) := by
  obtain ⟨r, hr, a1, a2, a3, a4⟩ := least_iter (step := S47l0_0 q l) (p := fun d => decide (q ≤ (par d l).2)) (lo := 0) (hi := 1000000000) (by omega) (by omega) (by omega)
    (fun a b h => by simp [S47l0_0, h]) (fun a b b1 b2 b3 => by
      simp only [S47l0_0, if_neg (show ¬ b ≤ a by omega)]
      rw [sum_mid b1 (by omega) b2]
      have hm : (b - a) / 2 ≤ b - a := by omega
      have hm0 : 0 ≤ (b - a) / 2 := by omega
      have hm2 : a + (b - a) / 2 < b := by omega
      rw [F46_eq ⟨by omega, by omega⟩ l hl h, aw_ok (n := a + (b - a) / 2 + 1) (by omega) (by omega)]
      generalize hp : par (a + (b - a) / 2) l = t
      obtain ⟨t1, t2⟩ := t
      simp only [bind2_some]
      by_cases hp : q ≤ t2 <;> simp [hp])
  exact ⟨r, hr, a1, a2, fun h => by simpa using a3 h, fun h => by simpa using a4 h⟩
theorem L47_1 {q : Int} {l : List Int} (hl : l.length ≤ 1000) (h : ∀ c ∈ l, Co c) (v : Int) :
    ∃ r, L47l1_0 q l v (0, 1000000000) = some r ∧ 0 ≤ r ∧ r ≤ 1000000000 ∧ (r < 1000000000 → q ≤ (par r l).1) ∧ (0 < r → (par (r - 1) l).1 < q) := by
  obtain ⟨r, hr, a1, a2, a3, a4⟩ := least_iter (step := S47l1_0 q l v) (p := fun d => decide (q ≤ (par d l).1)) (lo := 0) (hi := 1000000000) (by omega) (by omega) (by omega)
    (fun a b h => by simp [S47l1_0, h]) (fun a b b1 b2 b3 => by
      simp only [S47l1_0, if_neg (show ¬ b ≤ a by omega)]
      rw [sum_mid b1 (by omega) b2]
      have hm : (b - a) / 2 ≤ b - a := by omega
      have hm0 : 0 ≤ (b - a) / 2 := by omega
      have hm2 : a + (b - a) / 2 < b := by omega
      rw [F46_eq ⟨by omega, by omega⟩ l hl h, aw_ok (n := a + (b - a) / 2 + 1) (by omega) (by omega)]
      generalize hp : par (a + (b - a) / 2) l = t
      obtain ⟨t1, t2⟩ := t
      simp only [bind2_some]
      by_cases hp : q ≤ t1 <;> simp [hp])
  exact ⟨r, hr, a1, a2, fun h => by simpa using a3 h, fun h => by simpa using a4 h⟩
/-- the reference's drop, and the program's -/
theorem drop_eq {q : Int} {l : List Int} (hq : 0 ≤ q ∧ q ≤ 10000) (hl : resE l = 0) :
    (F47_0 q l = some (0, 0, false) ∧ F28_0 q l = some (0, 0, 12)) ∨ ∃ lo hi, F47_0 q l = some (lo, hi, true) ∧ F28_0 q l = some (lo, hi, 0) := by
  obtain ⟨h1, h2, h3⟩ := resE_ok hl
  obtain ⟨lo, hi, a1, a2, a3, a4, a5, a6, a7, e28⟩ := F28_ok hq hl
  have dm : Dr 1000000000 := ⟨by omega, by omega⟩
  obtain ⟨p1, p2, _, _⟩ := par_facts dm l h3
  have h46 := F46_eq dm l (by omega) h3
  by_cases hc : q ≤ (par 1000000000 l).1
  · right
    obtain ⟨x, ex, x0, x1, x2, x3⟩ := L47_0 (q := q) (l := l) (by omega) h3
    obtain ⟨y, ey, y0, y1, y2, y3⟩ := L47_1 (q := q) (l := l) (by omega) h3 x
    have hx : q ≤ (par x l).2 := by
      by_cases h : x < 1000000000
      · exact x2 h
      · rw [show x = 1000000000 from by omega]; omega
    have hy : q ≤ (par y l).1 := by
      by_cases h : y < 1000000000
      · exact y2 h
      · rw [show y = 1000000000 from by omega]; omega
    have hxy : x ≤ y := by
      by_cases h : x ≤ y
      · exact h
      · have m := par_mono (d := y) (d' := x - 1) ⟨by omega, by omega⟩ ⟨by omega, by omega⟩ (by omega) l h3
        have n := x3 (by omega)
        obtain ⟨_, z, _, _⟩ := par_facts (d := y) ⟨by omega, by omega⟩ l h3
        omega
    have hlo : lo = x := by
      by_cases h : lo < x
      · have m := par_mono (d := lo) (d' := x - 1) ⟨by omega, by omega⟩ ⟨by omega, by omega⟩ (by omega) l h3
        have n := x3 (by omega)
        have := a4 (by omega)
        omega
      · by_cases h' : x < lo
        · have n := a5 (by omega)
          have m := par_mono (d := x) (d' := lo - 1) ⟨by omega, by omega⟩ ⟨by omega, by omega⟩ (by omega) l h3
          omega
        · omega
    have hhi : hi = y := by
      by_cases h : hi < y
      · have m := par_mono (d := hi) (d' := y - 1) ⟨by omega, by omega⟩ ⟨by omega, by omega⟩ (by omega) l h3
        have n := y3 (by omega)
        have := a6 (by omega)
        omega
      · by_cases h' : y < hi
        · have n := a7 (by omega)
          have m := par_mono (d := y) (d' := hi - 1) ⟨by omega, by omega⟩ ⟨by omega, by omega⟩ (by omega) l h3
          omega
        · omega
    refine ⟨lo, hi, ?_, ?_⟩
    · unfold F47_0
      rw [h46]
      generalize par 1000000000 l = t at hc
      obtain ⟨t1, t2⟩ := t
      simp only at hc
      simp only [bind2_some]
      rw [if_pos hc, ex, Option.bind_some, ey, Option.bind_some, hlo, hhi]
    · rw [e28, if_pos (by omega)]
  · left
    constructor
    · unfold F47_0
      rw [h46]
      generalize par 1000000000 l = t at hc
      obtain ⟨t1, t2⟩ := t
      simp only at hc
      simp only [bind2_some]
      rw [if_neg hc]
    · rw [e28, if_neg]
      intro h
      have m := par_mono (d := hi) (d' := 1000000000) ⟨by omega, by omega⟩ dm h l h3
      have := a6 h
      omega
theorem F25_no {d : Int} {l : List Int} (h : l.length < 100000) (hl : resE l ≠ 0) : F25_0 d l = some (0, 0, resE l) := by
  unfold F25_0
  simp only [F80_eq l h, F81_eq, Option.bind_some, F71_eq _ (show ([_, _] : List Int).length < 1000000 by simp), firstNZ, hl, if_false]
theorem F25_dr {d : Int} {l : List Int} (h : l.length < 100000) (hl : resE l = 0) (hd : drB d = false) : F25_0 d l = some (0, 0, 2) := by
  unfold F25_0
  simp [F80_eq l h, F81_eq, Option.bind_some, F71_eq _ (show ([_, _] : List Int).length < 1000000 by simp), firstNZ, hl, hd]
theorem F28_no {q : Int} {l : List Int} (h : l.length < 100000) (hl : resE l ≠ 0) : F28_0 q l = some (0, 0, resE l) := by
  unfold F28_0
  simp only [F80_eq l h, F74_eq, F72_eq, Option.bind_some, F71_eq _ (show ([_, _] : List Int).length < 1000000 by simp), firstNZ, hl, if_false]
theorem F28_q {q : Int} {l : List Int} (h : l.length < 100000) (hl : resE l = 0) (hq : ¬ (0 ≤ q ∧ q ≤ 10000)) : F28_0 q l = some (0, 0, 2) := by
  have e : (decide (0 ≤ q) && decide (q ≤ 10000)) = false := by
    by_cases a : 0 ≤ q <;> by_cases b : q ≤ 10000 <;> simp [a, b]
    exact hq ⟨a, b⟩
  unfold F28_0
  simp [F80_eq l h, F74_eq, F72_eq, Option.bind_some, F71_eq _ (show ([_, _] : List Int).length < 1000000 by simp), firstNZ, hl, e]
theorem F27_any (c d : Int) : F27_0 c d = some (if coB c = true then if drB d = true then ((thr c d).1, (thr c d).2, 0) else (0, 0, 2) else (0, 0, 2)) := by
  cases hc : coB c
  · unfold F27_0
    simp [F80_eq [c] (by simp), F81_eq, resE, hc, F71_eq _ (show ([_, _] : List Int).length < 1000000 by simp), firstNZ]
  · cases hd : drB d
    · unfold F27_0
      simp [F80_eq [c] (by simp), F81_eq, resE, hc, hd, F71_eq _ (show ([_, _] : List Int).length < 1000000 by simp), firstNZ]
    · rw [F27_ok ((coB_iff c).1 hc) ((drB_iff d).1 hd)]; simp
theorem F43_sum {l : List Int} (h : l.length ≤ 10) (hl : ∀ c ∈ l, Co c) : L43l0_0 (l.length : Int) l (0, 0) = some l.sum := by
  have h1 := iter_list0 (step := S43l0_0 (l.length : Int) l) (fun i (a : Int) => (a, (i : Int))) l (fun _ c a => (.inl (a + c) : Int ⊕ Int)) (fun a => a)
    (fun i a => 0 ≤ a ∧ a ≤ 1000 * i)
    (fun a _ => by simp [S43l0_0]) (fun i c a hx hi ha => by
      have hc := hl c (List.mem_of_getElem? hx)
      have c1 := hc.ge
      have c2 := hc.le
      simp only [S43l0_0, if_neg (show ¬ ((l.length : Int) ≤ (i : Int)) by omega), geti_at hx]
      rw [aw_ok (n := (i : Int) + 1) (by omega) (by omega), aw_ok (n := a + c) (by omega) (by omega)]
      refine ⟨by simp, fun a' h => ?_⟩
      cases h
      omega) (by omega) 0 (by simp)
  have key : ∀ (l : List Int) (i : Nat) (a : Int), loopL (fun (_ : Nat) (c : Int) (a : Int) => (.inl (a + c) : Int ⊕ Int)) (fun a => a) l i a = a + l.sum := by
    intro l
    induction l with
    | nil => intro i a; simp [loopL]
    | cons c l ih => intro i a; rw [loopL]; simp only [ih, List.sum_cons]; omega
  rw [key, Int.zero_add] at h1
  exact h1
theorem L7_sum {l : List Int} (h : l.length ≤ 10) (hl : ∀ c ∈ l, Co c) (x0 x1 x2 x3 x4 x5 x6 x7 x8 x9 : Int) : L7l1_0 x0 x1 x2 x3 x4 x5 l x6 x7 x8 x9 (0, 0) = some l.sum := by
  have h1 := iter_list0 (step := S7l1_0 x0 x1 x2 x3 x4 x5 l x6 x7 x8 x9) (fun i (a : Int) => (a, (i : Int))) l (fun _ c a => (.inl (a + c) : Int ⊕ Int)) (fun a => a)
    (fun i a => 0 ≤ a ∧ a ≤ 1000 * i)
    (fun a _ => by simp [S7l1_0]) (fun i c a hx hi ha => by
      have hc := hl c (List.mem_of_getElem? hx)
      have c1 := hc.ge
      have c2 := hc.le
      simp only [S7l1_0, if_neg (show ¬ ((l.length : Int) ≤ (i : Int)) by omega), geti_at hx]
      rw [aw_ok (n := (i : Int) + 1) (by omega) (by omega), aw_ok (n := a + c) (by omega) (by omega)]
      refine ⟨by simp, fun a' h => ?_⟩
      cases h
      omega) (by omega) 0 (by simp)
  have key : ∀ (l : List Int) (i : Nat) (a : Int), loopL (fun (_ : Nat) (c : Int) (a : Int) => (.inl (a + c) : Int ⊕ Int)) (fun a => a) l i a = a + l.sum := by
    intro l
    induction l with
    | nil => intro i a; simp [loopL]
    | cons c l ih => intro i a; rw [loopL]; simp only [ih, List.sum_cons]; omega
  rw [key, Int.zero_add] at h1
  exact h1
theorem L7_eq {d : Int} {l : List Int} (h : l.length ≤ 10) (x1 x2 x3 x4 x5 x6 x7 x8 x9 : Int) : L7l0_0 d x1 x2 x3 x4 x5 l x6 x7 x8 x9 0 = some (.inl ()) := by
  have h := iter_list0 (step := S7l0_0 d x1 x2 x3 x4 x5 l x6 x7 x8 x9) (fun i (_ : Unit) => (i : Int)) l (fun _ _ _ => (.inl () : Unit ⊕ (Unit ⊕ Unit))) (fun _ => .inl ()) (fun _ _ => True)
    (fun a _ => by simp [S7l0_0]) (fun i c a hx hi _ => by
      refine ⟨?_, fun _ _ => trivial⟩
      simp only [S7l0_0, if_neg (show ¬ ((l.length : Int) ≤ (i : Int)) by omega), geti_at hx, F27_any, F44_eq, F24_eq, Option.bind_some]
      rw [aw_ok (n := (i : Int) + 1) (by omega) (by omega)]
      cases hc : coB c
      · simp
      · cases hd : drB d
        · simp
        · simp only [if_true, bind3_some, F45_eq ((coB_iff c).1 hc) ((drB_iff d).1 hd)]
          generalize thr c d = t
          obtain ⟨t1, t2⟩ := t
          simp) (by omega) () trivial
  have key : ∀ (l : List Int) (i : Nat), (loopL (fun (_ : Nat) (_ : Int) (_ : Unit) => (.inl () : Unit ⊕ (Unit ⊕ Unit))) (fun _ => .inl ()) l i ()) = .inl () := by
    intro l
    induction l with
    | nil => intro i; rfl
    | cons x l ih => intro i; rw [loopL]; simp only [ih]
  rw [key] at h
  exact h
/-- **THE PLAIN LAW OF WaterSplits** -/
theorem plainWaterSplits (d q : Int) (l : List Int) : F7_0 d q l = some true := by
  unfold F7_0
  by_cases hlen : l.length ≤ 10
  · have h26 := F26_eq l (by omega)
    by_cases hl : resE l = 0
    · obtain ⟨h1, h2, h3⟩ := resE_ok hl
      have h43 : F43_0 l = some (l.sum, 0) := by
        unfold F43_0; rw [F80_eq l (by omega), hl]; simp only [Option.bind_some, if_true]; rw [F43_sum hlen h3]; rfl
      simp only [if_pos (show (l.length : Int) ≤ 10 by omega), h26, Option.bind_some, h43, bind2_some, F23_eq, hl, if_true, F24_eq, F20_eq]
      by_cases hq : 0 ≤ q ∧ q ≤ 10000
      · have qe : (decide (0 ≤ q) && decide (q ≤ 10000)) = true := by simp [hq.1, hq.2]
        rcases drop_eq hq hl with ⟨e1, e2⟩ | ⟨lo, hi, e1, e2⟩
        · cases hd : drB d
          · simp only [F25_dr (show l.length < 100000 by omega) hl hd, e2, e1, bind3_some, L7_eq hlen, Option.bind_some, L7_sum hlen h3, if_true, qe]
            simp
          · have hd' := (drB_iff d).1 hd
            simp only [F25_ok hd' hl, F46_eq hd' l (by omega) h3, e2, e1, bind3_some, L7_eq hlen, Option.bind_some, L7_sum hlen h3, if_true, qe]
            generalize par d l = t
            obtain ⟨t1, t2⟩ := t
            simp
        · cases hd : drB d
          · simp only [F25_dr (show l.length < 100000 by omega) hl hd, e2, e1, bind3_some, L7_eq hlen, Option.bind_some, L7_sum hlen h3, if_true, qe]
            simp
          · have hd' := (drB_iff d).1 hd
            simp only [F25_ok hd' hl, F46_eq hd' l (by omega) h3, e2, e1, bind3_some, L7_eq hlen, Option.bind_some, L7_sum hlen h3, if_true, qe]
            generalize par d l = t
            obtain ⟨t1, t2⟩ := t
            simp
      · have qe : (decide (0 ≤ q) && decide (q ≤ 10000)) = false := by
          by_cases a : 0 ≤ q <;> by_cases b : q ≤ 10000 <;> simp [a, b]
          exact hq ⟨a, b⟩
        have e2 := F28_q (show l.length < 100000 by omega) hl hq
        cases hd : drB d
        · simp only [F25_dr (show l.length < 100000 by omega) hl hd, e2, bind3_some, L7_eq hlen, Option.bind_some, L7_sum hlen h3, if_true, qe]
          simp
        · have hd' := (drB_iff d).1 hd
          simp only [F25_ok hd' hl, F46_eq hd' l (by omega) h3, e2, bind3_some, L7_eq hlen, Option.bind_some, L7_sum hlen h3, if_true, qe]
          generalize par d l = t
          obtain ⟨t1, t2⟩ := t
          simp
    · have h43 : F43_0 l = some (0, resE l) := by
        unfold F43_0; rw [F80_eq l (by omega)]; simp only [Option.bind_some, hl, if_false]
      simp only [if_pos (show (l.length : Int) ≤ 10 by omega), h26, Option.bind_some, h43, bind2_some, F23_eq, F25_no (show l.length < 100000 by omega) hl, F28_no (show l.length < 100000 by omega) hl, bind3_some, L7_eq hlen, hl, if_false, if_true]
      simp
  · rw [if_neg (by omega)]
end Go.AI
end
