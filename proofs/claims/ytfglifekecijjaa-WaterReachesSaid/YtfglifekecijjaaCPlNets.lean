/-
  WHICH NETS ARE VALID: the program's answer is the reference's.
-/
import Derived.Test.YtfglifekecijjaaCAiP
import Derived.Test.YtfglifekecijjaaCWnF
set_option linter.unusedVariables false
set_option linter.unusedSimpArgs false
namespace Go.AI
theorem F74_eq (a b c : Int) : F74_0 a b c = some (decide (b ≤ a) && decide (a ≤ c)) := by
  unfold F74_0; by_cases h : b ≤ a <;> simp [h]
theorem F20_eq (a b c : Int) : F20_0 a b c = some (decide (b ≤ a) && decide (a ≤ c)) := by
  unfold F20_0; by_cases h : b ≤ a <;> simp [h]
theorem F73_eq (a b : Int) : F73_0 a b = some (decide (aw .i64 (0 - b) ≤ a) && decide (a ≤ b)) := by
  unfold F73_0; rw [F74_eq]; rfl
theorem F72_eq (b : Bool) (k : Int) : F72_0 b k = some (if b = true then 0 else k) := by
  unfold F72_0; cases b <;> rfl
/-! first -/
def firstNZ : List Int → Int
  | [] => 0
  | x :: xs => if x = 0 then firstNZ xs else x
theorem F71_eq (l : List Int) (hl : l.length < 1000000) : F71_0 l = some (firstNZ l) := by
  have h := iter_list0 (step := S71l0_0 (l.length : Int) l) (fun i (_ : Unit) => (i : Int)) l (fun _ x _ => if x = 0 then .inl () else .inr (.inr x)) (fun _ => .inl ()) (fun _ _ => True)
    (fun a _ => by simp [S71l0_0]) (fun i x a hx hi _ => by
      refine ⟨?_, fun _ _ => trivial⟩
      have hle : ¬ ((l.length : Int) ≤ (i : Int)) := by omega
      simp only [S71l0_0, if_neg hle, geti_at hx]
      rw [aw_ok (by omega) (by omega)]
      by_cases h : x = 0 <;> simp [h]) hl () trivial
  have key : ∀ (l : List Int) (i : Nat), (loopL (fun (_ : Nat) (x : Int) (_ : Unit) => if x = 0 then (.inl () : Unit ⊕ (Unit ⊕ Int)) else .inr (.inr x)) (fun _ => .inl ()) l i ()) = (if firstNZ l = 0 then .inl () else .inr (firstNZ l)) := by
    intro l
    induction l with
    | nil => intro i; rfl
    | cons x l ih =>
      intro i
      unfold loopL
      by_cases hx : x = 0
      · simp [hx, ih, firstNZ]
      · simp [hx, firstNZ]
  rw [key] at h
  unfold F71_0 L71l0_0
  rw [show ((0 : Int)) = ((0 : Nat) : Int) from rfl, h]
  by_cases h0 : firstNZ l = 0 <;> simp [h0]
/-! names -/
def charOk (i : Nat) (c : Int) : Bool := (decide (97 ≤ c) && decide (c ≤ 122)) || (decide (65 ≤ c) && decide (c ≤ 90)) || (!decide (i = 0) && (decide (c = 45) || (decide (48 ≤ c) && decide (c ≤ 57))))
def charsOk : List UInt8 → Nat → Bool
  | [], _ => true
  | b :: l, i => charOk i (b.toNat : Int) && charsOk l (i + 1)
def bodyN (i : Nat) (b : UInt8) (_ : Unit) : Unit ⊕ (Unit ⊕ Unit) := if charOk i (b.toNat : Int) then .inl () else .inr (.inr ())
theorem loopN_eq : ∀ (l : List UInt8) (i : Nat), loopL bodyN (fun _ => .inl ()) l i () = (if charsOk l i then .inl () else .inr ()) := by
  intro l
  induction l with
  | nil => intro i; rfl
  | cons b l ih =>
    intro i
    rw [loopL]
    have hb : bodyN i b () = if charOk i (b.toNat : Int) then .inl () else .inr (.inr ()) := rfl
    rw [hb]
    cases h : charOk i (b.toNat : Int)
    · simp [charsOk, h]
    · simp [charsOk, h, ih]
def nameOk (s : ByteArray) : Bool := charsOk s.data.toList 0 && (decide (1 ≤ s.size) && decide (s.size ≤ 12))
theorem F75_eq (s : ByteArray) (hs : s.size < 1000000) : F75_0 s = some (nameOk s) := by
  have hl : s.data.toList.length = s.size := by simp
  have h := iter_list0 (step := S75l0_0 s (s.size : Int) s.data.toList) (fun i (_ : Unit) => (i : Int)) s.data.toList bodyN (fun _ => .inl ()) (fun _ _ => True)
    (fun a _ => by simp [S75l0_0]) (fun i b a hx hi _ => by
      refine ⟨?_, fun _ _ => trivial⟩
      have hle : ¬ ((s.size : Int) ≤ (i : Int)) := by omega
      have hb : b.toNat < 256 := b.toNat_lt
      simp only [S75l0_0, if_neg hle, geti_at hx, F74_eq, Option.bind_some]
      rw [aw_ok (n := (b.toNat : Int)) (by omega) (by omega), aw_ok (n := (i : Int) + 1) (by omega) (by omega)]
      unfold bodyN charOk
      generalize (b.toNat : Int) = c
      by_cases h1 : (decide (97 ≤ c) && decide (c ≤ 122)) = true
      · simp [h1]
      · by_cases h2 : (decide (65 ≤ c) && decide (c ≤ 90)) = true
        · simp [h1, h2]
        · by_cases h3 : i = 0
          · subst h3; simp [h1, h2]
          · have h3' : ¬ (i : Int) = 0 := by omega
            by_cases h4 : c = 45
            · simp [h1, h2, h3, h3', h4]
            · by_cases h5 : (decide (48 ≤ c) && decide (c ≤ 57)) = true
              · simp [h1, h2, h3, h3', h4, h5]
              · simp [h1, h2, h3, h3', h4, h5]) (by omega) () trivial
  rw [loopN_eq] at h
  unfold F75_0 L75l0_0
  unfold roomS
  rw [if_pos (by omega)]
  rw [show ((0 : Int)) = ((0 : Nat) : Int) from rfl, h]
  cases hc : charsOk s.data.toList 0
  · simp [nameOk, hc]
  · simp only [nameOk, hc, F74_eq, Option.bind_some, Bool.true_and, if_true]
    by_cases h1 : 1 ≤ s.size <;> by_cases h2 : s.size ≤ 12 <;> simp [h1, h2] <;> omega
theorem F131_eq (s : ByteArray) (hs : s.size < 1000000) : F131_0 s = some (nameOk s) := by
  have hl : s.data.toList.length = s.size := by simp
  have h := iter_list0 (step := S131l0_0 s) (fun i (_ : Unit) => (i : Int)) s.data.toList bodyN (fun _ => .inl ()) (fun _ _ => True)
    (fun a _ => by simp [S131l0_0]) (fun i b a hx hi _ => by
      refine ⟨?_, fun _ _ => trivial⟩
      have hle : ¬ ((s.size : Int) ≤ (i : Int)) := by omega
      simp only [S131l0_0, if_neg hle, geti_at hx]
      rw [aw_ok (n := (i : Int) + 1) (by omega) (by omega)]
      unfold bodyN charOk
      generalize (b.toNat : Int) = c
      by_cases h3 : i = 0
      · subst h3
        by_cases a1 : 97 ≤ c <;> by_cases a2 : c ≤ 122 <;> by_cases a3 : 65 ≤ c <;> by_cases a4 : c ≤ 90 <;> simp [a1, a2, a3, a4]
      · have h3' : ¬ (i : Int) = 0 := by omega
        by_cases a1 : 97 ≤ c <;> by_cases a2 : c ≤ 122 <;> by_cases a3 : 65 ≤ c <;> by_cases a4 : c ≤ 90 <;> by_cases a5 : c = 45 <;> by_cases a6 : 48 ≤ c <;> by_cases a7 : c ≤ 57 <;> simp [h3, h3', a1, a2, a3, a4, a5, a6, a7]) (by omega) () trivial
  rw [loopN_eq] at h
  unfold F131_0 L131l0_0
  by_cases h1 : 1 ≤ s.size
  · by_cases h2 : s.size ≤ 12
    · rw [if_pos (by omega), if_pos (by omega), show ((0 : Int)) = ((0 : Nat) : Int) from rfl, h]
      cases hc : charsOk s.data.toList 0 <;> simp [nameOk, hc, h1, h2]
    · rw [if_pos (by omega), if_neg (by omega)]; simp [nameOk, h2]
  · rw [if_neg (by omega)]; simp [nameOk, h1]
/-! the reference's list of names, the program's map of names -/
def hasB (s : ByteArray) (l : List ByteArray) : Bool := l.any fun x => decide (x = s)
theorem F132_eq (s : ByteArray) (l : List ByteArray) (hl : l.length < 1000000) : F132_0 s l = some (hasB s l) := by
  have h := iter_list0 (step := S132l0_0 s l) (fun i (_ : Unit) => (i : Int)) l (fun _ x _ => if x = s then .inr (.inr ()) else .inl ()) (fun _ => .inl ()) (fun _ _ => True)
    (fun a _ => by simp [S132l0_0]) (fun i x a hx hi _ => by
      refine ⟨?_, fun _ _ => trivial⟩
      have hle : ¬ ((l.length : Int) ≤ (i : Int)) := by omega
      simp only [S132l0_0, if_neg hle, geti_at hx]
      rw [aw_ok (by omega) (by omega)]
      by_cases h : x = s <;> simp [h]) hl () trivial
  have key : ∀ (l : List ByteArray) (i : Nat), (loopL (fun (_ : Nat) (x : ByteArray) (_ : Unit) => if x = s then (.inr (.inr ()) : Unit ⊕ (Unit ⊕ Unit)) else .inl ()) (fun _ => .inl ()) l i ()) = (if hasB s l = true then .inr () else .inl ()) := by
    intro l
    induction l with
    | nil => intro i; rfl
    | cons x l ih =>
      intro i
      unfold loopL
      by_cases hx : x = s
      · simp [hx, hasB]
      · have : hasB s (x :: l) = hasB s l := by simp [hasB, hx]
        rw [this, ← ih (i + 1)]; simp [hx]
  rw [key] at h
  unfold F132_0 L132l0_0
  rw [show ((0 : Int)) = ((0 : Nat) : Int) from rfl, h]
  cases h0 : hasB s l <;> simp [h0]
/-- a map in which some names are true, all others false -/
def Names (m : List (ByteArray × Bool)) (l : List ByteArray) : Prop := ∀ s, getM s false m = hasB s l
theorem names_nil : Names [] [] := fun s => by simp [getM, findM, hasB]
theorem findM_put (k s : ByteArray) (v : Bool) (m : List (ByteArray × Bool)) : findM s (putM k v m) = if s = k then some v else findM s m := by
  induction m with
  | nil => simp [putM, findM]
  | cons p m ih =>
    obtain ⟨k', v'⟩ := p
    unfold putM
    by_cases hk : k = k'
    · subst hk
      by_cases hs : s = k <;> simp [findM, hs]
    · by_cases hs : s = k
      · subst hs; simp [findM, hk, ih]
      · by_cases hs' : s = k'
        · subst hs'; simp [findM, hk, hs]
        · simp [findM, hk, hs, hs', ih]
theorem names_put {m : List (ByteArray × Bool)} {l : List ByteArray} (h : Names m l) (k : ByteArray) : Names (putM k true m) (l ++ [k]) := fun s => by
  unfold getM
  rw [findM_put]
  have hb : hasB s (l ++ [k]) = (hasB s l || decide (k = s)) := by simp [hasB]
  rw [hb]
  by_cases hs : s = k
  · simp [hs]
  · have := h s
    unfold getM at this
    have hs' : ¬ k = s := fun h => hs h.symm
    simp [hs, hs', this]
/-! one node, one conduit: the first error -/
def nodeE (x : WaterNode) (l : List ByteArray) : Int :=
  if nameOk x.fName = true then if hasB x.fName l = true then 5 else if x.fLake = true then (if 0 ≤ x.fHead ∧ x.fHead ≤ 1000000 then (if x.fDraw = 0 then 0 else 3) else 2)
    else (if -10000 ≤ x.fDraw ∧ x.fDraw ≤ 10000 then (if x.fHead = 0 then 0 else 3) else 2) else 4
def condE (x : WaterConduit) (n : Nat) (l : List ByteArray) : Int :=
  if nameOk x.fName = true then if hasB x.fName l = true then 5 else
    if (0 ≤ x.fFrom ∧ x.fFrom ≤ (n : Int) - 1) ∧ (0 ≤ x.fTo ∧ x.fTo ≤ (n : Int) - 1) then if x.fFrom = x.fTo then 13 else
      if 0 ≤ x.fResist ∧ x.fResist ≤ 1000 then (if x.fValve = true ∨ x.fOpen = true then 0 else 3) else 2 else 6 else 4
theorem F78_eq (x : WaterNode) (l : List ByteArray) (hl : l.length < 1000000) (hs : x.fName.size < 1000000) : F78_0 x.fName x.fLake x.fHead x.fDraw l = some (nodeE x l) := by
  unfold F78_0 nodeE
  simp only [F131_eq _ hs, F132_eq _ _ hl, F20_eq, Option.bind_some]
  cases nameOk x.fName
  · simp
  · by_cases h1 : hasB x.fName l = true
    · simp [h1]
    · cases x.fLake
      · by_cases a : -10000 ≤ x.fDraw <;> by_cases b : x.fDraw ≤ 10000 <;> by_cases c : x.fHead = 0 <;> simp [h1, a, b, c]
      · by_cases a : 0 ≤ x.fHead <;> by_cases b : x.fHead ≤ 1000000 <;> by_cases c : x.fDraw = 0 <;> simp [h1, a, b, c]
theorem F79_eq (x : WaterConduit) (ns : List WaterNode) (cs : List WaterConduit) (l : List ByteArray) (hl : l.length < 1000000) (hs : x.fName.size < 1000000) (hn : ns.length < 1000000) :
    F79_0 x.fName x.fFrom x.fTo x.fResist x.fValve x.fOpen ns cs l = some (condE x ns.length l) := by
  unfold F79_0 condE
  simp only [F131_eq _ hs, F132_eq _ _ hl, F20_eq, Option.bind_some]
  rw [aw_ok (by omega) (by omega)]
  cases nameOk x.fName
  · simp
  · by_cases h1 : hasB x.fName l = true
    · simp [h1]
    · by_cases a : 0 ≤ x.fFrom <;> by_cases b : x.fFrom ≤ (ns.length : Int) - 1 <;> by_cases c : 0 ≤ x.fTo <;> by_cases d : x.fTo ≤ (ns.length : Int) - 1 <;> simp only [h1, a, b, c, d, decide_true, decide_false, Bool.and_true, Bool.and_false, Bool.false_and, Bool.true_and, if_true, if_false, and_true, and_false, true_and, false_and, Bool.false_eq_true]
      by_cases e : x.fFrom = x.fTo
      · simp [e]
      · by_cases g : 0 ≤ x.fResist <;> by_cases k : x.fResist ≤ 1000 <;> cases x.fValve <;> cases x.fOpen <;> simp [e, g, k]
/-! the loops -/
def bodyNode (i : Nat) (x : WaterNode) (l : List ByteArray) : List ByteArray ⊕ (Unit ⊕ (Int × Int)) := if nodeE x l = 0 then .inl (l ++ [x.fName]) else .inr (.inr ((i : Int), nodeE x l))
def bodyCond (n : Nat) (i : Nat) (x : WaterConduit) (l : List ByteArray) : List ByteArray ⊕ (Unit ⊕ (Int × Int)) := if condE x n l = 0 then .inl (l ++ [x.fName]) else .inr (.inr ((i : Int), condE x n l))
def netLoop (ns : List WaterNode) : Unit ⊕ (Int × Int) := loopL bodyNode (fun _ => .inl ()) ns 0 []
def condLoop (n : Nat) (cs : List WaterConduit) : Unit ⊕ (Int × Int) := loopL (bodyCond n) (fun _ => .inl ()) cs 0 []
def NamesN (ns : List WaterNode) : Prop := ∀ x ∈ ns, x.fName.size < 1000000
def NamesC (cs : List WaterConduit) : Prop := ∀ x ∈ cs, x.fName.size < 1000000
theorem L19l0_eq (ns : List WaterNode) (cs : List WaterConduit) (hn : ns.length < 100000) (hN : NamesN ns) : L19l0_0 ns cs (0, []) = some (netLoop ns) :=
  iter_list0 (step := S19l0_0 ns cs) (fun i (l : List ByteArray) => ((i : Int), l)) ns bodyNode (fun _ => .inl ()) (fun i l => l.length = i)
    (fun a _ => by simp [S19l0_0]) (fun i x l hx hi hl => by
      have hle : ¬ ((ns.length : Int) ≤ (i : Int)) := by omega
      simp only [S19l0_0, if_neg hle, geti_at hx, F78_eq x l (by omega) (hN x (List.mem_of_getElem? hx)), Option.bind_some]
      rw [aw_ok (by omega) (by omega)]
      unfold bodyNode
      by_cases h0 : nodeE x l = 0
      · simp only [h0, if_true]
        rw [room_le (by omega)]
        refine ⟨by simp, fun a' h => ?_⟩
        cases h; simp [hl]
      · simp [h0]) (by omega) [] rfl
theorem L19l1_eq (ns : List WaterNode) (cs : List WaterConduit) (hn : ns.length < 100000) (hc : cs.length < 100000) (hN : NamesC cs) : L19l1_0 ns cs (0, []) = some (condLoop ns.length cs) :=
  iter_list0 (step := S19l1_0 ns cs) (fun i (l : List ByteArray) => ((i : Int), l)) cs (bodyCond ns.length) (fun _ => .inl ()) (fun i l => l.length = i)
    (fun a _ => by simp [S19l1_0]) (fun i x l hx hi hl => by
      have hle : ¬ ((cs.length : Int) ≤ (i : Int)) := by omega
      simp only [S19l1_0, if_neg hle, geti_at hx, F79_eq x ns cs l (by omega) (hN x (List.mem_of_getElem? hx)) (by omega), Option.bind_some]
      rw [aw_ok (by omega) (by omega)]
      unfold bodyCond
      by_cases h0 : condE x ns.length l = 0
      · simp only [h0, if_true]
        rw [room_le (by omega)]
        refine ⟨by simp, fun a' h => ?_⟩
        cases h; simp [hl]
      · simp [h0]) (by omega) [] rfl
theorem neg_10000 : aw .i64 (0 - 10000) = -10000 := aw_ok (by decide) (by decide)
theorem neg_200000 : aw .i64 (0 - 200000) = -200000 := aw_ok (by decide) (by decide)
/-- what the program's loop does with a node -/
theorem node_step (x : WaterNode) (m : List (ByteArray × Bool)) (l : List ByteArray) (hm : Names m l) (hs : x.fName.size < 1000000) (n : Int) (ns : List WaterNode) (cs : List WaterConduit) (i : Nat) (hx : ns[i]? = some x) (hi : (i : Int) < n) (hb : i < 1000000) :
    S16l0_0 n ns cs ((i : Int), m) = some (if nodeE x l = 0 then .inl (((i + 1 : Nat) : Int), putM x.fName true m) else .inr (.inr ((i : Int), nodeE x l))) := by
  have hle : ¬ (n ≤ (i : Int)) := by omega
  simp only [S16l0_0, if_neg hle, geti_at hx, F73_eq, F74_eq, F75_eq _ hs, F72_eq, Option.bind_some, hm x.fName, neg_10000]
  rw [aw_ok (by omega) (by omega), F71_eq _ (by simp), F71_eq _ (by simp)]
  simp only [Option.bind_some]
  unfold nodeE
  cases nameOk x.fName
  · cases x.fLake <;> simp [firstNZ]
  · cases hasB x.fName l
    · cases x.fLake
      · by_cases a : -10000 ≤ x.fDraw <;> by_cases b : x.fDraw ≤ 10000 <;> by_cases c : x.fHead = 0 <;> simp [firstNZ, a, b, c]
      · by_cases a : 0 ≤ x.fHead <;> by_cases b : x.fHead ≤ 1000000 <;> by_cases c : x.fDraw = 0 <;> simp [firstNZ, a, b, c]
    · cases x.fLake <;> simp [firstNZ]
theorem iter_names {τ S : Type} {step : S → Option (S ⊕ (Unit ⊕ (Int × Int)))} (enc : Nat → List (ByteArray × Bool) → S) (xs : List τ) (nm : τ → ByteArray) (E : τ → List ByteArray → Int)
    (hend : ∀ m, step (enc xs.length m) = some (.inr (.inl ())))
    (hstep : ∀ i x m l, xs[i]? = some x → Names m l → i < xs.length → step (enc i m) = some (if E x l = 0 then .inl (enc (i + 1) (putM (nm x) true m)) else .inr (.inr ((i : Int), E x l)))) (hl : xs.length < 1000000) :
    iter step 1000000 (enc 0 []) = some (loopL (fun i x l => if E x l = 0 then .inl (l ++ [nm x]) else .inr (.inr ((i : Int), E x l))) (fun _ => .inl ()) xs 0 []) := by
  have key : ∀ (k i : Nat) (m : List (ByteArray × Bool)) (l : List ByteArray), i + k = xs.length → Names m l →
      iter step (k + 1) (enc i m) = some (loopL (fun i x l => if E x l = 0 then .inl (l ++ [nm x]) else .inr (.inr ((i : Int), E x l))) (fun _ => .inl ()) (xs.drop i) i l) := by
    intro k
    induction k with
    | zero =>
      intro i m l hi _
      have : i = xs.length := by omega
      subst this
      rw [List.drop_length]
      exact iter_out (hend m) 0
    | succ k ih =>
      intro i m l hi hm
      have hlt : i < xs.length := by omega
      have h1 := hstep i xs[i] m l (List.getElem?_eq_getElem hlt) hm hlt
      rw [List.drop_eq_getElem_cons hlt]
      by_cases h0 : E xs[i] l = 0
      · rw [if_pos h0] at h1
        rw [loopL]; simp only [h0, if_true]
        exact iter_in h1 (ih (i + 1) _ _ (by omega) (names_put hm _))
      · rw [if_neg h0] at h1
        rw [loopL]; simp only [if_neg h0]
        exact iter_out h1 _
  have := key xs.length 0 [] [] (by omega) names_nil
  rw [List.drop_zero] at this
  exact iter_mono this (by omega)
theorem L16l0_eq (ns : List WaterNode) (cs : List WaterConduit) (hn : ns.length < 100000) (hN : NamesN ns) : L16l0_0 (ns.length : Int) ns cs (0, []) = some (netLoop ns) :=
  iter_names (step := S16l0_0 (ns.length : Int) ns cs) (fun i m => ((i : Int), m)) ns (fun x => x.fName) nodeE (fun m => by simp [S16l0_0])
    (fun i x m l hx hm hi => node_step x m l hm (hN x (List.mem_of_getElem? hx)) _ ns cs i hx (by omega) (by omega)) (by omega)
theorem F76_eq (a : Int) (ns : List WaterNode) (cs : List WaterConduit) (hn : ns.length < 1000000) : F76_0 a ns cs = some (decide (0 ≤ a) && decide (a ≤ (ns.length : Int) - 1)) := by
  unfold F76_0; rw [F74_eq, aw_ok (by omega) (by omega)]; rfl
theorem cond_step (x : WaterConduit) (m : List (ByteArray × Bool)) (l : List ByteArray) (hm : Names m l) (hs : x.fName.size < 1000000) (n : Int) (ns : List WaterNode) (cs : List WaterConduit) (i : Nat) (hx : cs[i]? = some x) (hi : (i : Int) < n) (hb : i < 1000000) (hn : ns.length < 1000000) :
    S16l1_0 n ns cs ((i : Int), m) = some (if condE x ns.length l = 0 then .inl (((i + 1 : Nat) : Int), putM x.fName true m) else .inr (.inr ((i : Int), condE x ns.length l))) := by
  have hle : ¬ (n ≤ (i : Int)) := by omega
  simp only [S16l1_0, if_neg hle, geti_at hx, F74_eq, F75_eq _ hs, F72_eq, F76_eq _ _ _ hn, Option.bind_some, hm x.fName]
  rw [aw_ok (by omega) (by omega)]
  simp only [F71_eq _ (show ([_, _, _, _, _, _] : List Int).length < 1000000 by simp), Option.bind_some]
  unfold condE
  cases nameOk x.fName
  · by_cases a : 0 ≤ x.fFrom <;> by_cases b : x.fFrom ≤ (ns.length : Int) - 1 <;> cases x.fValve <;> simp [firstNZ, a, b]
  · cases hasB x.fName l
    · by_cases a : 0 ≤ x.fFrom <;> by_cases b : x.fFrom ≤ (ns.length : Int) - 1 <;> by_cases c : 0 ≤ x.fTo <;> by_cases d : x.fTo ≤ (ns.length : Int) - 1 <;>
        simp only [a, b, c, d, decide_true, decide_false, Bool.and_true, Bool.and_false, Bool.false_and, Bool.true_and, if_true, if_false, and_true, and_false, true_and, false_and, Bool.false_eq_true, Bool.not_false]
      · by_cases e : x.fFrom = x.fTo <;> by_cases g : 0 ≤ x.fResist <;> by_cases k : x.fResist ≤ 1000 <;> cases x.fValve <;> cases x.fOpen <;> simp [firstNZ, e, g, k]
      all_goals (cases x.fValve <;> simp [firstNZ])
    · by_cases a : 0 ≤ x.fFrom <;> by_cases b : x.fFrom ≤ (ns.length : Int) - 1 <;> cases x.fValve <;> simp [firstNZ, a, b]
theorem L16l1_eq (ns : List WaterNode) (cs : List WaterConduit) (hn : ns.length < 100000) (hc : cs.length < 100000) (hN : NamesC cs) : L16l1_0 (cs.length : Int) ns cs (0, []) = some (condLoop ns.length cs) :=
  iter_names (step := S16l1_0 (cs.length : Int) ns cs) (fun i m => ((i : Int), m)) cs (fun x => x.fName) (fun x l => condE x ns.length l) (fun m => by simp [S16l1_0])
    (fun i x m l hx hm hi => cond_step x m l hm (hN x (List.mem_of_getElem? hx)) _ ns cs i hx (by omega) (by omega) (by omega)) (by omega)
/-- which nets are valid -/
def checkNet (ns : List WaterNode) (cs : List WaterConduit) : Int × Int :=
  if ns.length = 0 ∨ cs.length = 0 then (0, 10) else if 10 < ns.length ∨ 14 < cs.length then (0, 8) else
    match netLoop ns with
    | .inr r => r
    | .inl _ => match condLoop ns.length cs with
      | .inr r => r
      | .inl _ => (0, 0)
theorem F19_eq (ns : List WaterNode) (cs : List WaterConduit) (hn : ns.length < 100000) (hc : cs.length < 100000) (hN : NamesN ns) (hC : NamesC cs) : F19_0 ns cs = some (checkNet ns cs) := by
  unfold F19_0 checkNet
  rw [L19l0_eq ns cs hn hN, L19l1_eq ns cs hn hc hC]
  by_cases a : ns.length = 0
  · simp [a]
  · by_cases b : cs.length = 0
    · simp [b]
    · by_cases c : ns.length ≤ 10 <;> by_cases d : cs.length ≤ 14
      · have a' : ¬ (ns.length : Int) = 0 := by omega
        have b' : ¬ (cs.length : Int) = 0 := by omega
        have c' : (ns.length : Int) ≤ 10 := by omega
        have d' : (cs.length : Int) ≤ 14 := by omega
        have c2 : ¬ 10 < ns.length := by omega
        have d2 : ¬ 14 < cs.length := by omega
        simp only [a, b, a', b', c', d', c2, d2, if_false, if_true, or_self, Option.bind_some]
        cases netLoop ns with
        | inr r => rfl
        | inl _ => cases condLoop ns.length cs <;> rfl
      · have a' : ¬ (ns.length : Int) = 0 := by omega
        have b' : ¬ (cs.length : Int) = 0 := by omega
        have c' : (ns.length : Int) ≤ 10 := by omega
        have d' : ¬ (cs.length : Int) ≤ 14 := by omega
        have d2 : 14 < cs.length := by omega
        simp [a, b, a', b', c', d', d2]
      · have a' : ¬ (ns.length : Int) = 0 := by omega
        have b' : ¬ (cs.length : Int) = 0 := by omega
        have c' : ¬ (ns.length : Int) ≤ 10 := by omega
        have c2 : 10 < ns.length := by omega
        simp [a, b, a', b', c', c2]
      · have a' : ¬ (ns.length : Int) = 0 := by omega
        have b' : ¬ (cs.length : Int) = 0 := by omega
        have c' : ¬ (ns.length : Int) ≤ 10 := by omega
        have c2 : 10 < ns.length := by omega
        simp [a, b, a', b', c', c2]
theorem F16_eq (ns : List WaterNode) (cs : List WaterConduit) (hn : ns.length < 100000) (hc : cs.length < 100000) (hN : NamesN ns) (hC : NamesC cs) : F16_0 ns cs = some (checkNet ns cs) := by
  unfold F16_0 checkNet
  rw [L16l0_eq ns cs hn hN, L16l1_eq ns cs hn hc hC]
  simp only [F72_eq, F71_eq _ (show ([_, _] : List Int).length < 1000000 by simp), Option.bind_some]
  by_cases a : ns.length = 0
  · have a1 : (ns.length : Int) ≤ 0 := by omega
    have a2 : (ns.length : Int) ≤ 10 := by omega
    simp [a, a1, a2, firstNZ]
  · have a1 : ¬ (ns.length : Int) ≤ 0 := by omega
    by_cases b : cs.length = 0
    · have b1 : (cs.length : Int) ≤ 0 := by omega
      by_cases c : (ns.length : Int) ≤ 10 <;> simp [a, b, a1, c, firstNZ]
    · have b1 : ¬ (cs.length : Int) ≤ 0 := by omega
      by_cases c : ns.length ≤ 10
      · have c1 : (ns.length : Int) ≤ 10 := by omega
        have c2 : ¬ 10 < ns.length := by omega
        by_cases d : cs.length ≤ 14
        · have d1 : (cs.length : Int) ≤ 14 := by omega
          have d2 : ¬ 14 < cs.length := by omega
          simp only [a, b, a1, b1, c1, c2, d1, d2, firstNZ, if_true, if_false, or_self, decide_true, decide_false, Bool.not_false, Option.bind_some]
          cases netLoop ns with
          | inr r => rfl
          | inl _ => cases condLoop ns.length cs <;> rfl
        · have d1 : ¬ (cs.length : Int) ≤ 14 := by omega
          have d2 : 14 < cs.length := by omega
          simp [a, b, a1, b1, c1, c2, d1, d2, firstNZ]
      · have c1 : ¬ (ns.length : Int) ≤ 10 := by omega
        have c2 : 10 < ns.length := by omega
        simp [a, b, a1, b1, c1, c2, firstNZ]
end Go.AI
