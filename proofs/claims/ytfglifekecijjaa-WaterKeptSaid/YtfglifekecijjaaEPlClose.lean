import Derived.Test.YtfglifekecijjaaEAiP
import Derived.Test.YtfglifekecijjaaEWnF
section
/-
  WHICH NETS ARE VALID: the program's answer is the reference's.
-/
set_option linter.unusedVariables false
set_option linter.unusedSimpArgs false
namespace Go.AI
theorem F74_eq (a b c : Int) : F74_0 a b c = some (decide (b ≤ a) && decide (a ≤ c)) := by
  unfold F74_0; by_cases h : b ≤ a <;> simp [h]
theorem F20_eq (a b c : Int) : F20_0 a b c = some (decide (b ≤ a) && decide (a ≤ c)) := by
  unfold F20_0; by_cases h : b ≤ a <;> simp [h]
theorem F73_eq (a b : Int) : F73_0 a b = some (decide (aw .i64 (0 - b) ≤ a) && decide (a ≤ b)) := by
  unfold F73_0; rw [F74_eq]; rfl
theorem F72_eq (b : Bool) (k : Int) : F72_0 b k = some (if b = true then 0 else k) := by
  unfold F72_0; cases b <;> rfl
/-! first -/
def firstNZ : List Int → Int
  | [] => 0
  | x :: xs => if x = 0 then firstNZ xs else x
theorem F71_eq (l : List Int) (hl : l.length < 1000000) : F71_0 l = some (firstNZ l) := by
  have h := iter_list0 (step := S71l0_0 (l.length : Int) l) (fun i (_ : Unit) => (i : Int)) l (fun _ x _ => if x = 0 then .inl () else .inr (.inr x)) (fun _ => .inl ()) (fun _ _ => True)
    (fun a _ => by simp [S71l0_0]) (fun i x a hx hi _ => by
      refine ⟨?_, fun _ _ => trivial⟩
      have hle : ¬ ((l.length : Int) ≤ (i : Int)) := by omega
      simp only [S71l0_0, if_neg hle, geti_at hx]
      rw [aw_ok (by omega) (by omega)]
      by_cases h : x = 0 <;> simp [h]) hl () trivial
  have key : ∀ (l : List Int) (i : Nat), (loopL (fun (_ : Nat) (x : Int) (_ : Unit) => if x = 0 then (.inl () : Unit ⊕ (Unit ⊕ Int)) else .inr (.inr x)) (fun _ => .inl ()) l i ()) = (if firstNZ l = 0 then .inl () else .inr (firstNZ l)) := by
    intro l
    induction l with
    | nil => intro i; rfl
    | cons x l ih =>
      intro i
      unfold loopL
      by_cases hx : x = 0
      · simp [hx, ih, firstNZ]
      · simp [hx, firstNZ]
  rw [key] at h
  unfold F71_0 L71l0_0
  rw [show ((0 : Int)) = ((0 : Nat) : Int) from rfl, h]
  by_cases h0 : firstNZ l = 0 <;> simp [h0]
/-! names -/
def charOk (i : Nat) (c : Int) : Bool := (decide (97 ≤ c) && decide (c ≤ 122)) || (decide (65 ≤ c) && decide (c ≤ 90)) || (!decide (i = 0) && (decide (c = 45) || (decide (48 ≤ c) && decide (c ≤ 57))))
def charsOk : List UInt8 → Nat → Bool
  | [], _ => true
  | b :: l, i => charOk i (b.toNat : Int) && charsOk l (i + 1)
def bodyN (i : Nat) (b : UInt8) (_ : Unit) : Unit ⊕ (Unit ⊕ Unit) := if charOk i (b.toNat : Int) then .inl () else .inr (.inr ())
theorem loopN_eq : ∀ (l : List UInt8) (i : Nat), loopL bodyN (fun _ => .inl ()) l i () = (if charsOk l i then .inl () else .inr ()) := by
  intro l
  induction l with
  | nil => intro i; rfl
  | cons b l ih =>
    intro i
    rw [loopL]
    have hb : bodyN i b () = if charOk i (b.toNat : Int) then .inl () else .inr (.inr ()) := rfl
    rw [hb]
    cases h : charOk i (b.toNat : Int)
    · simp [charsOk, h]
    · simp [charsOk, h, ih]
def nameOk (s : ByteArray) : Bool := charsOk s.data.toList 0 && (decide (1 ≤ s.size) && decide (s.size ≤ 12))
theorem F75_eq (s : ByteArray) (hs : s.size < 1000000) : F75_0 s = some (nameOk s) := by
  have hl : s.data.toList.length = s.size := by simp
  have h := iter_list0 (step := S75l0_0 s (s.size : Int) s.data.toList) (fun i (_ : Unit) => (i : Int)) s.data.toList bodyN (fun _ => .inl ()) (fun _ _ => True)
    (fun a _ => by simp [S75l0_0]) (fun i b a hx hi _ => by
      refine ⟨?_, fun _ _ => trivial⟩
      have hle : ¬ ((s.size : Int) ≤ (i : Int)) := by omega
      have hb : b.toNat < 256 := b.toNat_lt
      simp only [S75l0_0, if_neg hle, geti_at hx, F74_eq, Option.bind_some]
      rw [aw_ok (n := (b.toNat : Int)) (by omega) (by omega), aw_ok (n := (i : Int) + 1) (by omega) (by omega)]
      unfold bodyN charOk
      generalize (b.toNat : Int) = c
      by_cases h1 : (decide (97 ≤ c) && decide (c ≤ 122)) = true
      · simp [h1]
      · by_cases h2 : (decide (65 ≤ c) && decide (c ≤ 90)) = true
        · simp [h1, h2]
        · by_cases h3 : i = 0
          · subst h3; simp [h1, h2]
          · have h3' : ¬ (i : Int) = 0 := by omega
            by_cases h4 : c = 45
            · simp [h1, h2, h3, h3', h4]
            · by_cases h5 : (decide (48 ≤ c) && decide (c ≤ 57)) = true
              · simp [h1, h2, h3, h3', h4, h5]
              · simp [h1, h2, h3, h3', h4, h5]) (by omega) () trivial
  rw [loopN_eq] at h
  unfold F75_0 L75l0_0
  unfold roomS
  rw [if_pos (by omega)]
  rw [show ((0 : Int)) = ((0 : Nat) : Int) from rfl, h]
  cases hc : charsOk s.data.toList 0
  · simp [nameOk, hc]
  · simp only [nameOk, hc, F74_eq, Option.bind_some, Bool.true_and, if_true]
    by_cases h1 : 1 ≤ s.size <;> by_cases h2 : s.size ≤ 12 <;> simp [h1, h2] <;> omega
theorem F131_eq (s : ByteArray) (hs : s.size < 1000000) : F131_0 s = some (nameOk s) := by
  have hl : s.data.toList.length = s.size := by simp
  have h := iter_list0 (step := S131l0_0 s) (fun i (_ : Unit) => (i : Int)) s.data.toList bodyN (fun _ => .inl ()) (fun _ _ => True)
    (fun a _ => by simp [S131l0_0]) (fun i b a hx hi _ => by
      refine ⟨?_, fun _ _ => trivial⟩
      have hle : ¬ ((s.size : Int) ≤ (i : Int)) := by omega
      simp only [S131l0_0, if_neg hle, geti_at hx]
      rw [aw_ok (n := (i : Int) + 1) (by omega) (by omega)]
      unfold bodyN charOk
      generalize (b.toNat : Int) = c
      by_cases h3 : i = 0
      · subst h3
        by_cases a1 : 97 ≤ c <;> by_cases a2 : c ≤ 122 <;> by_cases a3 : 65 ≤ c <;> by_cases a4 : c ≤ 90 <;> simp [a1, a2, a3, a4]
      · have h3' : ¬ (i : Int) = 0 := by omega
        by_cases a1 : 97 ≤ c <;> by_cases a2 : c ≤ 122 <;> by_cases a3 : 65 ≤ c <;> by_cases a4 : c ≤ 90 <;> by_cases a5 : c = 45 <;> by_cases a6 : 48 ≤ c <;> by_cases a7 : c ≤ 57 <;> simp [h3, h3', a1, a2, a3, a4, a5, a6, a7]) (by omega) () trivial
  rw [loopN_eq] at h
  unfold F131_0 L131l0_0
  by_cases h1 : 1 ≤ s.size
  · by_cases h2 : s.size ≤ 12
    · rw [if_pos (by omega), if_pos (by omega), show ((0 : Int)) = ((0 : Nat) : Int) from rfl, h]
      cases hc : charsOk s.data.toList 0 <;> simp [nameOk, hc, h1, h2]
    · rw [if_pos (by omega), if_neg (by omega)]; simp [nameOk, h2]
  · rw [if_neg (by omega)]; simp [nameOk, h1]
/-! the reference's list of names, the program's map of names -/
def hasB (s : ByteArray) (l : List ByteArray) : Bool := l.any fun x => decide (x = s)
theorem F132_eq (s : ByteArray) (l : List ByteArray) (hl : l.length < 1000000) : F132_0 s l = some (hasB s l) := by
  have h := iter_list0 (step := S132l0_0 s l) (fun i (_ : Unit) => (i : Int)) l (fun _ x _ => if x = s then .inr (.inr ()) else .inl ()) (fun _ => .inl ()) (fun _ _ => True)
    (fun a _ => by simp [S132l0_0]) (fun i x a hx hi _ => by
      refine ⟨?_, fun _ _ => trivial⟩
      have hle : ¬ ((l.length : Int) ≤ (i : Int)) := by omega
      simp only [S132l0_0, if_neg hle, geti_at hx]
      rw [aw_ok (by omega) (by omega)]
      by_cases h : x = s <;> simp [h]) hl () trivial
  have key : ∀ (l : List ByteArray) (i : Nat), (loopL (fun (_ : Nat) (x : ByteArray) (_ : Unit) => if x = s then (.inr (.inr ()) : Unit ⊕ (Unit ⊕ Unit)) else .inl ()) (fun _ => .inl ()) l i ()) = (if hasB s l = true then .inr () else .inl ()) := by
    intro l
    induction l with
    | nil => intro i; rfl
    | cons x l ih =>
      intro i
      unfold loopL
      by_cases hx : x = s
      · simp [hx, hasB]
      · have : hasB s (x :: l) = hasB s l := by simp [hasB, hx]
        rw [this, ← ih (i + 1)]; simp [hx]
  rw [key] at h
  unfold F132_0 L132l0_0
  rw [show ((0 : Int)) = ((0 : Nat) : Int) from rfl, h]
  cases h0 : hasB s l <;> simp [h0]
def Names (m : List (ByteArray × Bool)) (l : List ByteArray) : Prop := ∀ s, getM s false m = hasB s l
theorem names_nil : Names [] [] := fun s => by simp [getM, findM, hasB]
theorem findM_put (k s : ByteArray) (v : Bool) (m : List (ByteArray × Bool)) : findM s (putM k v m) = if s = k then some v else findM s m := by
  induction m with
  | nil => simp [putM, findM]
  | cons p m ih =>
    obtain ⟨k', v'⟩ := p
    unfold putM
    by_cases hk : k = k'
    · subst hk
      by_cases hs : s = k <;> simp [findM, hs]
    · by_cases hs : s = k
      · subst hs; simp [findM, hk, ih]
      · by_cases hs' : s = k'
        · subst hs'; simp [findM, hk, hs]
        · simp [findM, hk, hs, hs', ih]
theorem names_put {m : List (ByteArray × Bool)} {l : List ByteArray} (h : Names m l) (k : ByteArray) : Names (putM k true m) (l ++ [k]) := fun s => by
  unfold getM
  rw [findM_put]
  have hb : hasB s (l ++ [k]) = (hasB s l || decide (k = s)) := by simp [hasB]
  rw [hb]
  by_cases hs : s = k
  · simp [hs]
  · have := h s
    unfold getM at this
    have hs' : ¬ k = s := fun h => hs h.symm
    simp [hs, hs', this]
/-! one node, one conduit: the first error -/
def nodeE (x : WaterNode) (l : List ByteArray) : Int :=
  if nameOk x.fName = true then if hasB x.fName l = true then 5 else if x.fLake = true then (if 0 ≤ x.fHead ∧ x.fHead ≤ 1000000 then (if x.fDraw = 0 then 0 else 3) else 2)
    else (if -10000 ≤ x.fDraw ∧ x.fDraw ≤ 10000 then (if x.fHead = 0 then 0 else 3) else 2) else 4
def condE (x : WaterConduit) (n : Nat) (l : List ByteArray) : Int :=
  if nameOk x.fName = true then if hasB x.fName l = true then 5 else
    if (0 ≤ x.fFrom ∧ x.fFrom ≤ (n : Int) - 1) ∧ (0 ≤ x.fTo ∧ x.fTo ≤ (n : Int) - 1) then if x.fFrom = x.fTo then 13 else
      if 0 ≤ x.fResist ∧ x.fResist ≤ 1000 then (if x.fValve = true ∨ x.fOpen = true then 0 else 3) else 2 else 6 else 4
theorem F78_eq (x : WaterNode) (l : List ByteArray) (hl : l.length < 1000000) (hs : x.fName.size < 1000000) : F78_0 x.fName x.fLake x.fHead x.fDraw l = some (nodeE x l) := by
  unfold F78_0 nodeE
  simp only [F131_eq _ hs, F132_eq _ _ hl, F20_eq, Option.bind_some]
  cases nameOk x.fName
  · simp
  · by_cases h1 : hasB x.fName l = true
    · simp [h1]
    · cases x.fLake
      · by_cases a : -10000 ≤ x.fDraw <;> by_cases b : x.fDraw ≤ 10000 <;> by_cases c : x.fHead = 0 <;> simp [h1, a, b, c]
      · by_cases a : 0 ≤ x.fHead <;> by_cases b : x.fHead ≤ 1000000 <;> by_cases c : x.fDraw = 0 <;> simp [h1, a, b, c]
theorem F79_eq (x : WaterConduit) (ns : List WaterNode) (cs : List WaterConduit) (l : List ByteArray) (hl : l.length < 1000000) (hs : x.fName.size < 1000000) (hn : ns.length < 1000000) :
    F79_0 x.fName x.fFrom x.fTo x.fResist x.fValve x.fOpen ns cs l = some (condE x ns.length l) := by
  unfold F79_0 condE
  simp only [F131_eq _ hs, F132_eq _ _ hl, F20_eq, Option.bind_some]
  rw [aw_ok (by omega) (by omega)]
  cases nameOk x.fName
  · simp
  · by_cases h1 : hasB x.fName l = true
    · simp [h1]
    · by_cases a : 0 ≤ x.fFrom <;> by_cases b : x.fFrom ≤ (ns.length : Int) - 1 <;> by_cases c : 0 ≤ x.fTo <;> by_cases d : x.fTo ≤ (ns.length : Int) - 1 <;> simp only [h1, a, b, c, d, decide_true, decide_false, Bool.and_true, Bool.and_false, Bool.false_and, Bool.true_and, if_true, if_false, and_true, and_false, true_and, false_and, Bool.false_eq_true]
      by_cases e : x.fFrom = x.fTo
      · simp [e]
      · by_cases g : 0 ≤ x.fResist <;> by_cases k : x.fResist ≤ 1000 <;> cases x.fValve <;> cases x.fOpen <;> simp [e, g, k]
/-! the loops -/
def bodyNode (i : Nat) (x : WaterNode) (l : List ByteArray) : List ByteArray ⊕ (Unit ⊕ (Int × Int)) := if nodeE x l = 0 then .inl (l ++ [x.fName]) else .inr (.inr ((i : Int), nodeE x l))
def bodyCond (n : Nat) (i : Nat) (x : WaterConduit) (l : List ByteArray) : List ByteArray ⊕ (Unit ⊕ (Int × Int)) := if condE x n l = 0 then .inl (l ++ [x.fName]) else .inr (.inr ((i : Int), condE x n l))
def netLoop (ns : List WaterNode) : Unit ⊕ (Int × Int) := loopL bodyNode (fun _ => .inl ()) ns 0 []
def condLoop (n : Nat) (cs : List WaterConduit) : Unit ⊕ (Int × Int) := loopL (bodyCond n) (fun _ => .inl ()) cs 0 []
def NamesN (ns : List WaterNode) : Prop := ∀ x ∈ ns, x.fName.size < 1000000
def NamesC (cs : List WaterConduit) : Prop := ∀ x ∈ cs, x.fName.size < 1000000
theorem L19l0_eq (ns : List WaterNode) (cs : List WaterConduit) (hn : ns.length < 100000) (hN : NamesN ns) : L19l0_0 ns cs (0, []) = some (netLoop ns) :=
  iter_list0 (step := S19l0_0 ns cs) (fun i (l : List ByteArray) => ((i : Int), l)) ns bodyNode (fun _ => .inl ()) (fun i l => l.length = i)
    (fun a _ => by simp [S19l0_0]) (fun i x l hx hi hl => by
      have hle : ¬ ((ns.length : Int) ≤ (i : Int)) := by omega
      simp only [S19l0_0, if_neg hle, geti_at hx, F78_eq x l (by omega) (hN x (List.mem_of_getElem? hx)), Option.bind_some]
      rw [aw_ok (by omega) (by omega)]
      unfold bodyNode
      by_cases h0 : nodeE x l = 0
      · simp only [h0, if_true]
        rw [room_le (by omega)]
        refine ⟨by simp, fun a' h => ?_⟩
        cases h; simp [hl]
      · simp [h0]) (by omega) [] rfl
theorem L19l1_eq (ns : List WaterNode) (cs : List WaterConduit) (hn : ns.length < 100000) (hc : cs.length < 100000) (hN : NamesC cs) : L19l1_0 ns cs (0, []) = some (condLoop ns.length cs) :=
  iter_list0 (step := S19l1_0 ns cs) (fun i (l : List ByteArray) => ((i : Int), l)) cs (bodyCond ns.length) (fun _ => .inl ()) (fun i l => l.length = i)
    (fun a _ => by simp [S19l1_0]) (fun i x l hx hi hl => by
      have hle : ¬ ((cs.length : Int) ≤ (i : Int)) := by omega
      simp only [S19l1_0, if_neg hle, geti_at hx, F79_eq x ns cs l (by omega) (hN x (List.mem_of_getElem? hx)) (by omega), Option.bind_some]
      rw [aw_ok (by omega) (by omega)]
      unfold bodyCond
      by_cases h0 : condE x ns.length l = 0
      · simp only [h0, if_true]
        rw [room_le (by omega)]
        refine ⟨by simp, fun a' h => ?_⟩
        cases h; simp [hl]
      · simp [h0]) (by omega) [] rfl
theorem neg_10000 : aw .i64 (0 - 10000) = -10000 := aw_ok (by decide) (by decide)
theorem neg_200000 : aw .i64 (0 - 200000) = -200000 := aw_ok (by decide) (by decide)
theorem node_step (x : WaterNode) (m : List (ByteArray × Bool)) (l : List ByteArray) (hm : Names m l) (hs : x.fName.size < 1000000) (n : Int) (ns : List WaterNode) (cs : List WaterConduit) (i : Nat) (hx : ns[i]? = some x) (hi : (i : Int) < n) (hb : i < 1000000) :
    S16l0_0 n ns cs ((i : Int), m) = some (if nodeE x l = 0 then .inl (((i + 1 : Nat) : Int), putM x.fName true m) else .inr (.inr ((i : Int), nodeE x l))) := by
  have hle : ¬ (n ≤ (i : Int)) := by omega
  simp only [S16l0_0, if_neg hle, geti_at hx, F73_eq, F74_eq, F75_eq _ hs, F72_eq, Option.bind_some, hm x.fName, neg_10000]
  rw [aw_ok (by omega) (by omega), F71_eq _ (by simp), F71_eq _ (by simp)]
  simp only [Option.bind_some]
  unfold nodeE
  cases nameOk x.fName
  · cases x.fLake <;> simp [firstNZ]
  · cases hasB x.fName l
    · cases x.fLake
      · by_cases a : -10000 ≤ x.fDraw <;> by_cases b : x.fDraw ≤ 10000 <;> by_cases c : x.fHead = 0 <;> simp [firstNZ, a, b, c]
      · by_cases a : 0 ≤ x.fHead <;> by_cases b : x.fHead ≤ 1000000 <;> by_cases c : x.fDraw = 0 <;> simp [firstNZ, a, b, c]
    · cases x.fLake <;> simp [firstNZ]
theorem iter_names {τ S : Type} {step : S → Option (S ⊕ (Unit ⊕ (Int × Int)))} (enc : Nat → List (ByteArray × Bool) → S) (xs : List τ) (nm : τ → ByteArray) (E : τ → List ByteArray → Int)
    (hend : ∀ m, step (enc xs.length m) = some (.inr (.inl ())))
    (hstep : ∀ i x m l, xs[i]? = some x → Names m l → i < xs.length → step (enc i m) = some (if E x l = 0 then .inl (enc (i + 1) (putM (nm x) true m)) else .inr (.inr ((i : Int), E x l)))) (hl : xs.length < 1000000) :
    iter step 1000000 (enc 0 []) = some (loopL (fun i x l => if E x l = 0 then .inl (l ++ [nm x]) else .inr (.inr ((i : Int), E x l))) (fun _ => .inl ()) xs 0 []) := by
  have key : ∀ (k i : Nat) (m : List (ByteArray × Bool)) (l : List ByteArray), i + k = xs.length → Names m l →
      iter step (k + 1) (enc i m) = some (loopL (fun i x l => if E x l = 0 then .inl (l ++ [nm x]) else .inr (.inr ((i : Int), E x l))) (fun _ => .inl ()) (xs.drop i) i l) := by
    intro k
    induction k with
    | zero =>
      intro i m l hi _
      have : i = xs.length := by omega
      subst this
      rw [List.drop_length]
      exact iter_out (hend m) 0
    | succ k ih =>
      intro i m l hi hm
      have hlt : i < xs.length := by omega
      have h1 := hstep i xs[i] m l (List.getElem?_eq_getElem hlt) hm hlt
      rw [List.drop_eq_getElem_cons hlt]
      by_cases h0 : E xs[i] l = 0
      · rw [if_pos h0] at h1
        rw [loopL]; simp only [h0, if_true]
        exact iter_in h1 (ih (i + 1) _ _ (by omega) (names_put hm _))
      · rw [if_neg h0] at h1
        rw [loopL]; simp only [if_neg h0]
        exact iter_out h1 _
  have := key xs.length 0 [] [] (by omega) names_nil
  rw [List.drop_zero] at this
  exact iter_mono this (by omega)
theorem L16l0_eq (ns : List WaterNode) (cs : List WaterConduit) (hn : ns.length < 100000) (hN : NamesN ns) : L16l0_0 (ns.length : Int) ns cs (0, []) = some (netLoop ns) :=
  iter_names (step := S16l0_0 (ns.length : Int) ns cs) (fun i m => ((i : Int), m)) ns (fun x => x.fName) nodeE (fun m => by simp [S16l0_0])
    (fun i x m l hx hm hi => node_step x m l hm (hN x (List.mem_of_getElem? hx)) _ ns cs i hx (by omega) (by omega)) (by omega)
theorem F76_eq (a : Int) (ns : List WaterNode) (cs : List WaterConduit) (hn : ns.length < 1000000) : F76_0 a ns cs = some (decide (0 ≤ a) && decide (a ≤ (ns.length : Int) - 1)) := by
  unfold F76_0; rw [F74_eq, aw_ok (by omega) (by omega)]; rfl
theorem cond_step (x : WaterConduit) (m : List (ByteArray × Bool)) (l : List ByteArray) (hm : Names m l) (hs : x.fName.size < 1000000) (n : Int) (ns : List WaterNode) (cs : List WaterConduit) (i : Nat) (hx : cs[i]? = some x) (hi : (i : Int) < n) (hb : i < 1000000) (hn : ns.length < 1000000) :
    S16l1_0 n ns cs ((i : Int), m) = some (if condE x ns.length l = 0 then .inl (((i + 1 : Nat) : Int), putM x.fName true m) else .inr (.inr ((i : Int), condE x ns.length l))) := by
  have hle : ¬ (n ≤ (i : Int)) := by omega
  simp only [S16l1_0, if_neg hle, geti_at hx, F74_eq, F75_eq _ hs, F72_eq, F76_eq _ _ _ hn, Option.bind_some, hm x.fName]
  rw [aw_ok (by omega) (by omega)]
  simp only [F71_eq _ (show ([_, _, _, _, _, _] : List Int).length < 1000000 by simp), Option.bind_some]
  unfold condE
  cases nameOk x.fName
  · by_cases a : 0 ≤ x.fFrom <;> by_cases b : x.fFrom ≤ (ns.length : Int) - 1 <;> cases x.fValve <;> simp [firstNZ, a, b]
  · cases hasB x.fName l
    · by_cases a : 0 ≤ x.fFrom <;> by_cases b : x.fFrom ≤ (ns.length : Int) - 1 <;> by_cases c : 0 ≤ x.fTo <;> by_cases d : x.fTo ≤ (ns.length : Int) - 1 <;>
        simp only [a, b, c, d, decide_true, decide_false, Bool.and_true, Bool.and_false, Bool.false_and, Bool.true_and, if_true, if_false, and_true, and_false, true_and, false_and, Bool.false_eq_true, Bool.not_false]
      · by_cases e : x.fFrom = x.fTo <;> by_cases g : 0 ≤ x.fResist <;> by_cases k : x.fResist ≤ 1000 <;> cases x.fValve <;> cases x.fOpen <;> simp [firstNZ, e, g, k]
      all_goals (cases x.fValve <;> simp [firstNZ])
    · by_cases a : 0 ≤ x.fFrom <;> by_cases b : x.fFrom ≤ (ns.length : Int) - 1 <;> cases x.fValve <;> simp [firstNZ, a, b]
theorem L16l1_eq (ns : List WaterNode) (cs : List WaterConduit) (hn : ns.length < 100000) (hc : cs.length < 100000) (hN : NamesC cs) : L16l1_0 (cs.length : Int) ns cs (0, []) = some (condLoop ns.length cs) :=
  iter_names (step := S16l1_0 (cs.length : Int) ns cs) (fun i m => ((i : Int), m)) cs (fun x => x.fName) (fun x l => condE x ns.length l) (fun m => by simp [S16l1_0])
    (fun i x m l hx hm hi => cond_step x m l hm (hN x (List.mem_of_getElem? hx)) _ ns cs i hx (by omega) (by omega) (by omega)) (by omega)
def checkNet (ns : List WaterNode) (cs : List WaterConduit) : Int × Int :=
  if ns.length = 0 ∨ cs.length = 0 then (0, 10) else if 10 < ns.length ∨ 14 < cs.length then (0, 8) else
    match netLoop ns with
    | .inr r => r
    | .inl _ => match condLoop ns.length cs with
      | .inr r => r
      | .inl _ => (0, 0)
theorem F19_eq (ns : List WaterNode) (cs : List WaterConduit) (hn : ns.length < 100000) (hc : cs.length < 100000) (hN : NamesN ns) (hC : NamesC cs) : F19_0 ns cs = some (checkNet ns cs) := by
  unfold F19_0 checkNet
  rw [L19l0_eq ns cs hn hN, L19l1_eq ns cs hn hc hC]
  by_cases a : ns.length = 0
  · simp [a]
  · by_cases b : cs.length = 0
    · simp [b]
    · by_cases c : ns.length ≤ 10 <;> by_cases d : cs.length ≤ 14
      · have a' : ¬ (ns.length : Int) = 0 := by omega
        have b' : ¬ (cs.length : Int) = 0 := by omega
        have c' : (ns.length : Int) ≤ 10 := by omega
        have d' : (cs.length : Int) ≤ 14 := by omega
        have c2 : ¬ 10 < ns.length := by omega
        have d2 : ¬ 14 < cs.length := by omega
        simp only [a, b, a', b', c', d', c2, d2, if_false, if_true, or_self, Option.bind_some]
        cases netLoop ns with
        | inr r => rfl
        | inl _ => cases condLoop ns.length cs <;> rfl
      · have a' : ¬ (ns.length : Int) = 0 := by omega
        have b' : ¬ (cs.length : Int) = 0 := by omega
        have c' : (ns.length : Int) ≤ 10 := by omega
        have d' : ¬ (cs.length : Int) ≤ 14 := by omega
        have d2 : 14 < cs.length := by omega
        simp [a, b, a', b', c', d', d2]
      · have a' : ¬ (ns.length : Int) = 0 := by omega
        have b' : ¬ (cs.length : Int) = 0 := by omega
        have c' : ¬ (ns.length : Int) ≤ 10 := by omega
        have c2 : 10 < ns.length := by omega
        simp [a, b, a', b', c', c2]
      · have a' : ¬ (ns.length : Int) = 0 := by omega
        have b' : ¬ (cs.length : Int) = 0 := by omega
        have c' : ¬ (ns.length : Int) ≤ 10 := by omega
        have c2 : 10 < ns.length := by omega
        simp [a, b, a', b', c', c2]
theorem F16_eq (ns : List WaterNode) (cs : List WaterConduit) (hn : ns.length < 100000) (hc : cs.length < 100000) (hN : NamesN ns) (hC : NamesC cs) : F16_0 ns cs = some (checkNet ns cs) := by
  unfold F16_0 checkNet
  rw [L16l0_eq ns cs hn hN, L16l1_eq ns cs hn hc hC]
  simp only [F72_eq, F71_eq _ (show ([_, _] : List Int).length < 1000000 by simp), Option.bind_some]
  by_cases a : ns.length = 0
  · have a1 : (ns.length : Int) ≤ 0 := by omega
    have a2 : (ns.length : Int) ≤ 10 := by omega
    simp [a, a1, a2, firstNZ]
  · have a1 : ¬ (ns.length : Int) ≤ 0 := by omega
    by_cases b : cs.length = 0
    · have b1 : (cs.length : Int) ≤ 0 := by omega
      by_cases c : (ns.length : Int) ≤ 10 <;> simp [a, b, a1, c, firstNZ]
    · have b1 : ¬ (cs.length : Int) ≤ 0 := by omega
      by_cases c : ns.length ≤ 10
      · have c1 : (ns.length : Int) ≤ 10 := by omega
        have c2 : ¬ 10 < ns.length := by omega
        by_cases d : cs.length ≤ 14
        · have d1 : (cs.length : Int) ≤ 14 := by omega
          have d2 : ¬ 14 < cs.length := by omega
          simp only [a, b, a1, b1, c1, c2, d1, d2, firstNZ, if_true, if_false, or_self, decide_true, decide_false, Bool.not_false, Option.bind_some]
          cases netLoop ns with
          | inr r => rfl
          | inl _ => cases condLoop ns.length cs <;> rfl
        · have d1 : ¬ (cs.length : Int) ≤ 14 := by omega
          have d2 : 14 < cs.length := by omega
          simp [a, b, a1, b1, c1, c2, d1, d2, firstNZ]
      · have c1 : ¬ (ns.length : Int) ≤ 10 := by omega
        have c2 : 10 < ns.length := by omega
        simp [a, b, a1, b1, c1, c2, firstNZ]
end Go.AI
end
section
/-
  FEW, COPY, LOSS; THE PLAIN LAW OF WaterNets.
-/
set_option linter.unusedVariables false
set_option linter.unusedSimpArgs false
namespace Go.AI
def bodyS {α : Type} (nm : α → ByteArray) (_ : Nat) (x : α) (_ : Unit) : Unit ⊕ (Unit ⊕ Unit) := if (nm x).size ≤ 20 then .inl () else .inr (.inr ())
theorem loopS_eq {α : Type} (nm : α → ByteArray) : ∀ (l : List α) (i : Nat), loopL (bodyS nm) (fun _ => .inl ()) l i () = if l.all (fun x => decide ((nm x).size ≤ 20)) = true then .inl () else .inr () := by
  intro l
  induction l with
  | nil => intro i; rfl
  | cons x l ih =>
    intro i
    rw [loopL]
    by_cases h : (nm x).size ≤ 20
    · have : bodyS nm i x () = .inl () := if_pos h
      rw [this]; simp only [ih, List.all_cons, h, decide_true, Bool.true_and]
    · have : bodyS nm i x () = .inr (.inr ()) := if_neg h
      rw [this]; simp [h]
theorem L15l0_eq (ns : List WaterNode) (cs : List WaterConduit) (hn : ns.length < 100000) : L15l0_0 ns cs 0 = some (if ns.all (fun x => decide (x.fName.size ≤ 20)) = true then .inl () else .inr ()) := by
  have h := iter_list0 (step := S15l0_0 ns cs) (fun i (_ : Unit) => (i : Int)) ns (bodyS fun x => x.fName) (fun _ => .inl ()) (fun _ _ => True)
    (fun a _ => by simp [S15l0_0]) (fun i x a hx hi _ => by
      refine ⟨?_, fun _ _ => trivial⟩
      have hle : ¬ ((ns.length : Int) ≤ (i : Int)) := by omega
      simp only [S15l0_0, if_neg hle, geti_at hx, bodyS]
      rw [aw_ok (by omega) (by omega)]
      by_cases h : x.fName.size ≤ 20
      · have h' : (x.fName.size : Int) ≤ 20 := by omega
        simp [h, h']
      · have h' : ¬ (x.fName.size : Int) ≤ 20 := by omega
        simp [h, h']) (by omega) () trivial
  rw [loopS_eq] at h
  exact h
theorem L15l1_eq (ns : List WaterNode) (cs : List WaterConduit) (hn : cs.length < 100000) : L15l1_0 ns cs 0 = some (if cs.all (fun x => decide (x.fName.size ≤ 20)) = true then .inl () else .inr ()) := by
  have h := iter_list0 (step := S15l1_0 ns cs) (fun i (_ : Unit) => (i : Int)) cs (bodyS fun x => x.fName) (fun _ => .inl ()) (fun _ _ => True)
    (fun a _ => by simp [S15l1_0]) (fun i x a hx hi _ => by
      refine ⟨?_, fun _ _ => trivial⟩
      have hle : ¬ ((cs.length : Int) ≤ (i : Int)) := by omega
      simp only [S15l1_0, if_neg hle, geti_at hx, bodyS]
      rw [aw_ok (by omega) (by omega)]
      by_cases h : x.fName.size ≤ 20
      · have h' : (x.fName.size : Int) ≤ 20 := by omega
        simp [h, h']
      · have h' : ¬ (x.fName.size : Int) ≤ 20 := by omega
        simp [h, h']) (by omega) () trivial
  rw [loopS_eq] at h
  exact h
structure FewN (ns : List WaterNode) (cs : List WaterConduit) : Prop where
  n : ns.length ≤ 12
  c : cs.length ≤ 16
  nn : ∀ x ∈ ns, x.fName.size ≤ 20
  cn : ∀ x ∈ cs, x.fName.size ≤ 20
theorem F15_spec (ns : List WaterNode) (cs : List WaterConduit) : F15_0 ns cs = some false ∨ (F15_0 ns cs = some true ∧ FewN ns cs) := by
  unfold F15_0
  by_cases a : ns.length ≤ 12
  · by_cases b : cs.length ≤ 16
    · rw [if_pos (by omega), if_pos (by omega), L15l0_eq ns cs (by omega), L15l1_eq ns cs (by omega)]
      by_cases c : ns.all (fun x => decide (x.fName.size ≤ 20)) = true
      · by_cases d : cs.all (fun x => decide (x.fName.size ≤ 20)) = true
        · right
          refine ⟨by simp [c, d], a, b, fun x hx => ?_, fun x hx => ?_⟩
          · simpa using List.all_eq_true.1 c x hx
          · simpa using List.all_eq_true.1 d x hx
        · left; simp [c, d]
      · left; simp [c]
    · left; rw [if_pos (by omega), if_neg (by omega)]
  · left; rw [if_neg (by omega)]
theorem FewN.names {ns : List WaterNode} {cs : List WaterConduit} (h : FewN ns cs) : NamesN ns := fun x hx => by have := h.nn x hx; omega
theorem FewN.cnames {ns : List WaterNode} {cs : List WaterConduit} (h : FewN ns cs) : NamesC cs := fun x hx => by have := h.cn x hx; omega
theorem F17_eq (ns : List WaterNode) (cs : List WaterConduit) (h : FewN ns cs) : F17_0 ns cs = some () := by
  have h1 := h.n; have h2 := h.c
  unfold F17_0; rw [room_le (by omega), room_le (by omega)]
theorem F19_few {ns : List WaterNode} {cs : List WaterConduit} (h : FewN ns cs) : F19_0 ns cs = some (checkNet ns cs) :=
  F19_eq ns cs (by have := h.n; omega) (by have := h.c; omega) h.names h.cnames
theorem F16_few {ns : List WaterNode} {cs : List WaterConduit} (h : FewN ns cs) : F16_0 ns cs = some (checkNet ns cs) :=
  F16_eq ns cs (by have := h.n; omega) (by have := h.c; omega) h.names h.cnames
theorem F21_eq (q : Int) : F21_0 q = some (if -200000 ≤ q ∧ q ≤ 200000 then 0 else 2) := by
  unfold F21_0; rw [F20_eq]
  by_cases a : -200000 ≤ q <;> by_cases b : q ≤ 200000 <;> simp [a, b]
noncomputable def lossV (c q : Int) : Int := aw .i64 (aw .i64 (c * q) * max q (aw .i64 (0 - q)))
theorem F77_eq (c q : Int) : F77_0 c q = some (lossV c q) := rfl
end Go.AI
end
section
/-
  VALID NETS; MARKS THAT SPREAD; THE PLAIN LAW OF WaterReaches.
-/
set_option linter.unusedVariables false
set_option linter.unusedSimpArgs false
namespace Go.AI
/-! what holds in a valid net -/
structure NodeOk (x : WaterNode) : Prop where
  lake : x.fLake = true → (0 ≤ x.fHead ∧ x.fHead ≤ 1000000) ∧ x.fDraw = 0
  junc : x.fLake = false → (-10000 ≤ x.fDraw ∧ x.fDraw ≤ 10000) ∧ x.fHead = 0
structure CondOk (n : Nat) (x : WaterConduit) : Prop where
  f0 : 0 ≤ x.fFrom
  f1 : x.fFrom < n
  t0 : 0 ≤ x.fTo
  t1 : x.fTo < n
  ne : x.fFrom ≠ x.fTo
  r0 : 0 ≤ x.fResist
  r1 : x.fResist ≤ 1000
  vo : x.fValve = true ∨ x.fOpen = true
structure NetOk (ns : List WaterNode) (cs : List WaterConduit) : Prop where
  n0 : 0 < ns.length
  n1 : ns.length ≤ 10
  c0 : 0 < cs.length
  c1 : cs.length ≤ 14
  nodes : ∀ x ∈ ns, NodeOk x
  conds : ∀ c ∈ cs, CondOk ns.length c
theorem nodeE_ok {x : WaterNode} {l : List ByteArray} (h : nodeE x l = 0) : NodeOk x := by
  unfold nodeE at h
  by_cases a : nameOk x.fName = true
  · by_cases b : hasB x.fName l = true
    · simp [a, b] at h
    · cases c : x.fLake
      · refine ⟨fun e => by simp [c] at e, fun _ => ?_⟩
        by_cases d : -10000 ≤ x.fDraw ∧ x.fDraw ≤ 10000
        · by_cases e : x.fHead = 0
          · exact ⟨d, e⟩
          · simp [a, b, c, d, e] at h
        · simp [a, b, c, d] at h
      · refine ⟨fun _ => ?_, fun e => by simp [c] at e⟩
        by_cases d : 0 ≤ x.fHead ∧ x.fHead ≤ 1000000
        · by_cases e : x.fDraw = 0
          · exact ⟨d, e⟩
          · simp [a, b, c, d, e] at h
        · simp [a, b, c, d] at h
  · simp [a] at h
theorem condE_ok {x : WaterConduit} {n : Nat} {l : List ByteArray} (h : condE x n l = 0) : CondOk n x := by
  unfold condE at h
  by_cases a : nameOk x.fName = true
  · by_cases b : hasB x.fName l = true
    · simp [a, b] at h
    · by_cases c : (0 ≤ x.fFrom ∧ x.fFrom ≤ (n : Int) - 1) ∧ (0 ≤ x.fTo ∧ x.fTo ≤ (n : Int) - 1)
      · by_cases d : x.fFrom = x.fTo
        · simp only [a, b, c, d, if_true, if_false] at h; simp at h
        · by_cases e : 0 ≤ x.fResist ∧ x.fResist ≤ 1000
          · by_cases g : x.fValve = true ∨ x.fOpen = true
            · exact ⟨c.1.1, by omega, c.2.1, by omega, d, e.1, e.2, g⟩
            · rw [if_pos a, if_neg b, if_pos c, if_neg d, if_pos e, if_neg g] at h; cases h
          · rw [if_pos a, if_neg b, if_pos c, if_neg d, if_neg e] at h; cases h
      · rw [if_pos a, if_neg b, if_neg c] at h; cases h
  · simp [a] at h
theorem netLoop_ok {ns : List WaterNode} {u : Unit} (h : netLoop ns = .inl u) : ∀ x ∈ ns, NodeOk x := by
  have key : ∀ (ns : List WaterNode) (i : Nat) (l : List ByteArray), loopL bodyNode (fun _ => (.inl () : Unit ⊕ (Int × Int))) ns i l = .inl u → ∀ x ∈ ns, NodeOk x := by
    intro ns
    induction ns with
    | nil => intro i l _ x hx; cases hx
    | cons y ns ih =>
      intro i l h x hx
      rw [loopL] at h
      by_cases h0 : nodeE y l = 0
      · have hb : bodyNode i y l = .inl (l ++ [y.fName]) := by unfold bodyNode; rw [if_pos h0]
        rw [hb] at h
        cases hx with
        | head => exact nodeE_ok h0
        | tail _ hx => exact ih _ _ h x hx
      · have hb : bodyNode i y l = .inr (.inr ((i : Int), nodeE y l)) := by unfold bodyNode; rw [if_neg h0]
        rw [hb] at h; cases h
  exact key ns 0 [] h
theorem condLoop_ok {n : Nat} {cs : List WaterConduit} {u : Unit} (h : condLoop n cs = .inl u) : ∀ x ∈ cs, CondOk n x := by
  have key : ∀ (cs : List WaterConduit) (i : Nat) (l : List ByteArray), loopL (bodyCond n) (fun _ => (.inl () : Unit ⊕ (Int × Int))) cs i l = .inl u → ∀ x ∈ cs, CondOk n x := by
    intro cs
    induction cs with
    | nil => intro i l _ x hx; cases hx
    | cons y cs ih =>
      intro i l h x hx
      rw [loopL] at h
      by_cases h0 : condE y n l = 0
      · have hb : bodyCond n i y l = .inl (l ++ [y.fName]) := by unfold bodyCond; rw [if_pos h0]
        rw [hb] at h
        cases hx with
        | head => exact condE_ok h0
        | tail _ hx => exact ih _ _ h x hx
      · have hb : bodyCond n i y l = .inr (.inr ((i : Int), condE y n l)) := by unfold bodyCond; rw [if_neg h0]
        rw [hb] at h; cases h
  exact key cs 0 [] h
theorem netLoop_err {ns : List WaterNode} {r : Int × Int} (h : netLoop ns = .inr r) : r.2 ≠ 0 := by
  have key : ∀ (ns : List WaterNode) (i : Nat) (l : List ByteArray), loopL bodyNode (fun _ => (.inl () : Unit ⊕ (Int × Int))) ns i l = .inr r → r.2 ≠ 0 := by
    intro ns
    induction ns with
    | nil => intro i l h; cases h
    | cons y ns ih =>
      intro i l h
      rw [loopL] at h
      by_cases h0 : nodeE y l = 0
      · have hb : bodyNode i y l = .inl (l ++ [y.fName]) := by unfold bodyNode; rw [if_pos h0]
        rw [hb] at h; exact ih _ _ h
      · have hb : bodyNode i y l = .inr (.inr ((i : Int), nodeE y l)) := by unfold bodyNode; rw [if_neg h0]
        rw [hb] at h; cases h; exact h0
  exact key ns 0 [] h
theorem condLoop_err {n : Nat} {cs : List WaterConduit} {r : Int × Int} (h : condLoop n cs = .inr r) : r.2 ≠ 0 := by
  have key : ∀ (cs : List WaterConduit) (i : Nat) (l : List ByteArray), loopL (bodyCond n) (fun _ => (.inl () : Unit ⊕ (Int × Int))) cs i l = .inr r → r.2 ≠ 0 := by
    intro cs
    induction cs with
    | nil => intro i l h; cases h
    | cons y cs ih =>
      intro i l h
      rw [loopL] at h
      by_cases h0 : condE y n l = 0
      · have hb : bodyCond n i y l = .inl (l ++ [y.fName]) := by unfold bodyCond; rw [if_pos h0]
        rw [hb] at h; exact ih _ _ h
      · have hb : bodyCond n i y l = .inr (.inr ((i : Int), condE y n l)) := by unfold bodyCond; rw [if_neg h0]
        rw [hb] at h; cases h; exact h0
  exact key cs 0 [] h
theorem netOk {ns : List WaterNode} {cs : List WaterConduit} (h : (checkNet ns cs).2 = 0) : NetOk ns cs := by
  unfold checkNet at h
  by_cases a : ns.length = 0 ∨ cs.length = 0
  · rw [if_pos a] at h; cases h
  · by_cases b : 10 < ns.length ∨ 14 < cs.length
    · rw [if_neg a, if_pos b] at h; cases h
    · rw [if_neg a, if_neg b] at h
      cases c : netLoop ns with
      | inr r => rw [c] at h; exact absurd h (netLoop_err c)
      | inl u =>
        rw [c] at h
        cases d : condLoop ns.length cs with
        | inr r => rw [d] at h; exact absurd h (condLoop_err d)
        | inl v => exact ⟨by omega, by omega, by omega, by omega, netLoop_ok c, condLoop_ok d⟩
/-! marks -/
theorem geti_b {m : List Bool} {i : Int} (h0 : 0 ≤ i) (h1 : i < m.length) {γ : Type} (f : Nat → Bool → Option γ) : bind2 (geti m i) f = f i.toNat (m.getD i.toNat false) := by
  obtain ⟨k, rfl⟩ : ∃ k : Nat, i = k := ⟨i.toNat, by omega⟩
  have : m[k]? = some (m.getD k false) := by rw [List.getD_eq_getElem?_getD, List.getElem?_eq_getElem (by omega)]; rfl
  rw [geti_at this]; simp
theorem get_b {m : List Bool} {k : Nat} (h1 : k < m.length) {γ : Type} (f : Bool → Option γ) : (m[k]?).bind f = f (m.getD k false) := by
  rw [List.getD_eq_getElem?_getD, List.getElem?_eq_getElem h1]; rfl
def falses (m : List Bool) : Nat := m.count false
theorem falses_le (m : List Bool) : falses m ≤ m.length := List.count_le_length
def fr (c : WaterConduit) : Nat := c.fFrom.toNat
def to (c : WaterConduit) : Nat := c.fTo.toNat
structure EndOk (n : Nat) (c : WaterConduit) : Prop where
  f0 : 0 ≤ c.fFrom
  f1 : c.fFrom < n
  t0 : 0 ≤ c.fTo
  t1 : c.fTo < n
def EndsOk (n : Nat) (cs : List WaterConduit) : Prop := ∀ c ∈ cs, EndOk n c
theorem NetOk.ends {ns : List WaterNode} {cs : List WaterConduit} (h : NetOk ns cs) : EndsOk ns.length cs := fun c hc => by
  have := h.conds c hc; exact ⟨this.f0, this.f1, this.t0, this.t1⟩
def touch (m : List Bool) (c : WaterConduit) : List Bool :=
  if c.fOpen = true then if m.getD (fr c) false = true ∨ m.getD (to c) false = true then (m.set (fr c) true).set (to c) true else m else m
def round (cs : List WaterConduit) (m : List Bool) : List Bool := cs.foldl touch m
/-! as often as one likes -/
/-! the indexes of marks -/
def idxF : Nat → List Bool → List Int
  | _, [] => []
  | i, b :: l => if b = true then (i : Int) :: idxF (i + 1) l else idxF (i + 1) l
theorem idxF_len : ∀ (l : List Bool) (i : Nat), (idxF i l).length ≤ l.length := by
  intro l
  induction l with
  | nil => intro i; exact Nat.le_refl _
  | cons b l ih => intro i; have := ih (i + 1); cases b <;> simp [idxF] <;> omega
theorem idx_loop {β : Type} (f : β → Bool) : ∀ (l : List β) (i : Nat) (a : List Int), loopL (fun (i : Nat) (b : β) (a : List Int) => (.inl (if f b = true then a ++ [(i : Int)] else a) : List Int ⊕ List Int)) (fun a => a) l i a = a ++ idxF i (l.map f) := by
  intro l
  induction l with
  | nil => intro i a; simp [loopL, idxF]
  | cons b l ih =>
    intro i a
    rw [loopL]; simp only [ih]
    by_cases hb : f b = true
    · simp [idxF, hb]
    · simp [idxF, hb]
def lakes (ns : List WaterNode) : List Bool := ns.map fun x => x.fLake
theorem F135_eq (ns : List WaterNode) (cs : List WaterConduit) (hl : ns.length < 100000) : F135_0 ns cs = some (idxF 0 (lakes ns)) := by
  have h := iter_list0 (step := S135l0_0 (ns.length : Int) ns cs) (fun i (a : List Int) => ((i : Int), a)) ns
    (fun i b a => (.inl (if (fun x : WaterNode => x.fLake) b = true then a ++ [(i : Int)] else a) : List Int ⊕ List Int)) (fun a => a) (fun i a => a.length ≤ i)
    (fun a _ => by simp [S135l0_0]) (fun i c a hx hi ha => by
      simp only [S135l0_0, if_neg (show ¬ ((ns.length : Int) ≤ (i : Int)) by omega), geti_at hx]
      rw [aw_ok (n := (i : Int) + 1) (by omega) (by omega), room_le (by omega)]
      by_cases hl : c.fLake = true
      · simp only [if_pos hl]; exact ⟨by simp, fun a' h => by cases h; simp; omega⟩
      · simp only [if_neg hl]; exact ⟨by simp, fun a' h => by cases h; omega⟩) (by omega) [] (by simp)
  rw [idx_loop] at h
  unfold F135_0 L135l0_0
  rw [show (0, ([] : List Int)) = (((0 : Nat) : Int), ([] : List Int)) from rfl, h]; rfl
/-! marks from indexes -/
def marks (l : List Int) (m : List Bool) : List Bool := l.foldl (fun m i => m.set i.toNat true) m
theorem marks_idx : ∀ (b : List Bool) (p : List Bool), marks (idxF p.length b) (p ++ List.replicate b.length false) = p ++ b := by
  intro b
  induction b with
  | nil => intro p; simp [idxF, marks]
  | cons x b ih =>
    intro p
    cases x
    · have := ih (p ++ [false])
      simp only [List.length_append, List.length_singleton, List.append_assoc, List.singleton_append] at this
      simp only [idxF, List.length_cons, List.replicate_succ]
      exact this
    · have := ih (p ++ [true])
      simp only [List.length_append, List.length_singleton, List.append_assoc, List.singleton_append] at this
      simp only [idxF, List.length_cons, List.replicate_succ, if_true]
      show marks (idxF (p.length + 1) b) ((p ++ false :: List.replicate b.length false).set ((p.length : Int)).toNat true) = _
      rw [show ((p.length : Int)).toNat = p.length from by omega, List.set_append_right _ _ (Nat.le_refl _), Nat.sub_self, List.set_cons_zero]
      exact this
theorem idxF_range : ∀ (b : List Bool) (k : Nat), ∀ i ∈ idxF k b, (k : Int) ≤ i ∧ i < k + b.length := by
  intro b
  induction b with
  | nil => intro k i hi; cases hi
  | cons x b ih =>
    intro k i hi
    have := ih (k + 1) i
    cases x
    · have := this (by simpa [idxF] using hi)
      simp only [List.length_cons]; omega
    · simp only [idxF, if_true] at hi
      simp only [List.length_cons]
      cases hi with
      | head => omega
      | tail _ hi => have := this hi; omega
/-! wet conduits -/
/-! a list is like itself -/
/-! what a valve fills -/
end Go.AI
end
section
/-
  THE TREE OF A NET, ITS CLOSING CONDUIT: the program's and the reference's.
-/
set_option linter.unusedVariables false
set_option linter.unusedSimpArgs false
namespace Go.AI
theorem falses_set_eq : ∀ {m : List Bool} {k : Nat}, k < m.length → m.getD k false = false → falses (m.set k true) + 1 = falses m := by
  intro m
  induction m with
  | nil => intro k h; cases h
  | cons b m ih =>
    intro k h hb
    cases k with
    | zero => simp at hb; subst hb; simp [falses]
    | succ k =>
      have := ih (k := k) (by simpa using h) (by simpa using hb)
      unfold falses at this ⊢
      cases b <;> simp <;> omega
def joinB (m : List Bool) (c : WaterConduit) : Bool := c.fOpen && !(m.getD (fr c) false == m.getD (to c) false)
def pickC (m : List Bool) : List WaterConduit → Nat → Option (Nat × WaterConduit)
  | [], _ => none
  | c :: cs, i => if joinB m c = true then some (i, c) else pickC m cs (i + 1)
theorem pickC_some {m : List Bool} : ∀ {cs : List WaterConduit} {i k : Nat} {c : WaterConduit}, pickC m cs i = some (k, c) → i ≤ k ∧ cs[k - i]? = some c ∧ joinB m c = true := by
  intro cs
  induction cs with
  | nil => intro i k c h; cases h
  | cons d cs ih =>
    intro i k c h
    unfold pickC at h
    by_cases hj : joinB m d = true
    · rw [if_pos hj] at h; cases h; simp [hj]
    · rw [if_neg hj] at h
      obtain ⟨h1, h2, h3⟩ := ih h
      refine ⟨by omega, ?_, h3⟩
      rw [show k - i = (k - (i + 1)) + 1 from by omega]
      simpa using h2
def newI (m : List Bool) (c : WaterConduit) : Int := if m.getD (to c) false = true then c.fFrom else c.fTo
def growL (cs : List WaterConduit) : Nat → List Bool → List Branch × List Bool
  | 0, m => ([], m)
  | n + 1, m => match pickC m cs 0 with
    | none => ([], m)
    | some (k, c) => (⟨(k : Int), newI m c⟩ :: (growL cs n (m.set (newI m c).toNat true)).1, (growL cs n (m.set (newI m c).toNat true)).2)
theorem join_new {n : Nat} {m : List Bool} {c : WaterConduit} (hm : m.length = n) (hc : EndOk n c) (h : joinB m c = true) :
    (newI m c).toNat < m.length ∧ m.getD (newI m c).toNat false = false ∧ 0 ≤ newI m c ∧ newI m c < n ∧ c.fOpen = true := by
  have h1 := hc.f0; have h2 := hc.f1; have h3 := hc.t0; have h4 := hc.t1
  unfold joinB at h
  unfold newI
  have e1 : c.fFrom.toNat = fr c := rfl
  have e2 : c.fTo.toNat = to c := rfl
  cases o : c.fOpen
  · rw [o] at h; simp at h
  · rw [o] at h
    cases a : m.getD (fr c) false
    · cases b : m.getD (to c) false
      · rw [a, b] at h; exact absurd h (by decide)
      · rw [if_pos rfl, e1]; exact ⟨by unfold fr; omega, a, h1, h2, rfl⟩
    · cases b : m.getD (to c) false
      · rw [if_neg (by decide), e2]; exact ⟨by unfold to; omega, b, h3, h4, rfl⟩
      · rw [a, b] at h; exact absurd h (by decide)
def Chain (cs : List WaterConduit) : List Bool → List Branch → Prop
  | _, [] => True
  | m, b :: bs => (∃ (k : Nat) (c : WaterConduit), b = ⟨(k : Int), newI m c⟩ ∧ cs[k]? = some c ∧ joinB m c = true) ∧ Chain cs (m.set b.fnode.toNat true) bs
theorem grow_chain (cs : List WaterConduit) : ∀ (n : Nat) (m : List Bool), Chain cs m (growL cs n m).1 := by
  intro n
  induction n with
  | zero => intro m; exact trivial
  | succ n ih =>
    intro m
    unfold growL
    cases h : pickC m cs 0 with
    | none => exact trivial
    | some p =>
      obtain ⟨k, c⟩ := p
      obtain ⟨_, h2, h3⟩ := pickC_some h
      exact ⟨⟨k, c, rfl, by simpa using h2, h3⟩, ih _⟩
theorem grow_len {n : Nat} {cs : List WaterConduit} (hE : EndsOk n cs) : ∀ (f : Nat) (m : List Bool), m.length = n → (growL cs f m).2.length = n ∧ (growL cs f m).1.length + falses (growL cs f m).2 = falses m := by
  intro f
  induction f with
  | zero => intro m hm; simp [growL, hm]
  | succ f ih =>
    intro m hm
    unfold growL
    cases h : pickC m cs 0 with
    | none => simp [hm]
    | some p =>
      obtain ⟨k, c⟩ := p
      obtain ⟨_, h2, h3⟩ := pickC_some h
      have hc := hE c (List.mem_of_getElem? h2)
      obtain ⟨j1, j2, _, _, _⟩ := join_new hm hc h3
      have := falses_set_eq j1 j2
      obtain ⟨i1, i2⟩ := ih (m.set (newI m c).toNat true) (by rw [List.length_set, hm])
      simp only [List.length_cons]
      exact ⟨i1, by omega⟩
theorem grow_done {n : Nat} {cs : List WaterConduit} (hE : EndsOk n cs) : ∀ (f : Nat) (m : List Bool), m.length = n → falses m ≤ f → pickC (growL cs f m).2 cs 0 = none := by
  intro f
  induction f with
  | zero =>
    intro m hm h0
    cases h : pickC (growL cs 0 m).2 cs 0 with
    | none => rfl
    | some p =>
      obtain ⟨k, c⟩ := p
      obtain ⟨_, h2, h3⟩ := pickC_some h
      have hc := hE c (List.mem_of_getElem? h2)
      obtain ⟨j1, j2, _, _, _⟩ := join_new (m := m) hm hc h3
      have := falses_set_eq j1 j2
      omega
  | succ f ih =>
    intro m hm h0
    unfold growL
    cases h : pickC m cs 0 with
    | none => exact h
    | some p =>
      obtain ⟨k, c⟩ := p
      obtain ⟨_, h2, h3⟩ := pickC_some h
      have hc := hE c (List.mem_of_getElem? h2)
      obtain ⟨j1, j2, _, _, _⟩ := join_new hm hc h3
      have := falses_set_eq j1 j2
      exact ih _ (by rw [List.length_set, hm]) (by omega)
/-! ### the program's -/
def pickI (m : List Bool) (cs : List WaterConduit) : Int := match pickC m cs 0 with
  | none => -1
  | some (k, _) => (k : Int)
theorem F159_eq {n : Nat} {m : List Bool} {c : WaterConduit} (hm : m.length = n) (hc : EndOk n c) : F159_0 c.fName c.fFrom c.fTo c.fResist c.fValve c.fOpen m = some (joinB m c) := by
  have h1 := hc.f0; have h2 := hc.f1; have h3 := hc.t0; have h4 := hc.t1
  unfold F159_0 joinB
  rw [geti_b h1 (by omega), geti_b h3 (by omega)]
  cases c.fOpen
  · rfl
  · rfl
theorem pickC_loop (m : List Bool) : ∀ (cs : List WaterConduit) (i : Nat), loopL (fun (i : Nat) (c : WaterConduit) (_ : Unit) => if joinB m c = true then (.inr (.inr (i : Int)) : Unit ⊕ (Unit ⊕ Int)) else .inl ()) (fun _ => .inl ()) cs i () =
    match pickC m cs i with | none => .inl () | some (k, _) => .inr (k : Int) := by
  intro cs
  induction cs with
  | nil => intro i; rfl
  | cons c cs ih =>
    intro i
    rw [loopL]
    unfold pickC
    by_cases h : joinB m c = true
    · simp [h]
    · simp only [if_neg h]; exact ih _
theorem F158_eq {n : Nat} {cs : List WaterConduit} {m : List Bool} (hE : EndsOk n cs) (hcs : cs.length < 100000) (hm : m.length = n) : F158_0 cs m = some (pickI m cs) := by
  have h := iter_list0 (step := S158l0_0 (cs.length : Int) cs m) (fun i (_ : Unit) => (i : Int)) cs
    (fun (i : Nat) (c : WaterConduit) (_ : Unit) => if joinB m c = true then (.inr (.inr (i : Int)) : Unit ⊕ (Unit ⊕ Int)) else .inl ()) (fun _ => .inl ()) (fun _ _ => True)
    (fun a _ => by simp [S158l0_0]) (fun i c a hx hi _ => by
      refine ⟨?_, fun _ _ => trivial⟩
      simp only [S158l0_0, if_neg (show ¬ ((cs.length : Int) ≤ (i : Int)) by omega), geti_at hx, F159_eq hm (hE c (List.mem_of_getElem? hx)), Option.bind_some]
      rw [aw_ok (n := (i : Int) + 1) (by omega) (by omega)]
      by_cases h : joinB m c = true <;> simp [h]) (by omega) () trivial
  rw [pickC_loop] at h
  unfold F158_0 L158l0_0 pickI
  rw [show (0 : Int) = ((0 : Nat) : Int) from rfl, h]
  cases pickC m cs 0 with
  | none => rfl
  | some p => rfl
theorem F160_eq (m : List Bool) (hm : m.length < 100000) : F160_0 false m = some (decide (falses m ≠ 0)) := by
  have h := iter_list0 (step := S162l0_0 false (m.length : Int) m) (fun i (_ : Unit) => (i : Int)) m
    (fun (i : Nat) (c : Bool) (_ : Unit) => if c = false then (.inr (.inr (i : Int)) : Unit ⊕ (Unit ⊕ Int)) else .inl ()) (fun _ => .inl ()) (fun _ _ => True)
    (fun a _ => by simp [S162l0_0]) (fun i c a hx hi _ => by
      refine ⟨?_, fun _ _ => trivial⟩
      simp only [S162l0_0, if_neg (show ¬ ((m.length : Int) ≤ (i : Int)) by omega), geti_at hx]
      rw [aw_ok (n := (i : Int) + 1) (by omega) (by omega)]
      cases c <;> simp) (by omega) () trivial
  have key : ∀ (m : List Bool) (i : Nat), (falses m = 0 ∧ loopL (fun (i : Nat) (c : Bool) (_ : Unit) => if c = false then (.inr (.inr (i : Int)) : Unit ⊕ (Unit ⊕ Int)) else .inl ()) (fun _ => .inl ()) m i () = .inl ()) ∨
      (falses m ≠ 0 ∧ ∃ k : Nat, loopL (fun (i : Nat) (c : Bool) (_ : Unit) => if c = false then (.inr (.inr (i : Int)) : Unit ⊕ (Unit ⊕ Int)) else .inl ()) (fun _ => .inl ()) m i () = .inr (k : Int)) := by
    intro m
    induction m with
    | nil => intro i; left; exact ⟨rfl, rfl⟩
    | cons b m ih =>
      intro i
      rw [loopL]
      cases b
      · right; exact ⟨by simp [falses], i, by simp⟩
      · have : falses (true :: m) = falses m := by simp [falses]
        rw [this]; simp only [Bool.true_eq_false, if_false]; exact ih _
  unfold F160_0 F162_0 L162l0_0
  rw [show (0 : Int) = ((0 : Nat) : Int) from rfl, h]
  rcases key m 0 with ⟨h1, h2⟩ | ⟨h1, k, h2⟩
  · rw [h2]; simp [h1]
  · rw [h2]; simp [h1]
theorem L151l1_eq {ns : List WaterNode} {cs : List WaterConduit} (hE : EndsOk ns.length cs) (hcs : cs.length < 100000) (hns : ns.length < 100000) (x : List WaterNode) (y : List WaterConduit) (z : List Branch) :
    ∀ (f : Nat) (m : List Bool) (a : List Branch), m.length = ns.length → falses m ≤ f → a.length + falses m < 1000000 →
      iter (S151l1_0 ns cs x y z) (f + 1) (a, m) = some (if falses (growL cs f m).2 = 0 then 0 else 14, a ++ (growL cs f m).1) := by
  have hout : ∀ (m : List Bool) (a : List Branch), m.length = ns.length → pickC m cs 0 = none → S151l1_0 ns cs x y z (a, m) = some (.inr (if falses m = 0 then 0 else 14, a)) := by
    intro m a hm h
    have hp : pickI m cs = -1 := by unfold pickI; rw [h]
    simp only [S151l1_0, F158_eq hE hcs hm, hp, Option.bind_some, if_neg (show ¬ (0 : Int) ≤ -1 by decide), F160_eq m (by omega), F72_eq]
    by_cases h0 : falses m = 0 <;> simp [h0]
  intro f
  induction f with
  | zero =>
    intro m a hm h0 ha
    have hd := grow_done hE 0 m hm h0
    have := hout m a hm hd
    have e : growL cs 0 m = ([], m) := rfl
    rw [e]
    simp only [List.append_nil]
    exact iter_out this 0
  | succ f ih =>
    intro m a hm h0 ha
    cases h : pickC m cs 0 with
    | none =>
      have e : growL cs (f + 1) m = ([], m) := by unfold growL; rw [h]
      rw [e]
      simp only [List.append_nil]
      exact iter_out (hout m a hm h) _
    | some p =>
      obtain ⟨k, c⟩ := p
      obtain ⟨_, h2, h3⟩ := pickC_some h
      have hx : cs[k]? = some c := by simpa using h2
      have hc := hE c (List.mem_of_getElem? hx)
      obtain ⟨j1, j2, j3, j4, j5⟩ := join_new hm hc h3
      have j6 := falses_set_eq j1 j2
      have hp : pickI m cs = (k : Int) := by unfold pickI; rw [h]
      have hs : S151l1_0 ns cs x y z (a, m) = some (.inl (a ++ [⟨(k : Int), newI m c⟩], m.set (newI m c).toNat true)) := by
        have h1 := hc.f0; have h2 := hc.f1; have h3 := hc.t0; have h4 := hc.t1
        simp only [S151l1_0, F158_eq hE hcs hm, hp, Option.bind_some, if_pos (show (0 : Int) ≤ (k : Int) by omega), geti_at hx]
        rw [geti_b h3 (by omega), geti_b h1 (by omega), show c.fTo.toNat = to c from rfl, show c.fFrom.toNat = fr c from rfl, room_le (by omega), room_le (by omega)]
        unfold newI
        by_cases q : m.getD (to c) false = true
        · rw [if_pos q, if_pos q]; rfl
        · rw [if_neg q, if_neg q]; rfl
      have e : growL cs (f + 1) m = (⟨(k : Int), newI m c⟩ :: (growL cs f (m.set (newI m c).toNat true)).1, (growL cs f (m.set (newI m c).toNat true)).2) := by
        show (match pickC m cs 0 with | none => _ | some (k, c) => _) = _
        rw [h]
      rw [e]
      have := ih (m.set (newI m c).toNat true) (a ++ [⟨(k : Int), newI m c⟩]) (by rw [List.length_set, hm]) (by omega) (by simp; omega)
      simp only [List.append_assoc, List.singleton_append] at this
      exact iter_in hs this
theorem L151l0_eq (ns : List WaterNode) (cs : List WaterConduit) (x : List WaterNode) (y : List WaterConduit) (z w : List Branch) (l : List Int) (m : List Bool) (hl : l.length < 100000) (h : ∀ i ∈ l, 0 ≤ i ∧ i < m.length) :
    L151l0_0 (l.length : Int) ns cs x y z w l (0, m) = some (marks l m) := by
  have h1 := iter_list0 (step := S151l0_0 (l.length : Int) ns cs x y z w l) (fun i (a : List Bool) => ((i : Int), a)) l
    (fun _ i a => (.inl (a.set i.toNat true) : List Bool ⊕ List Bool)) (fun a => a) (fun _ a => a.length = m.length)
    (fun a _ => by simp [S151l0_0]) (fun i c a hx hi ha => by
      obtain ⟨h1, h2⟩ := h c (List.mem_of_getElem? hx)
      simp only [S151l0_0, if_neg (show ¬ ((l.length : Int) ≤ (i : Int)) by omega), geti_at hx]
      rw [aw_ok (n := (i : Int) + 1) (by omega) (by omega), geti_b h1 (by omega)]
      exact ⟨by simp, fun a' h => by cases h; simp [ha]⟩) (by omega) m rfl
  have key : ∀ (l : List Int) (i : Nat) (a : List Bool), loopL (fun (_ : Nat) (i : Int) (a : List Bool) => (.inl (a.set i.toNat true) : List Bool ⊕ List Bool)) (fun a => a) l i a = marks l a := by
    intro l
    induction l with
    | nil => intro i a; rfl
    | cons c l ih => intro i a; rw [loopL]; exact ih _ _
  rw [key] at h1
  exact h1
def grown (ns : List WaterNode) (cs : List WaterConduit) : List Branch × List Bool := growL cs ns.length (lakes ns)
def gapE (ns : List WaterNode) (cs : List WaterConduit) : Int := if falses (grown ns cs).2 = 0 then 0 else 14
theorem lakes_len (ns : List WaterNode) : (lakes ns).length = ns.length := by simp [lakes]
theorem F151_eq {ns : List WaterNode} {cs : List WaterConduit} (hE : EndsOk ns.length cs) (hcs : cs.length < 100000) (hns : ns.length < 100000) : F151_0 ns cs = some (gapE ns cs, (grown ns cs).1) := by
  have hlen := lakes_len ns
  have hmk : marks (idxF 0 (lakes ns)) (List.replicate ns.length false) = lakes ns := by
    have := marks_idx (lakes ns) []
    simpa [hlen] using this
  have hf := falses_le (lakes ns)
  unfold F151_0
  rw [inx_nat (show ns.length < 140737488355329 by omega)]
  simp only [Option.bind_some]
  rw [room_le (by omega), F135_eq ns cs hns, Option.bind_some, L151l0_eq _ _ _ _ _ _ _ _ (by have := idxF_len (lakes ns) 0; omega) (fun i hi => by have := idxF_range (lakes ns) 0 i hi; simp; omega), hmk, Option.bind_some]
  have := L151l1_eq hE hcs hns [] [] [] ns.length (lakes ns) [] hlen (by omega) (by simp; omega)
  unfold L151l1_0
  rw [iter_mono this (by omega)]
  rfl
/-! ### the closing conduit -/
def hasK (bs : List Branch) (i : Int) : Bool := bs.any fun b => decide (b.fconduit = i)
theorem F152_eq (bs : List Branch) (i : Int) (hb : bs.length < 100000) : F152_0 bs i = some (hasK bs i) := by
  have h := iter_list0 (step := S161l0_0 (bs.length : Int) bs i) (fun i (_ : Unit) => (i : Int)) bs
    (fun (j : Nat) (b : Branch) (_ : Unit) => if b.fconduit = i then (.inr (.inr (j : Int)) : Unit ⊕ (Unit ⊕ Int)) else .inl ()) (fun _ => .inl ()) (fun _ _ => True)
    (fun a _ => by simp [S161l0_0]) (fun j c a hx hi _ => by
      refine ⟨?_, fun _ _ => trivial⟩
      simp only [S161l0_0, F153_0, if_neg (show ¬ ((bs.length : Int) ≤ (j : Int)) by omega), geti_at hx, Option.bind_some]
      rw [aw_ok (n := (j : Int) + 1) (by omega) (by omega)]
      by_cases h : c.fconduit = i <;> simp [h]) (by omega) () trivial
  have key : ∀ (bs : List Branch) (j : Nat), (hasK bs i = false ∧ loopL (fun (j : Nat) (b : Branch) (_ : Unit) => if b.fconduit = i then (.inr (.inr (j : Int)) : Unit ⊕ (Unit ⊕ Int)) else .inl ()) (fun _ => .inl ()) bs j () = .inl ()) ∨
      (hasK bs i = true ∧ ∃ k : Nat, loopL (fun (j : Nat) (b : Branch) (_ : Unit) => if b.fconduit = i then (.inr (.inr (j : Int)) : Unit ⊕ (Unit ⊕ Int)) else .inl ()) (fun _ => .inl ()) bs j () = .inr (k : Int)) := by
    intro bs
    induction bs with
    | nil => intro j; left; exact ⟨rfl, rfl⟩
    | cons b bs ih =>
      intro j
      rw [loopL]
      by_cases hb : b.fconduit = i
      · right; exact ⟨by simp [hasK, hb], j, by simp [hb]⟩
      · have : hasK (b :: bs) i = hasK bs i := by simp [hasK, hb]
        rw [this]; simp only [hb, if_false]; exact ih _
  unfold F152_0 F161_0 L161l0_0
  rw [show (0 : Int) = ((0 : Nat) : Int) from rfl, h]
  rcases key bs 0 with ⟨h1, h2⟩ | ⟨h1, k, h2⟩
  · rw [h2]; simp [h1]
  · rw [h2]; simp [h1]
theorem F68_eq (i : Int) (l : List Int) (hl : l.length < 100000) : F68_0 i l = some (l.any fun x => decide (x = i)) := by
  have h := iter_list0 (step := S68l0_0 i l) (fun j (_ : Unit) => (j : Int)) l
    (fun (_ : Nat) (x : Int) (_ : Unit) => if x = i then (.inr (.inr ()) : Unit ⊕ (Unit ⊕ Unit)) else .inl ()) (fun _ => .inl ()) (fun _ _ => True)
    (fun a _ => by simp [S68l0_0]) (fun j c a hx hi _ => by
      refine ⟨?_, fun _ _ => trivial⟩
      simp only [S68l0_0, if_neg (show ¬ ((l.length : Int) ≤ (j : Int)) by omega), geti_at hx]
      rw [aw_ok (n := (j : Int) + 1) (by omega) (by omega)]
      by_cases h : c = i <;> simp [h]) (by omega) () trivial
  have key : ∀ (l : List Int) (j : Nat), loopL (fun (_ : Nat) (x : Int) (_ : Unit) => if x = i then (.inr (.inr ()) : Unit ⊕ (Unit ⊕ Unit)) else .inl ()) (fun _ => .inl ()) l j () = if (l.any fun x => decide (x = i)) = true then .inr () else .inl () := by
    intro l
    induction l with
    | nil => intro j; rfl
    | cons b l ih =>
      intro j
      rw [loopL]
      by_cases hb : b = i
      · simp [hb]
      · simp only [hb, if_false]; rw [ih]; simp [hb]
  rw [key] at h
  unfold F68_0 L68l0_0
  rw [show (0 : Int) = ((0 : Nat) : Int) from rfl, h]
  cases l.any fun x => decide (x = i) <;> rfl
def bodyCl (bs : List Branch) (i : Nat) (c : WaterConduit) (a : Int) : Int ⊕ (Int ⊕ Int) :=
  if c.fOpen = true then if hasK bs i = true then .inl a else if 0 ≤ a then .inr (.inr a) else .inl (i : Int) else .inl a
def closeL (bs : List Branch) (cs : List WaterConduit) : Int ⊕ Int := loopL (bodyCl bs) (fun a => .inl a) cs 0 (-1)
theorem L138l0_eq (ns : List WaterNode) (cs : List WaterConduit) (x : List WaterNode) (y : List WaterConduit) (z bs : List Branch) (hcs : cs.length < 100000) (hb : bs.length < 100000) :
    L138l0_0 (cs.length : Int) ns cs x y z bs (0, -1) = some (match closeL bs cs with | .inl a => .inl a | .inr a => .inr (a, a)) := by
  have h := iter_list0 (step := S138l0_0 (cs.length : Int) ns cs x y z bs) (fun i (a : Int) => ((i : Int), a)) cs
    (fun i c a => match bodyCl bs i c a with | .inl a => .inl a | .inr (.inl a) => .inr (.inl a) | .inr (.inr a) => .inr (.inr (a, a))) (fun a => .inl a) (fun _ _ => True)
    (fun a _ => by simp [S138l0_0]) (fun j c a hx hi _ => by
      refine ⟨?_, fun _ _ => trivial⟩
      simp only [S138l0_0, if_neg (show ¬ ((cs.length : Int) ≤ (j : Int)) by omega), geti_at hx, F152_eq bs _ hb, Option.bind_some]
      rw [aw_ok (n := (j : Int) + 1) (by omega) (by omega)]
      unfold bodyCl
      cases c.fOpen
      · simp
      · cases hasK bs j
        · by_cases h : 0 ≤ a <;> simp [h]
        · simp) (by omega) (-1) trivial
  have key : ∀ (cs : List WaterConduit) (i : Nat) (a : Int), loopL (fun i c a => match bodyCl bs i c a with | .inl a => (.inl a : Int ⊕ (Int ⊕ (Int × Int))) | .inr (.inl a) => .inr (.inl a) | .inr (.inr a) => .inr (.inr (a, a))) (fun a => .inl a) cs i a =
      match loopL (bodyCl bs) (fun a => .inl a) cs i a with | .inl a => .inl a | .inr a => .inr (a, a) := by
    intro cs
    induction cs with
    | nil => intro i a; rfl
    | cons c cs ih =>
      intro i a
      rw [loopL, loopL]
      cases bodyCl bs i c a with
      | inl a => exact ih _ _
      | inr o => cases o <;> rfl
  rw [key] at h
  exact h
theorem L97l0_eq (ns : List WaterNode) (cs : List WaterConduit) (bs : List Branch) (hcs : cs.length < 100000) (hb : bs.length < 100000) :
    L97l0_0 ns cs (bs.map fun b => b.fconduit) (-1, 0) = some (closeL bs cs) :=
  iter_list0 (step := S97l0_0 ns cs (bs.map fun b => b.fconduit)) (fun i (a : Int) => (a, (i : Int))) cs (bodyCl bs) (fun a => .inl a) (fun _ _ => True)
    (fun a _ => by simp [S97l0_0]) (fun j c a hx hi _ => by
      refine ⟨?_, fun _ _ => trivial⟩
      have he : ((bs.map fun b => b.fconduit).any fun x => decide (x = (j : Int))) = hasK bs j := by simp [hasK, List.any_map]; rfl
      simp only [S97l0_0, if_neg (show ¬ ((cs.length : Int) ≤ (j : Int)) by omega), geti_at hx, F68_eq _ (bs.map fun b => b.fconduit) (by simpa using hb), Option.bind_some, he]
      rw [aw_ok (n := (j : Int) + 1) (by omega) (by omega)]
      unfold bodyCl
      cases c.fOpen
      · simp
      · cases hasK bs j
        · by_cases h : 0 ≤ a <;> simp [h]
        · simp) (by omega) (-1) trivial
/-! ### the reference's -/
theorem L137l0_eq (ns : List WaterNode) (cs : List WaterConduit) (hns : ns.length < 100000) : L137l0_0 ns cs (0, 0, List.replicate ns.length false) = some ((falses (lakes ns) : Int), lakes ns) := by
  have h := iter_list0 (step := S137l0_0 ns cs) (fun i (a : Int × List Bool) => (a.1, (i : Int), a.2)) ns
    (fun i x a => (.inl (if x.fLake = true then a.1 else a.1 + 1, a.2.set i x.fLake) : (Int × List Bool) ⊕ (Int × List Bool))) (fun a => (a.1, a.2)) (fun i a => a.2.length = ns.length ∧ 0 ≤ a.1 ∧ a.1 ≤ i)
    (fun a _ => by simp [S137l0_0]) (fun i c a hx hi ha => by
      obtain ⟨a1, a2⟩ := a
      obtain ⟨ha1, ha2, ha3⟩ := ha
      simp only at ha1 ha2 ha3
      refine ⟨?_, fun a' h => ?_⟩
      · simp only [S137l0_0, if_neg (show ¬ ((ns.length : Int) ≤ (i : Int)) by omega), geti_at hx]
        rw [aw_ok (n := (i : Int) + 1) (by omega) (by omega), geti_b (m := a2) (i := (i : Int)) (by omega) (by omega), get_b (by simp; omega), aw_ok (n := a1 + 1) (by omega) (by omega)]
        rw [show ((i : Int)).toNat = i from by omega, List.getD_eq_getElem?_getD, List.getElem?_set_self (by omega)]
        by_cases h : c.fLake = true
        · simp [h]
        · simp [h]
      · cases h
        simp only [List.length_set]
        refine ⟨ha1, ?_, ?_⟩
        · split <;> omega
        · split <;> omega) (by omega) (0, List.replicate ns.length false) (by simp)
  have key : ∀ (l : List WaterNode) (p r : List Bool) (n : Int), r.length = l.length → loopL (fun (i : Nat) (x : WaterNode) (a : Int × List Bool) => (.inl (if x.fLake = true then a.1 else a.1 + 1, a.2.set i x.fLake) : (Int × List Bool) ⊕ (Int × List Bool))) (fun a => (a.1, a.2)) l p.length (n, p ++ r) =
      (n + (falses (lakes l) : Int), p ++ lakes l) := by
    intro l
    induction l with
    | nil => intro p r n h; cases r with
      | nil => simp [loopL, falses, lakes]
      | cons _ _ => cases h
    | cons x l ih =>
      intro p r n h
      cases r with
      | nil => cases h
      | cons y r =>
        rw [loopL]
        simp only
        rw [List.set_append_right _ _ (Nat.le_refl _), Nat.sub_self, List.set_cons_zero]
        have := ih (p ++ [x.fLake]) r (if x.fLake = true then n else n + 1) (by simpa using h)
        simp only [List.length_append, List.length_singleton, List.append_assoc, List.singleton_append] at this
        rw [this]
        refine Prod.ext ?_ ?_
        · simp only [lakes, falses, List.map_cons]
          by_cases q : x.fLake = true
          · simp [q]
          · have q' : x.fLake = false := by simpa using q
            simp [q']; omega
        · simp [lakes]
  have := key ns [] (List.replicate ns.length false) 0 (by simp)
  simp only [List.length_nil, List.nil_append, Int.zero_add] at this
  rw [this] at h
  exact h
def passR (m : List Bool) (cs : List WaterConduit) (i : Nat) (ks vs : List Int) : Bool × List Bool × List Int × List Int := match pickC m cs i with
  | none => (false, m, ks, vs)
  | some (k, c) => (true, m.set (newI m c).toNat true, ks ++ [(k : Int)], vs ++ [newI m c])
theorem L137l1_eq {ns : List WaterNode} {cs : List WaterConduit} (hE : EndsOk ns.length cs) (hcs : cs.length < 100000) (hns : ns.length < 100000) (w : Int) (m : List Bool) (hm : m.length = ns.length) (ks vs : List Int) (hk : ks.length < 1000000) (hv : vs.length < 1000000) :
    L137l1_0 w ns cs (false, 0, m, ks, vs) = some (passR m cs 0 ks vs) := by
  have hdone : ∀ (i : Nat) (m : List Bool) (ks vs : List Int), S137l1_0 w ns cs (true, (i : Int), m, ks, vs) = some (.inr (true, m, ks, vs)) := by
    intro i m ks vs
    simp only [S137l1_0]
    by_cases h : (cs.length : Int) ≤ (i : Int)
    · rw [if_pos h]
    · rw [if_neg h]; simp only [if_true]
  have key : ∀ (k i : Nat), i + k = cs.length → iter (S137l1_0 w ns cs) (k + 2) (false, (i : Int), m, ks, vs) = some (passR m (cs.drop i) i ks vs) := by
    intro k
    induction k with
    | zero =>
      intro i hi
      have : i = cs.length := by omega
      subst this
      rw [List.drop_length]
      exact iter_out (by simp [S137l1_0, passR, pickC]) _
    | succ k ih =>
      intro i hi
      have hlt : i < cs.length := by omega
      have hx : cs[i]? = some cs[i] := List.getElem?_eq_getElem hlt
      rw [List.drop_eq_getElem_cons hlt]
      generalize cs[i] = c at hx
      have hc := hE c (List.mem_of_getElem? hx)
      have h1 := hc.f0; have h2 := hc.f1; have h3 := hc.t0; have h4 := hc.t1
      have hs : S137l1_0 w ns cs (false, (i : Int), m, ks, vs) = some (.inl (if joinB m c = true then (true, ((i + 1 : Nat) : Int), m.set (newI m c).toNat true, ks ++ [(i : Int)], vs ++ [newI m c]) else (false, ((i + 1 : Nat) : Int), m, ks, vs))) := by
        simp only [S137l1_0, if_neg (show ¬ ((cs.length : Int) ≤ (i : Int)) by omega), geti_at hx]
        rw [aw_ok (n := (i : Int) + 1) (by omega) (by omega), geti_b (m := m) h1 (by omega), geti_b (m := m) h3 (by omega), show c.fFrom.toNat = fr c from rfl, show c.fTo.toNat = to c from rfl]
        simp only [room_le (show (ks.length + 1) * 8 ≤ 140737488355328 by omega), room_le (show (vs.length + 1) * 8 ≤ 140737488355328 by omega)]
        unfold joinB newI
        cases c.fOpen
        · simp
        · cases a : m.getD (fr c) false <;> cases b : m.getD (to c) false <;> simp [fr, to]
      unfold passR
      unfold pickC
      by_cases hj : joinB m c = true
      · rw [if_pos hj] at hs ⊢
        exact iter_in hs (iter_out (hdone _ _ _ _) _)
      · rw [if_neg hj] at hs ⊢
        exact iter_in hs (ih (i + 1) (by omega))
  have := key cs.length 0 (by omega)
  rw [List.drop_zero] at this
  exact iter_mono this (by omega)
theorem L137l2_eq {ns : List WaterNode} {cs : List WaterConduit} (hE : EndsOk ns.length cs) (hcs : cs.length < 100000) (hns : ns.length < 100000) (w : Int) :
    ∀ (f : Nat) (m : List Bool) (ks vs : List Int), m.length = ns.length → falses m ≤ f → ks.length + falses m < 1000000 → vs.length + falses m < 1000000 →
      iter (S137l2_0 w ns cs) (f + 2) (true, m, ks, vs) = some (ks ++ (growL cs f m).1.map (fun b => b.fconduit), vs ++ (growL cs f m).1.map (fun b => b.fnode)) := by
  have hout : ∀ (n : Nat) (m : List Bool) (ks vs : List Int), m.length = ns.length → ks.length < 1000000 → vs.length < 1000000 → pickC m cs 0 = none → iter (S137l2_0 w ns cs) (n + 2) (true, m, ks, vs) = some (ks, vs) := by
    intro n m ks vs hm hk hv h
    have hp : passR m cs 0 ks vs = (false, m, ks, vs) := by unfold passR; rw [h]
    have hs : S137l2_0 w ns cs (true, m, ks, vs) = some (.inl (false, m, ks, vs)) := by
      simp only [S137l2_0, if_true, L137l1_eq hE hcs hns w m hm ks vs hk hv, hp]; rfl
    exact iter_in hs (iter_out (by simp [S137l2_0]) _)
  intro f
  induction f with
  | zero =>
    intro m ks vs hm h0 hk hv
    have hd := grow_done hE 0 m hm h0
    have e : growL cs 0 m = ([], m) := rfl
    rw [e]
    simp only [List.map_nil, List.append_nil]
    exact hout 0 m ks vs hm (by omega) (by omega) hd
  | succ f ih =>
    intro m ks vs hm h0 hk hv
    cases h : pickC m cs 0 with
    | none =>
      have e : growL cs (f + 1) m = ([], m) := by unfold growL; rw [h]
      rw [e]
      simp only [List.map_nil, List.append_nil]
      exact hout _ m ks vs hm (by omega) (by omega) h
    | some p =>
      obtain ⟨k, c⟩ := p
      obtain ⟨_, h2, h3⟩ := pickC_some h
      have hx : cs[k]? = some c := by simpa using h2
      have hc := hE c (List.mem_of_getElem? hx)
      obtain ⟨j1, j2, j3, j4, j5⟩ := join_new hm hc h3
      have j6 := falses_set_eq j1 j2
      have hp : passR m cs 0 ks vs = (true, m.set (newI m c).toNat true, ks ++ [(k : Int)], vs ++ [newI m c]) := by unfold passR; rw [h]
      have hs : S137l2_0 w ns cs (true, m, ks, vs) = some (.inl (true, m.set (newI m c).toNat true, ks ++ [(k : Int)], vs ++ [newI m c])) := by
        simp only [S137l2_0, if_true, L137l1_eq hE hcs hns w m hm ks vs (by omega) (by omega), hp]; rfl
      have e : growL cs (f + 1) m = (⟨(k : Int), newI m c⟩ :: (growL cs f (m.set (newI m c).toNat true)).1, (growL cs f (m.set (newI m c).toNat true)).2) := by
        show (match pickC m cs 0 with | none => _ | some (k, c) => _) = _
        rw [h]
      rw [e]
      have := ih (m.set (newI m c).toNat true) (ks ++ [(k : Int)]) (vs ++ [newI m c]) (by rw [List.length_set, hm]) (by omega) (by simp; omega) (by simp; omega)
      simp only [List.append_assoc, List.singleton_append] at this
      simp only [List.map_cons]
      exact iter_in hs this
theorem F137_eq {ns : List WaterNode} {cs : List WaterConduit} (hE : EndsOk ns.length cs) (hcs : cs.length < 100000) (hns : ns.length < 100000) :
    F137_0 ns cs = some (decide (falses (grown ns cs).2 = 0), (grown ns cs).1.map (fun b => b.fconduit), (grown ns cs).1.map (fun b => b.fnode)) := by
  have hlen := lakes_len ns
  have hf := falses_le (lakes ns)
  have h2 := L137l2_eq hE hcs hns (falses (lakes ns) : Int) ns.length (lakes ns) [] [] hlen (by omega) (by simp; omega) (by simp; omega)
  obtain ⟨_, hg⟩ := grow_len hE ns.length (lakes ns) hlen
  unfold F137_0
  rw [inx_nat (show ns.length < 140737488355329 by omega)]
  simp only [Option.bind_some]
  rw [room_le (by omega), L137l0_eq ns cs hns]
  simp only [bind2_some]
  unfold L137l2_0
  rw [iter_mono h2 (by omega)]
  simp only [bind2_some, List.nil_append, List.length_map]
  have hd : decide (((growL cs ns.length (lakes ns)).1.length : Int) = (falses (lakes ns) : Int)) = decide (falses (growL cs ns.length (lakes ns)).2 = 0) := by
    by_cases h : falses (growL cs ns.length (lakes ns)).2 = 0
    · simp [h]; omega
    · simp [h]; omega
  rw [hd]
  rfl
def formE (ns : List WaterNode) (cs : List WaterConduit) : Int := if falses (grown ns cs).2 = 0 then (match closeL (grown ns cs).1 cs with | .inl _ => 0 | .inr _ => 8) else 14
theorem grown_len {ns : List WaterNode} {cs : List WaterConduit} (hE : EndsOk ns.length cs) : (grown ns cs).1.length ≤ ns.length := by
  have := (grow_len hE ns.length (lakes ns) (lakes_len ns)).2
  have := falses_le (lakes ns)
  rw [lakes_len] at this
  unfold grown; omega
theorem F97_eq {ns : List WaterNode} {cs : List WaterConduit} (hE : EndsOk ns.length cs) (hcs : cs.length < 100000) (hns : ns.length < 100000) :
    F97_0 ns cs = some (if formE ns cs = 0 then (match closeL (grown ns cs).1 cs with | .inl a => a | .inr _ => -1) else -1, formE ns cs) := by
  have hl := grown_len hE
  unfold F97_0 formE
  rw [F137_eq hE hcs hns]
  simp only [bind3_some, L97l0_eq ns cs _ hcs (show (grown ns cs).1.length < 100000 by omega), Option.bind_some]
  by_cases h : falses (grown ns cs).2 = 0
  · simp only [h, decide_true, if_true]
    cases closeL (grown ns cs).1 cs <;> simp
  · simp [h]
theorem F138_eq {ns : List WaterNode} {cs : List WaterConduit} (hE : EndsOk ns.length cs) (hcs : cs.length < 100000) (hns : ns.length < 100000) :
    ∃ a, F138_0 ns cs = some (a, formE ns cs, (grown ns cs).1) ∧ (formE ns cs = 0 → closeL (grown ns cs).1 cs = .inl a) := by
  have hl := grown_len hE
  unfold F138_0 formE
  rw [F151_eq hE hcs hns]
  simp only [bind2_some, gapE]
  by_cases h : falses (grown ns cs).2 = 0
  · simp only [h, if_true, L138l0_eq ns cs _ _ _ _ hcs (show (grown ns cs).1.length < 100000 by omega), Option.bind_some]
    cases hc : closeL (grown ns cs).1 cs with
    | inl a => exact ⟨a, rfl, fun _ => rfl⟩
    | inr a => exact ⟨a, rfl, fun h => by cases h⟩
  · refine ⟨-1, by simp [h], fun h' => ?_⟩
    simp [h] at h'
end Go.AI
end
section
/-
  FLOWS IN A TREE: what is carried on to the node before; heads; the gap; no program in sight.
-/
set_option linter.unusedVariables false
set_option linter.unusedSimpArgs false
namespace Go.AI
abbrev V := Nat → Int
structure BR where
  k : Nat
  v : Nat
  u : Nat
  r : Int
  s : Int
def mv (b : BR) (D : V) : V := fun w => if w = b.v then 0 else if w = b.u then D b.u + D b.v else D w
def zD : List BR → V → V
  | [], D => D
  | b :: bs, D => mv b (zD bs D)
def sumTo : Nat → V → Int
  | 0, _ => 0
  | n + 1, f => sumTo n f + f n
def sumB (f : BR → List BR → Int) : List BR → Int
  | [] => 0
  | b :: bs => f b bs + sumB f bs
def AllB (P : BR → List BR → Prop) : List BR → Prop
  | [] => True
  | b :: bs => P b bs ∧ AllB P bs
theorem AllB.mono {P Q : BR → List BR → Prop} : ∀ {bs : List BR}, AllB P bs → (∀ b t, P b t → Q b t) → AllB Q bs := by
  intro bs
  induction bs with
  | nil => intro _ _; trivial
  | cons b bs ih => intro h hq; exact ⟨hq _ _ h.1, ih h.2 hq⟩
theorem AllB.and {P Q : BR → List BR → Prop} : ∀ {bs : List BR}, AllB P bs → AllB Q bs → AllB (fun b t => P b t ∧ Q b t) bs := by
  intro bs
  induction bs with
  | nil => intro _ _; trivial
  | cons b bs ih => intro h g; exact ⟨⟨h.1, g.1⟩, ih h.2 g.2⟩
theorem AllB.of {P : BR → List BR → Prop} (h : ∀ b t, P b t) : ∀ bs : List BR, AllB P bs := by
  intro bs
  induction bs with
  | nil => trivial
  | cons b bs ih => exact ⟨h _ _, ih⟩
theorem AllB.mem {P : BR → Prop} : ∀ {bs : List BR}, (∀ b ∈ bs, P b) → AllB (fun b _ => P b) bs := by
  intro bs
  induction bs with
  | nil => intro _; trivial
  | cons b bs ih => intro h; exact ⟨h b (.head _), ih fun x hx => h x (.tail _ hx)⟩
theorem AllB.all {P : BR → Prop} : ∀ {bs : List BR}, AllB (fun b _ => P b) bs → ∀ b ∈ bs, P b := by
  intro bs
  induction bs with
  | nil => intro _ b hb; cases hb
  | cons b bs ih =>
    intro h x hx
    cases hx with
    | head => exact h.1
    | tail _ hx => exact ih h.2 x hx
theorem sumTo_congr : ∀ {n : Nat} {f g : V}, (∀ w, w < n → f w = g w) → sumTo n f = sumTo n g := by
  intro n
  induction n with
  | zero => intro f g _; rfl
  | succ n ih => intro f g h; show sumTo n f + f n = sumTo n g + g n; rw [ih fun w hw => h w (by omega), h n (by omega)]
theorem sumTo_le : ∀ {n : Nat} {f g : V}, (∀ w, w < n → f w ≤ g w) → sumTo n f ≤ sumTo n g := by
  intro n
  induction n with
  | zero => intro f g _; exact Int.le_refl _
  | succ n ih => intro f g h; show sumTo n f + f n ≤ sumTo n g + g n; have := ih fun w hw => h w (by omega); have := h n (by omega); omega
theorem sumTo_add : ∀ (n : Nat) (f g : V), sumTo n (fun w => f w + g w) = sumTo n f + sumTo n g := by
  intro n f g
  induction n with
  | zero => rfl
  | succ n ih => show sumTo n (fun w => f w + g w) + (f n + g n) = (sumTo n f + f n) + (sumTo n g + g n); omega
theorem sumTo_mul : ∀ (n : Nat) (c : Int) (f : V), sumTo n (fun w => c * f w) = c * sumTo n f := by
  intro n c f
  induction n with
  | zero => simp [sumTo]
  | succ n ih => show sumTo n (fun w => c * f w) + c * f n = c * (sumTo n f + f n); rw [ih, Int.mul_add]
theorem sumTo_zero : ∀ (n : Nat) {f : V}, (∀ w, w < n → f w = 0) → sumTo n f = 0 := by
  intro n
  induction n with
  | zero => intro f _; rfl
  | succ n ih => intro f h; show sumTo n f + f n = 0; rw [ih fun w hw => h w (by omega), h n (by omega)]; rfl
theorem sumTo_ch1 : ∀ {n : Nat} {f g : V} {u : Nat}, u < n → (∀ w, w ≠ u → g w = f w) → sumTo n g = sumTo n f + (g u - f u) := by
  intro n
  induction n with
  | zero => intro f g u h _; cases h
  | succ n ih =>
    intro f g u h hw
    show sumTo n g + g n = sumTo n f + f n + (g u - f u)
    by_cases e : u = n
    · subst e
      rw [sumTo_congr (n := u) (f := g) (g := f) fun w hlt => hw w (by omega)]; omega
    · rw [ih (by omega) hw, hw n (fun x => e x.symm)]; omega
theorem sumTo_ch2 {n : Nat} {f g : V} {u v : Nat} (hu : u < n) (hv : v < n) (huv : u ≠ v) (hw : ∀ w, w ≠ u → w ≠ v → g w = f w) : sumTo n g = sumTo n f + (g u - f u) + (g v - f v) := by
  have h1 := sumTo_ch1 (f := f) (g := fun w => if w = u then g u else f w) hu (fun w h => if_neg h)
  have h2 := sumTo_ch1 (f := fun w => if w = u then g u else f w) (g := g) hv (fun w h => by
    by_cases e : w = u
    · rw [if_pos e, e]
    · rw [if_neg e]; exact hw w e h)
  simp only [if_true] at h1 h2
  rw [if_neg (fun e => huv e.symm)] at h2
  omega
structure In (n : Nat) (b : BR) : Prop where
  u : b.u < n
  v : b.v < n
  ne : b.u ≠ b.v
theorem sumTo_mv {n : Nat} {b : BR} (h : In n b) (D χ : V) : sumTo n (fun w => mv b D w * χ w) = sumTo n (fun w => D w * χ w) + D b.v * (χ b.u - χ b.v) := by
  rw [sumTo_ch2 (f := fun w => D w * χ w) h.u h.v h.ne (fun w h1 h2 => by simp only [mv]; rw [if_neg h2, if_neg h1])]
  simp only [mv, if_true, if_neg h.ne]
  rw [Int.add_mul, Int.mul_sub]; omega
theorem transfer {n : Nat} (χ : V) : ∀ {bs : List BR} (D : V), AllB (fun b _ => In n b) bs →
    sumTo n (fun w => D w * χ w) = sumTo n (fun w => zD bs D w * χ w) + sumB (fun b t => zD t D b.v * (χ b.v - χ b.u)) bs := by
  intro bs
  induction bs with
  | nil => intro D _; simp [zD, sumB]
  | cons b bs ih =>
    intro D h
    rw [ih D h.2]
    show _ = sumTo n (fun w => mv b (zD bs D) w * χ w) + (zD bs D b.v * (χ b.v - χ b.u) + sumB _ bs)
    rw [sumTo_mv h.1, Int.mul_sub, Int.mul_sub]; omega
theorem zD_lin (c : Int) (D x : V) : ∀ bs : List BR, zD bs (fun w => D w + c * x w) = fun w => zD bs D w + c * zD bs x w := by
  intro bs
  induction bs with
  | nil => rfl
  | cons b bs ih =>
    show mv b (zD bs (fun w => D w + c * x w)) = _
    rw [ih]
    funext w
    simp only [zD, mv]
    split
    · simp
    · split
      · rw [Int.mul_add]; omega
      · rfl
def ab (x : Int) : Int := if 0 ≤ x then x else -x
theorem ab_le {x y : Int} (h1 : x ≤ y) (h2 : -x ≤ y) : ab x ≤ y := by unfold ab; split <;> omega
theorem ab_nn (x : Int) : 0 ≤ ab x := by unfold ab; split <;> omega
theorem ab_ge (x : Int) : x ≤ ab x ∧ -x ≤ ab x := by unfold ab; split <;> omega
theorem ab_add (x y : Int) : ab (x + y) ≤ ab x + ab y := by have := ab_ge x; have := ab_ge y; exact ab_le (by omega) (by omega)
def nrm (n : Nat) (D : V) : Int := sumTo n fun w => ab (D w)
theorem nrm_mv {n : Nat} {b : BR} (h : In n b) (D : V) : nrm n (mv b D) ≤ nrm n D := by
  unfold nrm
  rw [sumTo_ch2 (f := fun w => ab (D w)) h.u h.v h.ne (fun w h1 h2 => by simp only [mv]; rw [if_neg h2, if_neg h1])]
  simp only [mv, if_true, if_neg h.ne]
  have h1 := ab_add (D b.u) (D b.v)
  have h2 : ab 0 = 0 := rfl
  omega
theorem nrm_zD {n : Nat} (D : V) : ∀ {bs : List BR}, AllB (fun b _ => In n b) bs → nrm n (zD bs D) ≤ nrm n D := by
  intro bs
  induction bs with
  | nil => intro _; exact Int.le_refl _
  | cons b bs ih => intro h; exact Int.le_trans (nrm_mv h.1 _) (ih h.2)
theorem ab_nrm : ∀ {n : Nat} {D : V} {w : Nat}, w < n → ab (D w) ≤ nrm n D := by
  intro n D w h
  have h0 : (0 : Int) ≤ sumTo n (fun x => if x = w then 0 else ab (D x)) := by
    have := sumTo_le (n := n) (f := fun _ => 0) (g := fun x => if x = w then 0 else ab (D x)) (fun x _ => by
      split
      · exact Int.le_refl _
      · exact ab_nn _)
    rw [sumTo_zero n (fun _ _ => rfl)] at this
    exact this
  have h1 := sumTo_ch1 (n := n) (f := fun x => if x = w then 0 else ab (D x)) (g := fun x => ab (D x)) h (fun x hx => (if_neg hx).symm)
  simp only [if_true] at h1
  unfold nrm; omega
theorem zD_bound {n : Nat} {D : V} {bs : List BR} (h : AllB (fun b _ => In n b) bs) {w : Nat} (hw : w < n) : ab (zD bs D w) ≤ nrm n D := Int.le_trans (ab_nrm hw) (nrm_zD D h)
/-! tops -/
def unitV (a : Nat) : V := fun w => if w = a then 1 else 0
def tp : List BR → Nat → Nat
  | [], a => a
  | b :: bs, a => if tp bs a = b.v then b.u else tp bs a
theorem zD_unit {n : Nat} (a : Nat) : ∀ {bs : List BR}, AllB (fun b _ => In n b) bs → zD bs (unitV a) = unitV (tp bs a) := by
  intro bs
  induction bs with
  | nil => intro _; rfl
  | cons b bs ih =>
    intro h
    show mv b (zD bs (unitV a)) = _
    rw [ih h.2]
    have hne := h.1.ne
    funext w
    by_cases h1 : tp bs a = b.v
    · have e : tp (b :: bs) a = b.u := by show (if _ then _ else _) = _; rw [if_pos h1]
      rw [e, h1]
      simp only [mv, unitV]
      by_cases h2 : w = b.v
      · rw [if_pos h2, if_neg (by rw [h2]; exact fun e => hne e.symm)]
      · rw [if_neg h2]
        by_cases h3 : w = b.u
        · simp [h3, hne]
        · simp [h3, h2]
    · have e : tp (b :: bs) a = tp bs a := by show (if _ then _ else _) = _; rw [if_neg h1]
      rw [e]
      simp only [mv, unitV]
      by_cases h2 : w = b.v
      · rw [if_pos h2, if_neg (by rw [h2]; exact fun e => h1 e.symm)]
      · rw [if_neg h2]
        by_cases h3 : w = b.u
        · rw [if_pos h3, h3, if_neg (show ¬ b.v = tp bs a from fun e => h1 e.symm)]; omega
        · rw [if_neg h3]
/-! as the branches come in -/
def mkM (M : Nat → Bool) (v : Nat) : Nat → Bool := fun w => if w = v then true else M w
def ChB : (Nat → Bool) → List BR → Prop
  | _, [] => True
  | M, b :: bs => M b.u = true ∧ M b.v = false ∧ ChB (mkM M b.v) bs
def finM : (Nat → Bool) → List BR → (Nat → Bool)
  | M, [] => M
  | M, b :: bs => finM (mkM M b.v) bs
theorem mkM_mono {M : Nat → Bool} {v w : Nat} (h : M w = true) : mkM M v w = true := by unfold mkM; split <;> simp [h]
theorem zD_zero : ∀ {bs : List BR} {M : Nat → Bool} {D : V} {w : Nat}, ChB M bs → finM M bs w = true → M w = false → zD bs D w = 0 := by
  intro bs
  induction bs with
  | nil => intro M D w _ h1 h2; simp only [finM] at h1; rw [h1] at h2; cases h2
  | cons b bs ih =>
    intro M D w hc h1 h2
    show mv b (zD bs D) w = 0
    unfold mv
    by_cases h3 : w = b.v
    · rw [if_pos h3]
    · rw [if_neg h3, if_neg (fun e => by rw [e, hc.1] at h2; cases h2)]
      exact ih hc.2.2 h1 (by unfold mkM; rw [if_neg h3]; exact h2)
theorem tp_mark : ∀ {bs : List BR} {M : Nat → Bool} {a : Nat}, ChB M bs → finM M bs a = true → M (tp bs a) = true := by
  intro bs
  induction bs with
  | nil => intro M a _ h; exact h
  | cons b bs ih =>
    intro M a hc h
    have := ih hc.2.2 h
    unfold tp
    by_cases h1 : tp bs a = b.v
    · rw [if_pos h1]; exact hc.1
    · rw [if_neg h1]; unfold mkM at this; rw [if_neg h1] at this; exact this
/-! losses -/
def sq (q : Int) : Int := q * max q (-q)
def lossI (r q : Int) : Int := r * sq q
theorem sq_pos {q : Int} (h : 0 ≤ q) : sq q = q * q := by unfold sq; rw [Int.max_eq_left (by omega)]
theorem sq_neg {q : Int} (h : q ≤ 0) : sq q = -(q * q) := by unfold sq; rw [Int.max_eq_right (by omega), Int.mul_neg]
theorem sq_opp (q : Int) : sq (-q) = -sq q := by
  by_cases h : 0 ≤ q
  · rw [sq_pos h, sq_neg (by omega), Int.neg_mul_neg]
  · rw [sq_neg (q := q) (by omega), sq_pos (q := -q) (by omega), Int.neg_mul_neg]; omega
theorem mul_lt_self {a b : Int} (h0 : 0 ≤ a) (h : a < b) : a * a < b * b := by
  have h1 : a * a ≤ a * b := Int.mul_le_mul_of_nonneg_left (by omega) h0
  have h2 : a * b < b * b := Int.mul_lt_mul_of_pos_right h (by omega)
  omega
theorem sq_lt {p q : Int} (h : p < q) : sq p < sq q := by
  by_cases a : 0 ≤ p
  · rw [sq_pos a, sq_pos (by omega)]; exact mul_lt_self a h
  · by_cases b : 0 ≤ q
    · rw [sq_neg (by omega), sq_pos b]
      have h1 : 0 < p * p := by rw [← Int.neg_mul_neg]; exact Int.mul_pos (by omega) (by omega)
      have h2 : 0 ≤ q * q := Int.mul_nonneg b b
      omega
    · rw [sq_neg (by omega), sq_neg (by omega)]
      have := mul_lt_self (a := -q) (b := -p) (by omega) (by omega)
      rw [Int.neg_mul_neg, Int.neg_mul_neg] at this
      omega
theorem sq_mono {p q : Int} (h : p ≤ q) : sq p ≤ sq q := by
  by_cases e : p = q
  · rw [e]; exact Int.le_refl _
  · exact Int.le_of_lt (sq_lt (by omega))
theorem loss_mono {r p q : Int} (hr : 0 ≤ r) (h : p ≤ q) : lossI r p ≤ lossI r q := Int.mul_le_mul_of_nonneg_left (sq_mono h) hr
theorem loss_opp (r q : Int) : lossI r (-q) = -lossI r q := by unfold lossI; rw [sq_opp, Int.mul_neg]
theorem loss_bound {r q A : Int} (hr : 0 ≤ r) (hr1 : r ≤ 1000) (h : ab q ≤ A) : ab (lossI r q) ≤ 1000 * (A * A) := by
  have h1 := ab_ge q
  have h2 := ab_nn q
  have h3 : sq q ≤ A * A := by have := sq_mono (show q ≤ A by omega); rwa [sq_pos (q := A) (by omega)] at this
  have h4 : -(A * A) ≤ sq q := by have := sq_mono (show -A ≤ q by omega); rwa [sq_opp, sq_pos (q := A) (by omega)] at this
  have h5 : 0 ≤ A * A := Int.mul_nonneg (by omega) (by omega)
  have h6 : r * (A * A) ≤ 1000 * (A * A) := Int.mul_le_mul_of_nonneg_right hr1 h5
  have h7 : r * sq q ≤ r * (A * A) := Int.mul_le_mul_of_nonneg_left h3 hr
  have h8 : r * (-(A * A)) ≤ r * sq q := Int.mul_le_mul_of_nonneg_left h4 hr
  rw [Int.mul_neg] at h8
  unfold lossI
  exact ab_le (by omega) (by omega)
/-! sums over branches -/
theorem sumB_congr {f g : BR → List BR → Int} : ∀ {bs : List BR}, AllB (fun b t => f b t = g b t) bs → sumB f bs = sumB g bs := by
  intro bs
  induction bs with
  | nil => intro _; rfl
  | cons b bs ih => intro h; show f b bs + sumB f bs = g b bs + sumB g bs; rw [h.1, ih h.2]
theorem sumB_le {f g : BR → List BR → Int} : ∀ {bs : List BR}, AllB (fun b t => f b t ≤ g b t) bs → sumB f bs ≤ sumB g bs := by
  intro bs
  induction bs with
  | nil => intro _; exact Int.le_refl _
  | cons b bs ih => intro h; show f b bs + sumB f bs ≤ g b bs + sumB g bs; have := h.1; have := ih h.2; omega
theorem sumB_neg (f : BR → List BR → Int) : ∀ (bs : List BR), sumB (fun b t => -f b t) bs = -sumB f bs := by
  intro bs
  induction bs with
  | nil => rfl
  | cons b bs ih => show -f b bs + sumB _ bs = -(f b bs + sumB f bs); rw [ih]; omega
/-! ### a tree with a closing conduit -/
structure Net where
  n : Nat
  bs : List BR
  M : Nat → Bool       -- the lakes
  H0 : V               -- their heads
structure Net.Ok (N : Net) : Prop where
  ins : AllB (fun b _ => In N.n b) N.bs
  ch : ChB N.M N.bs
  fin : ∀ w, w < N.n → finM N.M N.bs w = true
  rs : AllB (fun b _ => 0 ≤ b.r ∧ b.r ≤ 1000) N.bs
  h0 : ∀ w, N.M w = true → 0 ≤ N.H0 w ∧ N.H0 w ≤ 1000000000
structure Heads (N : Net) (D : V) (H : V) : Prop where
  lake : ∀ w, N.M w = true → H w = N.H0 w
  drop : AllB (fun b t => H b.v = H b.u - lossI b.r (zD t D b.v)) N.bs
def eB (F T : Nat) (t : List BR) (b : BR) : Int := unitV (tp t F) b.v - unitV (tp t T) b.v
theorem eB_or (F T : Nat) (t : List BR) (b : BR) : eB F T t b = -1 ∨ eB F T t b = 0 ∨ eB F T t b = 1 := by
  unfold eB unitV; split <;> split <;> omega
def xV (F T : Nat) : V := fun w => unitV F w + (-1) * unitV T w
theorem zD_x {n : Nat} {bs : List BR} (h : AllB (fun b _ => In n b) bs) (F T : Nat) : zD bs (xV F T) = fun w => unitV (tp bs F) w + (-1) * unitV (tp bs T) w := by
  unfold xV; rw [zD_lin, zD_unit F h, zD_unit T h]
theorem sum_unit {n a : Nat} (h : a < n) (f : V) : sumTo n (fun w => unitV a w * f w) = f a := by
  have := sumTo_ch1 (n := n) (f := fun _ => 0) (g := fun w => unitV a w * f w) h (fun w hw => by simp [unitV, hw])
  rw [this, sumTo_zero n (fun _ _ => rfl)]; simp [unitV]
theorem sum_x {n F T : Nat} (hF : F < n) (hT : T < n) (f : V) : sumTo n (fun w => xV F T w * f w) = f F - f T := by
  have e : (fun w => xV F T w * f w) = fun w => unitV F w * f w + (-1) * (unitV T w * f w) := by
    funext w; unfold xV; rw [Int.add_mul, Int.mul_assoc]
  rw [e, sumTo_add, sumTo_mul, sum_unit hF, sum_unit hT]; omega
theorem tp_lt {N : Net} (ok : N.Ok) {a : Nat} (ha : a < N.n) : tp N.bs a < N.n ∧ N.M (tp N.bs a) = true := by
  refine ⟨?_, tp_mark ok.ch (ok.fin a ha)⟩
  have key : ∀ bs : List BR, AllB (fun b _ => In N.n b) bs → tp bs a < N.n := by
    intro bs
    induction bs with
    | nil => intro _; exact ha
    | cons b bs ih =>
      intro h
      unfold tp
      split
      · exact h.1.u
      · exact ih h.2
  exact key _ ok.ins
theorem tails {n : Nat} : ∀ {bs : List BR}, AllB (fun b _ => In n b) bs → AllB (fun b t => AllB (fun b _ => In n b) t ∧ In n b) bs := by
  intro bs
  induction bs with
  | nil => intro _; trivial
  | cons b bs ih => intro h; exact ⟨⟨h.2, h.1⟩, ih h.2⟩
def drawn (P : V) (F T : Nat) (c : Int) : V := fun w => P w + c * xV F T w
theorem dn_eq {N : Net} (ok : N.Ok) (P : V) (F T : Nat) (c : Int) : AllB (fun b t => zD t (drawn P F T c) b.v = zD t P b.v + c * eB F T t b) N.bs :=
  (tails ok.ins).mono fun b t h => by
    unfold drawn; rw [zD_lin, zD_x h.1]; unfold eB; simp only; rw [show unitV (tp t F) b.v + (-1) * unitV (tp t T) b.v = unitV (tp t F) b.v - unitV (tp t T) b.v from by omega]
def termB (P : V) (F T : Nat) (c : Int) (b : BR) (t : List BR) : Int := eB F T t b * lossI b.r (zD t P b.v + c * eB F T t b)
def gapV (N : Net) (P : V) (F T : Nat) (R c : Int) : Int := lossI R c + sumB (termB P F T c) N.bs - (N.H0 (tp N.bs F) - N.H0 (tp N.bs T))
theorem gap_heads {N : Net} (ok : N.Ok) {P : V} {F T : Nat} (hF : F < N.n) (hT : T < N.n) (R c : Int) {H : V} (h : Heads N (drawn P F T c) H) : lossI R c - (H F - H T) = gapV N P F T R c := by
  have h1 := transfer (n := N.n) H (xV F T) ok.ins
  rw [sum_x hF hT, zD_x ok.ins] at h1
  obtain ⟨f1, f2⟩ := tp_lt ok hF
  obtain ⟨t1, t2⟩ := tp_lt ok hT
  have h2 := sum_x f1 t1 H
  unfold xV at h2
  rw [h2, h.lake _ f2, h.lake _ t2] at h1
  have h3 : sumB (fun b t => zD t (xV F T) b.v * (H b.v - H b.u)) N.bs = sumB (fun b t => -termB P F T c b t) N.bs :=
    sumB_congr (((tails ok.ins).and ((dn_eq ok P F T c).and h.drop)).mono fun b t g => by
      obtain ⟨g1, g2, g3⟩ := g
      rw [g3, g2, zD_x g1.1]
      unfold termB eB
      simp only
      rw [show unitV (tp t F) b.v + (-1) * unitV (tp t T) b.v = unitV (tp t F) b.v - unitV (tp t T) b.v from by omega]
      rw [show ∀ x y : Int, x - y - x = -y from fun x y => by omega, Int.mul_neg])
  rw [h3, sumB_neg] at h1
  unfold gapV
  omega
theorem term_mono {P : V} {F T : Nat} {c c' : Int} {b : BR} {t : List BR} (hr : 0 ≤ b.r) (h : c ≤ c') : termB P F T c b t ≤ termB P F T c' b t := by
  unfold termB
  rcases eB_or F T t b with e | e | e <;> rw [e]
  · have := loss_mono hr (show zD t P b.v + c' * -1 ≤ zD t P b.v + c * -1 by omega); omega
  · omega
  · have := loss_mono hr (show zD t P b.v + c * 1 ≤ zD t P b.v + c' * 1 by omega); omega
def flatB (F T : Nat) (b : BR) (t : List BR) : Prop := eB F T t b = 0 ∨ b.r = 0
theorem gap_mono {N : Net} (ok : N.Ok) {P : V} {F T : Nat} {R c c' : Int} (hR : 0 ≤ R) (h : c ≤ c') : gapV N P F T R c ≤ gapV N P F T R c' := by
  have h1 := loss_mono hR h
  have h2 : sumB (termB P F T c) N.bs ≤ sumB (termB P F T c') N.bs := sumB_le (ok.rs.mono fun b t hr => term_mono (P := P) (F := F) (T := T) (t := t) hr.1 h)
  unfold gapV; omega
structure Flat (N : Net) (F T : Nat) (R : Int) : Prop where
  r : R = 0
  b : AllB (flatB F T) N.bs
end Go.AI
end
section
/-
  THE STATE AT A CIRCULATION: the program's flows and heads are those of PlFlow.
-/
set_option linter.unusedVariables false
set_option linter.unusedSimpArgs false
namespace Go.AI
theorem geti_z {m : List Int} {i : Int} (h0 : 0 ≤ i) (h1 : i < m.length) {γ : Type} (f : Nat → Int → Option γ) : bind2 (geti m i) f = f i.toNat (m.getD i.toNat 0) := by
  obtain ⟨k, rfl⟩ : ∃ k : Nat, i = k := ⟨i.toNat, by omega⟩
  have : m[k]? = some (m.getD k 0) := by rw [List.getD_eq_getElem?_getD, List.getElem?_eq_getElem (by omega)]; rfl
  rw [geti_at this]; simp
theorem geti_n {m : List Int} {k : Nat} (h1 : k < m.length) {γ : Type} (f : Nat → Int → Option γ) : bind2 (geti m (k : Int)) f = f k (m.getD k 0) := by
  rw [geti_z (by omega) (by omega)]; simp
theorem getD_set {m : List Int} {i j : Nat} (a : Int) (h : i < m.length) : (m.set i a).getD j 0 = if j = i then a else m.getD j 0 := by
  rw [List.getD_eq_getElem?_getD, List.getD_eq_getElem?_getD]
  by_cases e : i = j
  · subst e; rw [List.getElem?_set_self h, if_pos rfl]; rfl
  · rw [List.getElem?_set_ne e, if_neg (fun x => e x.symm)]
theorem getD_setB {m : List Bool} {i j : Nat} (a : Bool) (h : i < m.length) : (m.set i a).getD j false = if j = i then a else m.getD j false := by
  rw [List.getD_eq_getElem?_getD, List.getD_eq_getElem?_getD]
  by_cases e : i = j
  · subst e; rw [List.getElem?_set_self h, if_pos rfl]; rfl
  · rw [List.getElem?_set_ne e, if_neg (fun x => e x.symm)]
theorem getD_rep (n j : Nat) : (List.replicate n (0 : Int)).getD j 0 = 0 := by
  rw [List.getD_eq_getElem?_getD]
  by_cases h : j < n
  · rw [List.getElem?_replicate_of_lt h]; rfl
  · rw [List.getElem?_eq_none (by simp; omega)]; rfl
/-! branches, resolved -/
def rb (cs : List WaterConduit) (b : Branch) : BR := match cs[b.fconduit.toNat]? with
  | some c => if c.fTo = b.fnode then ⟨b.fconduit.toNat, b.fnode.toNat, fr c, c.fResist, 1⟩ else ⟨b.fconduit.toNat, b.fnode.toNat, to c, c.fResist, -1⟩
  | none => ⟨0, 0, 0, 0, 0⟩
def BL (cs : List WaterConduit) (bs : List Branch) : List BR := bs.map (rb cs)
structure BrOk (n : Nat) (cs : List WaterConduit) (b : Branch) (c : WaterConduit) (x : BR) : Prop where
  k : b.fconduit = (x.k : Int)
  v : b.fnode = (x.v : Int)
  hc : cs[x.k]? = some c
  r : x.r = c.fResist
  o : c.fOpen = true
  s : (x.s = 1 ∧ c.fTo = (x.v : Int) ∧ c.fFrom = (x.u : Int)) ∨ (x.s = -1 ∧ c.fFrom = (x.v : Int) ∧ c.fTo = (x.u : Int))
  i : In n x
def mark (m : List Bool) : Nat → Bool := fun w => m.getD w false
theorem rb_ok {n : Nat} {cs : List WaterConduit} {m : List Bool} {b : Branch} (hE : EndsOk n cs) (hm : m.length = n)
    (h : ∃ (k : Nat) (c : WaterConduit), b = ⟨(k : Int), newI m c⟩ ∧ cs[k]? = some c ∧ joinB m c = true) :
    ∃ c, BrOk n cs b c (rb cs b) ∧ mark m (rb cs b).u = true ∧ mark m (rb cs b).v = false := by
  obtain ⟨k, c, rfl, hk, hj⟩ := h
  have hc := hE c (List.mem_of_getElem? hk)
  have h1 := hc.f0; have h2 := hc.f1; have h3 := hc.t0; have h4 := hc.t1
  obtain ⟨j1, j2, j3, j4, j5⟩ := join_new hm hc hj
  have hx : cs[((k : Int)).toNat]? = some c := by simpa using hk
  refine ⟨c, ?_⟩
  unfold joinB at hj
  rw [j5, Bool.true_and] at hj
  unfold rb
  simp only [hx]
  by_cases q : m.getD (to c) false = true
  · have hn : newI m c = c.fFrom := by unfold newI; rw [if_pos q]
    have hf : m.getD (fr c) false = false := by rw [q] at hj; cases e : m.getD (fr c) false with | false => rfl | true => rw [e] at hj; cases hj
    have hne : ¬ c.fTo = c.fFrom := fun e => by
      have : to c = fr c := by unfold to fr; rw [e]
      rw [this, hf] at q; cases q
    rw [hn]
    rw [if_neg hne]
    refine ⟨⟨by simp, by simp; omega, hx, rfl, j5, .inr ⟨rfl, by simp; omega, by unfold to; simp; omega⟩, ⟨by unfold to; simp; omega, by simp; omega, ?_⟩⟩, q, hf⟩
    simp only; unfold to; omega
  · have hn : newI m c = c.fTo := by unfold newI; rw [if_neg q]
    have q' : m.getD (to c) false = false := by simpa using q
    have hf : m.getD (fr c) false = true := by rw [q'] at hj; cases e : m.getD (fr c) false with | true => rfl | false => rw [e] at hj; cases hj
    have hne : ¬ c.fFrom = c.fTo := fun e => by
      have : fr c = to c := by unfold to fr; rw [e]
      rw [this, q'] at hf; cases hf
    rw [hn]
    rw [if_pos rfl]
    refine ⟨⟨by simp, by simp; omega, hx, rfl, j5, .inl ⟨rfl, by simp; omega, by unfold fr; simp; omega⟩, ⟨by unfold fr; simp; omega, by simp; omega, ?_⟩⟩, hf, q'⟩
    simp only; unfold fr; omega
theorem mark_set {m : List Bool} {v : Nat} (h : v < m.length) : mark (m.set v true) = mkM (mark m) v := by
  funext w; unfold mark mkM; rw [getD_setB true h]
theorem chain_ok {n : Nat} {cs : List WaterConduit} (hE : EndsOk n cs) : ∀ {bs : List Branch} {m : List Bool}, m.length = n → Chain cs m bs →
    ChB (mark m) (BL cs bs) ∧ (∀ b ∈ bs, ∃ c, BrOk n cs b c (rb cs b)) := by
  intro bs
  induction bs with
  | nil => intro m _ _; exact ⟨trivial, fun b hb => by cases hb⟩
  | cons b bs ih =>
    intro m hm h
    obtain ⟨c, h1, h2, h3⟩ := rb_ok hE hm h.1
    have hv : b.fnode.toNat = (rb cs b).v := by rw [h1.v]; simp
    obtain ⟨i1, i2⟩ := ih (m := m.set b.fnode.toNat true) (by rw [List.length_set, hm]) h.2
    rw [hv, mark_set (by have := h1.i.v; omega)] at i1
    exact ⟨⟨h2, h3, i1⟩, fun x hx => by
      cases hx with
      | head => exact ⟨c, h1⟩
      | tail _ hx => exact i2 x hx⟩
theorem chain_off {n : Nat} {cs : List WaterConduit} (hE : EndsOk n cs) {k : Nat} {c : WaterConduit} (hk : cs[k]? = some c) : ∀ {bs : List Branch} {m : List Bool}, m.length = n → Chain cs m bs →
    m.getD (fr c) false = true → m.getD (to c) false = true → ∀ b ∈ bs, b.fconduit ≠ (k : Int) := by
  intro bs
  induction bs with
  | nil => intro m _ _ _ _ b hb; cases hb
  | cons b bs ih =>
    intro m hm h h1 h2 x hx
    obtain ⟨d, g1, g2, g3⟩ := rb_ok hE hm h.1
    cases hx with
    | head =>
      obtain ⟨j, e, rfl, hj, hjo⟩ := h.1
      intro he
      have he' : (j : Int) = (k : Int) := he
      have : j = k := by omega
      subst this
      rw [hj] at hk; cases hk
      unfold joinB at hjo
      rw [h1, h2] at hjo; simp at hjo
    | tail _ hx =>
      have hl : b.fnode.toNat < m.length := by have := g1.i.v; have := g1.v; omega
      refine ih (m := m.set b.fnode.toNat true) (by rw [List.length_set, hm]) h.2 ?_ ?_ x hx
      · rw [getD_setB true hl]; split
        · rfl
        · exact h1
      · rw [getD_setB true hl]; split
        · rfl
        · exact h2
theorem chain_dist {n : Nat} {cs : List WaterConduit} (hE : EndsOk n cs) : ∀ {bs : List Branch} {m : List Bool}, m.length = n → Chain cs m bs → AllB (fun x t => ∀ y ∈ t, y.k ≠ x.k) (BL cs bs) := by
  intro bs
  induction bs with
  | nil => intro m _ _; trivial
  | cons b bs ih =>
    intro m hm h
    obtain ⟨c, h1, h2, h3⟩ := rb_ok hE hm h.1
    have hl : b.fnode.toNat < m.length := by have := h1.i.v; have := h1.v; omega
    have hv : b.fnode.toNat = (rb cs b).v := by rw [h1.v]; simp
    have hm' : (m.set b.fnode.toNat true).length = n := by rw [List.length_set, hm]
    refine ⟨fun y hy => ?_, ih hm' h.2⟩
    obtain ⟨z, hz, rfl⟩ := List.mem_map.1 hy
    obtain ⟨_, hall⟩ := chain_ok hE hm' h.2
    obtain ⟨d, hd⟩ := hall z hz
    have hm2 : ∀ w, (w = (rb cs b).v ∨ w = (rb cs b).u) → (m.set b.fnode.toNat true).getD w false = true := by
      intro w hw
      rw [getD_setB true hl, hv]
      split
      · rfl
      · rename_i hne
        rcases hw with hw | hw
        · exact absurd hw hne
        · rw [hw]; exact h2
    have hend : fr c = (rb cs b).v ∧ to c = (rb cs b).u ∨ fr c = (rb cs b).u ∧ to c = (rb cs b).v := by
      rcases h1.s with ⟨_, e1, e2⟩ | ⟨_, e1, e2⟩
      · right; unfold fr to; rw [e1, e2]; simp
      · left; unfold fr to; rw [e1, e2]; simp
    have := chain_off hE h1.hc hm' h.2 (by rcases hend with ⟨e, _⟩ | ⟨e, _⟩ <;> rw [e] <;> exact hm2 _ (by simp)) (by rcases hend with ⟨_, e⟩ | ⟨_, e⟩ <;> rw [e] <;> exact hm2 _ (by simp)) z hz
    intro e
    rw [hd.k, e] at this
    exact this rfl
theorem fin_eq {n : Nat} {cs : List WaterConduit} (hE : EndsOk n cs) : ∀ (f : Nat) (m : List Bool), m.length = n → finM (mark m) (BL cs (growL cs f m).1) = mark (growL cs f m).2 := by
  intro f
  induction f with
  | zero => intro m _; rfl
  | succ f ih =>
    intro m hm
    have hc := grow_chain cs (f + 1) m
    unfold growL at hc ⊢
    cases h : pickC m cs 0 with
    | none => rfl
    | some p =>
      obtain ⟨k, c⟩ := p
      rw [h] at hc
      simp only at hc ⊢
      obtain ⟨d, h1, h2, h3⟩ := rb_ok hE hm hc.1
      have hl : (newI m c).toNat < m.length := by have := h1.i.v; have := h1.v; simp only at this; omega
      have hv : (newI m c).toNat = (rb cs ⟨(k : Int), newI m c⟩).v := by have := h1.v; simp only at this; omega
      show finM (mkM (mark m) (rb cs ⟨(k : Int), newI m c⟩).v) (BL cs (growL cs f (m.set (newI m c).toNat true)).1) = _
      rw [← hv, ← mark_set hl]
      exact ih _ (by rw [List.length_set, hm])
theorem marks_all {m : List Bool} (h : falses m = 0) {w : Nat} (hw : w < m.length) : mark m w = true := by
  unfold mark
  cases e : m.getD w false with
  | true => rfl
  | false => have := falses_set_eq hw e; omega
/-! ### backwards -/
def bkD : List BR → List Int → List Int
  | [], D => D
  | b :: bs, D => (bkD bs D).set b.u ((bkD bs D).getD b.u 0 + (bkD bs D).getD b.v 0)
def bkQ : List BR → List Int → List Int → List Int
  | [], _, Q => Q
  | b :: bs, D, Q => (bkQ bs D Q).set b.k (b.s * (bkD bs D).getD b.v 0)
theorem bkD_len : ∀ (bs : List BR) (D : List Int), (bkD bs D).length = D.length := by
  intro bs
  induction bs with
  | nil => intro D; rfl
  | cons b bs ih => intro D; show (List.set _ _ _).length = _; rw [List.length_set, ih]
theorem bkQ_len : ∀ (bs : List BR) (D Q : List Int), (bkQ bs D Q).length = Q.length := by
  intro bs
  induction bs with
  | nil => intro D Q; rfl
  | cons b bs ih => intro D Q; show (List.set _ _ _).length = _; rw [List.length_set, ih]
def vec (l : List Int) : V := fun w => l.getD w 0
theorem bkD_eq {n : Nat} {D : List Int} (hD : D.length = n) : ∀ {bs : List BR} {M : Nat → Bool}, AllB (fun b _ => In n b) bs → ChB M bs → ∀ w, M w = true → (bkD bs D).getD w 0 = zD bs (vec D) w := by
  intro bs
  induction bs with
  | nil => intro M _ _ w _; rfl
  | cons b bs ih =>
    intro M hi hc w hw
    have h1 := ih hi.2 hc.2.2
    have hu := h1 b.u (mkM_mono hc.1)
    have hv := h1 b.v (by unfold mkM; rw [if_pos rfl])
    show ((bkD bs D).set b.u _).getD w 0 = mv b (zD bs (vec D)) w
    rw [getD_set _ (by rw [bkD_len, hD]; exact hi.1.u)]
    unfold mv
    rw [if_neg (show ¬ w = b.v from fun e => by rw [e, hc.2.1] at hw; cases hw), hu, hv, h1 w (mkM_mono hw)]
theorem chb_drop : ∀ {bs : List BR} {M : Nat → Bool}, ChB M bs → ∀ i, ChB (finM M (bs.take i)) (bs.drop i) := by
  intro bs
  induction bs with
  | nil => intro M _ i; simp [finM, ChB]
  | cons b bs ih =>
    intro M h i
    cases i with
    | zero => exact h
    | succ i => exact ih h.2.2 i
theorem allB_drop {P : BR → List BR → Prop} : ∀ {bs : List BR}, AllB P bs → ∀ i, AllB P (bs.drop i) := by
  intro bs
  induction bs with
  | nil => intro _ i; simp [AllB]
  | cons b bs ih =>
    intro h i
    cases i with
    | zero => exact h
    | succ i => exact ih h.2 i
theorem other_eq {n : Nat} {cs : List WaterConduit} {b : Branch} {c : WaterConduit} {x : BR} (h : BrOk n cs b c x) (z : Int) (ns : List WaterNode) (bs : List Branch) :
    F140_0 z b.fconduit b.fnode ns cs bs = some ((x.u : Int), x.s) := by
  unfold F140_0
  rw [h.k, geti_at h.hc, h.v]
  have := h.i.ne
  rcases h.s with ⟨e1, e2, e3⟩ | ⟨e1, e2, e3⟩
  · rw [if_pos e2, e3, e1]
  · rw [if_neg (by rw [e3]; omega), e3, e1]
theorem aw_small {x : Int} (h : ab x ≤ 1000000000000000000) : aw .i64 x = x := by have := ab_ge x; exact aw_ok (by omega) (by omega)
theorem back_eq {ns : List WaterNode} {cs : List WaterConduit} {bs : List Branch} {M : Nat → Bool} (hall : ∀ b ∈ bs, ∃ c, BrOk ns.length cs b c (rb cs b)) (hc : ChB M (BL cs bs)) (hi : AllB (fun b _ => In ns.length b) (BL cs bs))
    (D Q : List Int) (hD : D.length = ns.length) (hQ : Q.length = cs.length) (hn : nrm ns.length (vec D) ≤ 500000) (hb : bs.length < 100000) (z : Int) (x y w : List Int) :
    L154l0_0 z ns cs bs x y w ((bs.length : Int) - 1, Q, D) = some (bkQ (BL cs bs) D Q, bkD (BL cs bs) D) := by
  have key : ∀ (i : Nat), i ≤ bs.length → iter (S154l0_0 z ns cs bs x y w) (i + 1) ((i : Int) - 1, bkQ ((BL cs bs).drop i) D Q, bkD ((BL cs bs).drop i) D) = some (bkQ (BL cs bs) D Q, bkD (BL cs bs) D) := by
    intro i
    induction i with
    | zero =>
      intro _
      exact iter_out (by simp [S154l0_0]) 0
    | succ i ih =>
      intro hle
      have hlt : i < bs.length := by omega
      have hx : bs[i]? = some bs[i] := List.getElem?_eq_getElem hlt
      have hdrop : (BL cs bs).drop i = rb cs bs[i] :: (BL cs bs).drop (i + 1) := by
        unfold BL
        rw [← List.map_drop, ← List.map_drop, List.drop_eq_getElem_cons hlt, List.map_cons]
      obtain ⟨c, hbr⟩ := hall bs[i] (List.getElem_mem hlt)
      have hin := allB_drop hi i
      have hch := chb_drop hc i
      rw [hdrop] at hin hch
      generalize bs[i] = b at hx hdrop hbr hin hch
      obtain ⟨hin1, hin2⟩ := hin
      obtain ⟨hch1, hch2, hch3⟩ := hch
      have hu := bkD_eq hD hin2 hch3 (rb cs b).u (mkM_mono hch1)
      have hv := bkD_eq hD hin2 hch3 (rb cs b).v (by unfold mkM; rw [if_pos rfl])
      have bu := zD_bound (D := vec D) hin2 hin1.u
      have bv := zD_bound (D := vec D) hin2 hin1.v
      have lenD := bkD_len ((BL cs bs).drop (i + 1)) D
      have lenQ := bkQ_len ((BL cs bs).drop (i + 1)) D Q
      have lu := hin1.u
      have lv := hin1.v
      have lk := (List.getElem?_eq_some_iff.1 hbr.hc).1
      have gu := ab_ge (zD ((BL cs bs).drop (i + 1)) (vec D) (rb cs b).u)
      have gv := ab_ge (zD ((BL cs bs).drop (i + 1)) (vec D) (rb cs b).v)
      have hs : S154l0_0 z ns cs bs x y w (((i + 1 : Nat) : Int) - 1, bkQ ((BL cs bs).drop (i + 1)) D Q, bkD ((BL cs bs).drop (i + 1)) D) = some (.inl ((i : Int) - 1, bkQ ((BL cs bs).drop i) D Q, bkD ((BL cs bs).drop i) D)) := by
        rw [show ((i + 1 : Nat) : Int) - 1 = (i : Int) from by omega]
        simp only [S154l0_0, if_pos (show (0 : Int) ≤ (i : Int) by omega), geti_at hx, other_eq hbr, bind2_some]
        rw [hbr.v, geti_n (by omega)]
        rw [hbr.k, geti_n (by omega), geti_n (by omega)]
        rw [hu, hv, aw_ok (n := (i : Int) - 1) (by omega) (by omega)]
        rw [aw_ok (n := zD ((BL cs bs).drop (i + 1)) (vec D) (rb cs b).u + zD ((BL cs bs).drop (i + 1)) (vec D) (rb cs b).v) (by omega) (by omega)]
        rw [aw_ok (n := (rb cs b).s * zD ((BL cs bs).drop (i + 1)) (vec D) (rb cs b).v) (by rcases hbr.s with ⟨e, _⟩ | ⟨e, _⟩ <;> rw [e] <;> omega) (by rcases hbr.s with ⟨e, _⟩ | ⟨e, _⟩ <;> rw [e] <;> omega)]
        rw [hdrop]
        simp only [bkQ, bkD, hu, hv]
      exact iter_in hs (ih (by omega))
  have hd : (BL cs bs).drop bs.length = [] := by unfold BL; rw [← List.map_drop, List.drop_length]; rfl
  have h := key bs.length (Nat.le_refl _)
  rw [hd] at h
  exact iter_mono h (by omega)
theorem bkQ_off : ∀ {bs : List BR} {D Q : List Int} {k : Nat}, (∀ b ∈ bs, b.k < Q.length) → (∀ b ∈ bs, b.k ≠ k) → (bkQ bs D Q).getD k 0 = Q.getD k 0 := by
  intro bs
  induction bs with
  | nil => intro D Q k _ _; rfl
  | cons b bs ih =>
    intro D Q k hl h
    show ((bkQ bs D Q).set b.k _).getD k 0 = _
    rw [getD_set _ (by rw [bkQ_len]; exact hl b (.head _)), if_neg (fun e => h b (.head _) e.symm)]
    exact ih (fun x hx => hl x (.tail _ hx)) fun x hx => h x (.tail _ hx)
theorem bkQ_at {n : Nat} {D Q : List Int} (hD : D.length = n) : ∀ {bs : List BR} {M : Nat → Bool}, (∀ b ∈ bs, b.k < Q.length) → AllB (fun b _ => In n b) bs → ChB M bs → AllB (fun x t => ∀ y ∈ t, y.k ≠ x.k) bs →
    ∀ (R : List Int), (∀ b ∈ bs, R.getD b.k 0 = (bkQ bs D Q).getD b.k 0) → AllB (fun b t => R.getD b.k 0 = b.s * zD t (vec D) b.v) bs := by
  intro bs
  induction bs with
  | nil => intro M _ _ _ _ R _; trivial
  | cons b bs ih =>
    intro M hl hi hc hd R hR
    refine ⟨?_, ih (fun x hx => hl x (.tail _ hx)) hi.2 hc.2.2 hd.2 R fun x hx => ?_⟩
    · show R.getD b.k 0 = b.s * zD bs (vec D) b.v
      rw [hR b (.head _)]
      show ((bkQ bs D Q).set b.k _).getD b.k 0 = _
      rw [getD_set _ (by rw [bkQ_len]; exact hl b (.head _)), if_pos rfl, bkD_eq hD hi.2 hc.2.2 b.v (by unfold mkM; rw [if_pos rfl])]
    · rw [hR x (.tail _ hx)]
      show ((bkQ bs D Q).set b.k _).getD x.k 0 = _
      rw [getD_set _ (by rw [bkQ_len]; exact hl b (.head _)), if_neg (hd.1 x hx)]
/-! ### forwards -/
def fwH (Q : List Int) : List BR → List Int → List Int
  | [], H => H
  | b :: bs, H => fwH Q bs (H.set b.v (H.getD b.u 0 - lossI b.r (b.s * Q.getD b.k 0)))
theorem fwH_len (Q : List Int) : ∀ (bs : List BR) (H : List Int), (fwH Q bs H).length = H.length := by
  intro bs
  induction bs with
  | nil => intro H; rfl
  | cons b bs ih => intro H; show (fwH Q bs _).length = _; rw [ih, List.length_set]
theorem fwH_keep {n : Nat} {Q : List Int} : ∀ {bs : List BR} {M : Nat → Bool} {H : List Int}, H.length = n → AllB (fun b _ => In n b) bs → ChB M bs → ∀ w, M w = true → (fwH Q bs H).getD w 0 = H.getD w 0 := by
  intro bs
  induction bs with
  | nil => intro M H _ _ _ w _; rfl
  | cons b bs ih =>
    intro M H hH hi hc w hw
    show (fwH Q bs _).getD w 0 = _
    rw [ih (by rw [List.length_set, hH]) hi.2 hc.2.2 w (mkM_mono hw), getD_set _ (by rw [hH]; exact hi.1.v), if_neg (fun e => by rw [e, hc.2.1] at hw; cases hw)]
theorem fwH_drop {n : Nat} {Q : List Int} : ∀ {bs : List BR} {M : Nat → Bool} {H : List Int}, H.length = n → AllB (fun b _ => In n b) bs → ChB M bs →
    AllB (fun b _ => (fwH Q bs H).getD b.v 0 = (fwH Q bs H).getD b.u 0 - lossI b.r (b.s * Q.getD b.k 0)) bs := by
  intro bs
  induction bs with
  | nil => intro M H _ _ _; trivial
  | cons b bs ih =>
    intro M H hH hi hc
    have hl : (H.set b.v (H.getD b.u 0 - lossI b.r (b.s * Q.getD b.k 0))).length = n := by rw [List.length_set, hH]
    refine ⟨?_, ih hl hi.2 hc.2.2⟩
    show (fwH Q bs _).getD b.v 0 = (fwH Q bs _).getD b.u 0 - _
    rw [fwH_keep hl hi.2 hc.2.2 b.v (by unfold mkM; rw [if_pos rfl]), fwH_keep hl hi.2 hc.2.2 b.u (mkM_mono hc.1), getD_set _ (by rw [hH]; exact hi.1.v), getD_set _ (by rw [hH]; exact hi.1.v), if_pos rfl, if_neg hi.1.ne]
theorem lossV_eq {r q : Int} (hr : 0 ≤ r) (hr1 : r ≤ 1000) (hq : ab q ≤ 1000000) : lossV r q = lossI r q := by
  have h1 := ab_ge q
  have h2 : ab (r * q) ≤ 1000000000 := by
    have a1 : r * q ≤ r * 1000000 := Int.mul_le_mul_of_nonneg_left (by omega) hr
    have a2 : r * (-1000000) ≤ r * q := Int.mul_le_mul_of_nonneg_left (by omega) hr
    exact ab_le (by omega) (by omega)
  have h3 := loss_bound hr hr1 hq
  unfold lossV
  rw [aw_small (x := r * q) (by omega), aw_ok (n := 0 - q) (by omega) (by omega), Int.zero_sub]
  have e : r * q * max q (-q) = lossI r q := by unfold lossI sq; rw [Int.mul_assoc]
  rw [e, aw_small (by omega)]
theorem fwd_eq {ns : List WaterNode} {cs : List WaterConduit} {bs : List Branch} (hall : ∀ b ∈ bs, ∃ c, BrOk ns.length cs b c (rb cs b)) (hcs : ∀ c ∈ cs, 0 ≤ c.fResist ∧ c.fResist ≤ 1000)
    (Q H : List Int) (hQ : Q.length = cs.length) (hH : H.length = ns.length) (hq : ∀ k, ab (Q.getD k 0) ≤ 500000) (h0 : ∀ w, ab (H.getD w 0) ≤ 1000000000) (hb : bs.length ≤ 1000) (z : Int) (x y : List Int) :
    L101l2_0 (bs.length : Int) ns cs bs z x y Q (0, H) = some (fwH Q (BL cs bs) H) ∧ ∀ w, ab ((fwH Q (BL cs bs) H).getD w 0) ≤ 300000000000000000 := by
  have hB : ∀ b ∈ bs, ab (lossI (rb cs b).r ((rb cs b).s * Q.getD (rb cs b).k 0)) ≤ 250000000000000 ∧ 0 ≤ (rb cs b).r ∧ (rb cs b).r ≤ 1000 ∧ ab ((rb cs b).s * Q.getD (rb cs b).k 0) ≤ 500000 := by
    intro b hb
    obtain ⟨c, hc⟩ := hall b hb
    obtain ⟨r0, r1⟩ := hcs c (List.mem_of_getElem? hc.hc)
    rw [← hc.r] at r0 r1
    have g := hq (rb cs b).k
    have g2 := ab_ge (Q.getD (rb cs b).k 0)
    have g3 : ab ((rb cs b).s * Q.getD (rb cs b).k 0) ≤ 500000 := by
      rcases hc.s with ⟨e, _⟩ | ⟨e, _⟩ <;> rw [e] <;> exact ab_le (by omega) (by omega)
    exact ⟨loss_bound r0 r1 g3, r0, r1, g3⟩
  have h := iter_list0 (step := S101l2_0 (bs.length : Int) ns cs bs z x y Q) (fun i (a : List Int) => ((i : Int), a)) bs
    (fun _ b a => (.inl (a.set (rb cs b).v (a.getD (rb cs b).u 0 - lossI (rb cs b).r ((rb cs b).s * Q.getD (rb cs b).k 0))) : List Int ⊕ List Int)) (fun a => a)
    (fun i a => a.length = ns.length ∧ ∀ w, ab (a.getD w 0) ≤ 1000000000 + 250000000000000 * (i : Int))
    (fun a _ => by simp [S101l2_0]) (fun i b a hx hi ha => by
      obtain ⟨ha1, ha2⟩ := ha
      obtain ⟨c, hbr⟩ := hall b (List.mem_of_getElem? hx)
      obtain ⟨b1, b2, b3, b4⟩ := hB b (List.mem_of_getElem? hx)
      have lu := hbr.i.u
      have lv := hbr.i.v
      have lk := (List.getElem?_eq_some_iff.1 hbr.hc).1
      have gu := ha2 (rb cs b).u
      have g1 := ab_ge (a.getD (rb cs b).u 0)
      have g2 := ab_ge (lossI (rb cs b).r ((rb cs b).s * Q.getD (rb cs b).k 0))
      refine ⟨?_, fun a' h => ?_⟩
      · simp only [S101l2_0, if_neg (show ¬ ((bs.length : Int) ≤ (i : Int)) by omega), geti_at hx, other_eq hbr, bind2_some]
        rw [geti_n (by omega), hbr.k, geti_at hbr.hc, geti_n (by omega), hbr.v, ← hbr.r]
        rw [aw_small (x := (rb cs b).s * Q.getD (rb cs b).k 0) (by omega), F77_eq, lossV_eq b2 b3 (by omega)]
        simp only [Option.bind_some]
        rw [geti_n (by omega), aw_ok (n := (i : Int) + 1) (by omega) (by omega), aw_ok (n := a.getD (rb cs b).u 0 - lossI (rb cs b).r ((rb cs b).s * Q.getD (rb cs b).k 0)) (by omega) (by omega)]
        simp
      · cases h
        refine ⟨by rw [List.length_set, ha1], fun w => ?_⟩
        rw [getD_set _ (by omega)]
        split
        · exact ab_le (by omega) (by omega)
        · have := ha2 w; omega) (by omega) H ⟨hH, fun w => by have := h0 w; omega⟩
  have key : ∀ (bs : List Branch) (i : Nat) (a : List Int), loopL (fun (_ : Nat) (b : Branch) (a : List Int) => (.inl (a.set (rb cs b).v (a.getD (rb cs b).u 0 - lossI (rb cs b).r ((rb cs b).s * Q.getD (rb cs b).k 0))) : List Int ⊕ List Int)) (fun a => a) bs i a = fwH Q (BL cs bs) a := by
    intro bs
    induction bs with
    | nil => intro i a; rfl
    | cons b bs ih => intro i a; rw [loopL]; exact ih _ _
  rw [key] at h
  refine ⟨h, ?_⟩
  have key2 : ∀ (l : List Branch) (a : List Int) (A : Int), (∀ b ∈ l, b ∈ bs) → a.length = ns.length → (∀ w, ab (a.getD w 0) ≤ A) → ∀ w, ab ((fwH Q (BL cs l) a).getD w 0) ≤ A + 250000000000000 * (l.length : Int) := by
    intro l
    induction l with
    | nil => intro a A _ _ hA w; have := hA w; simpa [BL, fwH] using this
    | cons b l ih =>
      intro a A hm hl hA w
      obtain ⟨c, hbr⟩ := hall b (hm b (.head _))
      obtain ⟨b1, b2, b3, b4⟩ := hB b (hm b (.head _))
      have lv := hbr.i.v
      have := ih (a.set (rb cs b).v (a.getD (rb cs b).u 0 - lossI (rb cs b).r ((rb cs b).s * Q.getD (rb cs b).k 0))) (A + 250000000000000) (fun x hx => hm x (.tail _ hx)) (by rw [List.length_set, hl]) (fun w => by
        rw [getD_set _ (by omega)]
        have g0 := hA (rb cs b).u
        have g1 := ab_ge (a.getD (rb cs b).u 0)
        have g2 := ab_ge (lossI (rb cs b).r ((rb cs b).s * Q.getD (rb cs b).k 0))
        split
        · exact ab_le (by omega) (by omega)
        · have := hA w; omega) w
      simp only [List.length_cons]
      have e : fwH Q (BL cs (b :: l)) a = fwH Q (BL cs l) (a.set (rb cs b).v (a.getD (rb cs b).u 0 - lossI (rb cs b).r ((rb cs b).s * Q.getD (rb cs b).k 0))) := rfl
      rw [e]; omega
  intro w
  have := key2 bs H 1000000000 (fun b hb => hb) hH h0 w
  omega
end Go.AI
end
section
/-
  THE PROGRAM's STATE, GAP, CIRCULATION, as PlFlow speaks of them.
-/
set_option linter.unusedVariables false
set_option linter.unusedSimpArgs false
namespace Go.AI
def drw (ns : List WaterNode) : List Int := ns.map fun x => x.fDraw
def hds (ns : List WaterNode) : List Int := ns.map fun x => 1000 * x.fHead
def tnet (ns : List WaterNode) (cs : List WaterConduit) : Net := ⟨ns.length, BL cs (grown ns cs).1, mark (lakes ns), vec (hds ns)⟩
structure FormOk (ns : List WaterNode) (cs : List WaterConduit) : Prop where
  net : NetOk ns cs
  gap : falses (grown ns cs).2 = 0
theorem map_getD {α : Type} (f : α → Int) {l : List α} {w : Nat} {x : α} (h : l[w]? = some x) : (l.map f).getD w 0 = f x := by
  rw [List.getD_eq_getElem?_getD, List.getElem?_map, h]; rfl
theorem map_getD_none {α : Type} (f : α → Int) {l : List α} {w : Nat} (h : l[w]? = none) : (l.map f).getD w 0 = 0 := by
  rw [List.getD_eq_getElem?_getD, List.getElem?_map, h]; rfl
theorem hds_bound {ns : List WaterNode} {cs : List WaterConduit} (ok : NetOk ns cs) (w : Nat) : 0 ≤ (hds ns).getD w 0 ∧ (hds ns).getD w 0 ≤ 1000000000 := by
  unfold hds
  cases h : ns[w]? with
  | none => rw [map_getD_none _ h]; omega
  | some x =>
    rw [map_getD _ h]
    have := ok.nodes x (List.mem_of_getElem? h)
    cases hl : x.fLake
    · rw [(this.junc hl).2]; omega
    · have := (this.lake hl).1; omega
theorem drw_bound {ns : List WaterNode} {cs : List WaterConduit} (ok : NetOk ns cs) (w : Nat) : ab ((drw ns).getD w 0) ≤ 10000 := by
  unfold drw
  cases h : ns[w]? with
  | none => rw [map_getD_none _ h]; decide
  | some x =>
    rw [map_getD _ h]
    have := ok.nodes x (List.mem_of_getElem? h)
    cases hl : x.fLake
    · have := (this.junc hl).1; exact ab_le (by omega) (by omega)
    · rw [(this.lake hl).2]; decide
theorem FormOk.branches {ns : List WaterNode} {cs : List WaterConduit} (ok : FormOk ns cs) : ∀ b ∈ (grown ns cs).1, ∃ c, BrOk ns.length cs b c (rb cs b) :=
  (chain_ok ok.net.ends (lakes_len ns) (grow_chain cs ns.length (lakes ns))).2
theorem FormOk.tok {ns : List WaterNode} {cs : List WaterConduit} (ok : FormOk ns cs) : (tnet ns cs).Ok := by
  have hb := ok.branches
  have hch := (chain_ok ok.net.ends (lakes_len ns) (grow_chain cs ns.length (lakes ns))).1
  refine ⟨AllB.mem fun x hx => ?_, hch, fun w hw => ?_, AllB.mem fun x hx => ?_, fun w _ => hds_bound ok.net w⟩
  · obtain ⟨b, hbm, rfl⟩ := List.mem_map.1 hx
    obtain ⟨c, hc⟩ := hb b hbm
    exact hc.i
  · show finM (mark (lakes ns)) (BL cs (growL cs ns.length (lakes ns)).1) w = true
    rw [fin_eq ok.net.ends ns.length (lakes ns) (lakes_len ns)]
    exact marks_all ok.gap (by have := (grow_len ok.net.ends ns.length (lakes ns) (lakes_len ns)).1; show w < (growL cs ns.length (lakes ns)).2.length; rw [this]; exact hw)
  · obtain ⟨b, hbm, rfl⟩ := List.mem_map.1 hx
    obtain ⟨c, hc⟩ := hb b hbm
    have := ok.net.conds c (List.mem_of_getElem? hc.hc)
    rw [hc.r]; exact ⟨this.r0, this.r1⟩
theorem FormOk.dist {ns : List WaterNode} {cs : List WaterConduit} (ok : FormOk ns cs) : AllB (fun x t => ∀ y ∈ t, y.k ≠ x.k) (BL cs (grown ns cs).1) :=
  chain_dist ok.net.ends (lakes_len ns) (grow_chain cs ns.length (lakes ns))
theorem sumTo_const {n : Nat} {f : V} {A : Int} (h : ∀ w, w < n → f w ≤ A) : sumTo n f ≤ n * A := by
  induction n with
  | zero => simp [sumTo]
  | succ n ih =>
    have h1 := ih fun w hw => h w (by omega)
    have h2 := h n (by omega)
    show sumTo n f + f n ≤ ((n + 1 : Nat) : Int) * A
    have : ((n + 1 : Nat) : Int) * A = n * A + A := by rw [Int.natCast_add, Int.add_mul]; simp
    omega
theorem nrm_drw {ns : List WaterNode} {cs : List WaterConduit} (ok : NetOk ns cs) : nrm ns.length (vec (drw ns)) ≤ 100000 := by
  have := sumTo_const (n := ns.length) (f := fun w => ab (vec (drw ns) w)) (A := 10000) fun w _ => drw_bound ok w
  have := ok.n1
  unfold nrm; omega
theorem nrm_drawn {n : Nat} {P : V} {F T : Nat} {c : Int} (hF : F < n) (hT : T < n) (hc : ab c ≤ 200000) : nrm n (drawn P F T c) ≤ nrm n P + 400000 := by
  have h1 : ∀ w, ab (drawn P F T c w) ≤ ab (P w) + 200000 * (unitV F w * 1 + unitV T w * 1) := by
    intro w
    have g := ab_add (P w) (c * xV F T w)
    have g2 : ab (c * xV F T w) ≤ 200000 * (unitV F w * 1 + unitV T w * 1) := by
      have k := ab_ge c
      unfold xV unitV
      split <;> split
      · simp [ab]
      · simp; exact hc
      · simp; exact ab_le (by omega) (by omega)
      · simp [ab]
    unfold drawn; omega
  unfold nrm
  have h2 := sumTo_le (n := n) fun w _ => h1 w
  rw [sumTo_add, sumTo_mul, sumTo_add, sum_unit hF (fun _ => 1), sum_unit hT (fun _ => 1)] at h2
  omega
/-! the closing conduit -/
def ClOk (ns : List WaterNode) (cs : List WaterConduit) (cl : Int) : Prop := cl < 0 ∨ ∃ (k : Nat) (c : WaterConduit), cl = k ∧ cs[k]? = some c ∧ ∀ b ∈ BL cs (grown ns cs).1, b.k ≠ k
def stD (ns : List WaterNode) (cs : List WaterConduit) (cl c : Int) : List Int :=
  if 0 ≤ cl then match cs[cl.toNat]? with
    | some x => ((drw ns).set (fr x) ((drw ns).getD (fr x) 0 + c)).set (to x) ((drw ns).getD (to x) 0 - c)
    | none => drw ns
  else drw ns
def stQ0 (cs : List WaterConduit) (cl c : Int) : List Int := if 0 ≤ cl then (List.replicate cs.length (0 : Int)).set cl.toNat c else List.replicate cs.length 0
def stQ (ns : List WaterNode) (cs : List WaterConduit) (cl c : Int) : List Int := bkQ (BL cs (grown ns cs).1) (stD ns cs cl c) (stQ0 cs cl c)
def stH (ns : List WaterNode) (cs : List WaterConduit) (cl c : Int) : List Int := fwH (stQ ns cs cl c) (BL cs (grown ns cs).1) (hds ns)
theorem stD_vec {ns : List WaterNode} {cs : List WaterConduit} (ok : NetOk ns cs) {k : Nat} {x : WaterConduit} (hx : cs[k]? = some x) (c : Int) :
    vec (stD ns cs (k : Int) c) = drawn (vec (drw ns)) (fr x) (to x) c := by
  have hc := ok.conds x (List.mem_of_getElem? hx)
  have h1 := hc.f0; have h2 := hc.f1; have h3 := hc.t0; have h4 := hc.t1; have h5 := hc.ne
  have l : (drw ns).length = ns.length := by simp [drw]
  have hne : fr x ≠ to x := by unfold fr to; omega
  unfold stD
  rw [if_pos (by omega)]
  simp only [Int.toNat_natCast, hx]
  funext w
  unfold vec drawn xV unitV
  rw [getD_set _ (by rw [List.length_set, l]; unfold to; omega), getD_set _ (by rw [l]; unfold fr; omega)]
  by_cases e1 : w = to x
  · have e2 : ¬ to x = fr x := fun e => hne e.symm
    subst e1; simp [e2]; omega
  · by_cases e2 : w = fr x
    · subst e2; simp [hne]
    · simp [e1, e2]
theorem stD_len (ns : List WaterNode) (cs : List WaterConduit) (cl c : Int) : (stD ns cs cl c).length = ns.length := by
  unfold stD
  split
  · split <;> simp [drw]
  · simp [drw]
theorem stQ0_len (cs : List WaterConduit) (cl c : Int) : (stQ0 cs cl c).length = cs.length := by unfold stQ0; split <;> simp
theorem stD_nrm {ns : List WaterNode} {cs : List WaterConduit} (ok : NetOk ns cs) {cl c : Int} (hcl : ClOk ns cs cl) (hc : ab c ≤ 200000) : nrm ns.length (vec (stD ns cs cl c)) ≤ 500000 := by
  have h1 := nrm_drw ok
  rcases hcl with h | ⟨k, x, rfl, hx, _⟩
  · unfold stD; rw [if_neg (by omega)]; omega
  · rw [stD_vec ok hx]
    have hc2 := ok.conds x (List.mem_of_getElem? hx)
    have g1 := hc2.f0; have g2 := hc2.f1; have g3 := hc2.t0; have g4 := hc2.t1
    have := nrm_drawn (n := ns.length) (P := vec (drw ns)) (F := fr x) (T := to x) (by unfold fr; omega) (by unfold to; omega) hc
    omega
structure StOk (ns : List WaterNode) (cs : List WaterConduit) (cl c : Int) : Prop where
  lq : (stQ ns cs cl c).length = cs.length
  lh : (stH ns cs cl c).length = ns.length
  qb : AllB (fun b t => (stQ ns cs cl c).getD b.k 0 = b.s * zD t (vec (stD ns cs cl c)) b.v) (BL cs (grown ns cs).1)
  q0 : ∀ k : Nat, (∀ b ∈ BL cs (grown ns cs).1, b.k ≠ k) → cl ≠ (k : Int) → (stQ ns cs cl c).getD k 0 = 0
  qc : ∀ k : Nat, cl = (k : Int) → (stQ ns cs cl c).getD k 0 = c
  qq : ∀ k : Nat, ab ((stQ ns cs cl c).getD k 0) ≤ 500000
  hd : Heads (tnet ns cs) (vec (stD ns cs cl c)) (vec (stH ns cs cl c))
  hb : ∀ w : Nat, ab ((stH ns cs cl c).getD w 0) ≤ 300000000000000000
theorem L101l0_eq {ns : List WaterNode} {cs : List WaterConduit} (ok : NetOk ns cs) (c cl : Int) (bs : List Branch) (x y Q : List Int) :
    L101l0_0 c (ns.length : Int) ns cs bs cl x y Q (0, List.replicate ns.length 0, List.replicate ns.length 0) = some (hds ns, drw ns) := by
  have hn := ok.n1
  have h := iter_list0 (step := S101l0_0 c (ns.length : Int) ns cs bs cl x y Q) (fun i (a : List Int × List Int) => ((i : Int), a.1, a.2)) ns
    (fun i x a => (.inl (a.1.set i (1000 * x.fHead), a.2.set i x.fDraw) : (List Int × List Int) ⊕ (List Int × List Int))) (fun a => (a.1, a.2))
    (fun i a => a.1.length = ns.length ∧ a.2.length = ns.length)
    (fun a _ => by simp [S101l0_0]) (fun i x a hx hi ha => by
      obtain ⟨a1, a2⟩ := a
      obtain ⟨ha1, ha2⟩ := ha
      simp only at ha1 ha2
      have hh := hds_bound ok i
      unfold hds at hh
      rw [map_getD _ hx] at hh
      refine ⟨?_, fun a' h => by cases h; simp [ha1, ha2]⟩
      simp only [S101l0_0, if_neg (show ¬ ((ns.length : Int) ≤ (i : Int)) by omega), geti_at hx]
      rw [aw_ok (n := (i : Int) + 1) (by omega) (by omega), geti_n (by omega), geti_n (by omega), aw_ok (n := 1000 * x.fHead) (by omega) (by omega)]
      simp) (by omega) (List.replicate ns.length 0, List.replicate ns.length 0) (by simp)
  have key : ∀ (l : List WaterNode) (p q r s : List Int), p.length = r.length → q.length = l.length → s.length = l.length → loopL (fun (i : Nat) (x : WaterNode) (a : List Int × List Int) => (.inl (a.1.set i (1000 * x.fHead), a.2.set i x.fDraw) : (List Int × List Int) ⊕ (List Int × List Int))) (fun a => (a.1, a.2)) l p.length (p ++ q, r ++ s) = (p ++ hds l, r ++ drw l) := by
    intro l
    induction l with
    | nil =>
      intro p q r s _ h1 h2
      cases q with
      | nil => cases s with
        | nil => simp [loopL, hds, drw]
        | cons _ _ => cases h2
      | cons _ _ => cases h1
    | cons x l ih =>
      intro p q r s hpr h1 h2
      cases q with
      | nil => cases h1
      | cons y q => cases s with
        | nil => cases h2
        | cons z s =>
          rw [loopL]
          simp only
          have e1 : (p ++ y :: q).set p.length (1000 * x.fHead) = (p ++ [1000 * x.fHead]) ++ q := by rw [List.set_append_right _ _ (Nat.le_refl _), Nat.sub_self, List.set_cons_zero]; simp
          have e2 : (r ++ z :: s).set p.length x.fDraw = (r ++ [x.fDraw]) ++ s := by rw [hpr, List.set_append_right _ _ (Nat.le_refl _), Nat.sub_self, List.set_cons_zero]; simp
          rw [e1, e2]
          have := ih (p ++ [1000 * x.fHead]) q (r ++ [x.fDraw]) s (by simp [hpr]) (by simpa using h1) (by simpa using h2)
          rw [show (p ++ [1000 * x.fHead]).length = p.length + 1 from by simp] at this
          rw [this]; simp [hds, drw]
  have := key ns [] (List.replicate ns.length 0) [] (List.replicate ns.length 0) rfl (by simp) (by simp)
  simp only [List.length_nil, List.nil_append] at this
  rw [this] at h
  exact h
theorem st_ok {ns : List WaterNode} {cs : List WaterConduit} (ok : FormOk ns cs) {cl c : Int} (hcl : ClOk ns cs cl) (hc : ab c ≤ 200000) (z : Int) (x y : List Int) :
    StOk ns cs cl c ∧ L101l2_0 ((grown ns cs).1.length : Int) ns cs (grown ns cs).1 z x y (stQ ns cs cl c) (0, hds ns) = some (stH ns cs cl c) := by
  have T := ok.tok
  have hbr := ok.branches
  have hdist := ok.dist
  have lenD := stD_len ns cs cl c
  have lenQ0 := stQ0_len cs cl c
  have hlen := grown_len ok.net.ends
  have hn1 := ok.net.n1
  have hk : ∀ b ∈ BL cs (grown ns cs).1, b.k < (stQ0 cs cl c).length := by
    intro b hb
    obtain ⟨d, hd, rfl⟩ := List.mem_map.1 hb
    obtain ⟨e, he⟩ := hbr d hd
    have := (List.getElem?_eq_some_iff.1 he.hc).1
    omega
  have hs : ∀ b ∈ BL cs (grown ns cs).1, b.s = 1 ∨ b.s = -1 := by
    intro b hb
    obtain ⟨d, hd, rfl⟩ := List.mem_map.1 hb
    obtain ⟨e, he⟩ := hbr d hd
    rcases he.s with ⟨g, _⟩ | ⟨g, _⟩
    · exact .inl g
    · exact .inr g
  have lq : (stQ ns cs cl c).length = cs.length := by unfold stQ; rw [bkQ_len, lenQ0]
  have qb := bkQ_at (n := ns.length) lenD hk T.ins T.ch hdist (stQ ns cs cl c) fun b _ => rfl
  have hoff : ∀ k : Nat, (∀ b ∈ BL cs (grown ns cs).1, b.k ≠ k) → (stQ ns cs cl c).getD k 0 = (stQ0 cs cl c).getD k 0 := fun k h => bkQ_off hk h
  have q0 : ∀ k : Nat, (∀ b ∈ BL cs (grown ns cs).1, b.k ≠ k) → cl ≠ (k : Int) → (stQ ns cs cl c).getD k 0 = 0 := by
    intro k h hne
    rw [hoff k h]
    unfold stQ0
    rcases hcl with hcl | ⟨j, d, rfl, hx, _⟩
    · rw [if_neg (by omega), getD_rep]
    · rw [if_pos (by omega), Int.toNat_natCast, getD_set _ (by simpa using (List.getElem?_eq_some_iff.1 hx).1), if_neg (by omega), getD_rep]
  have qc : ∀ k : Nat, cl = (k : Int) → (stQ ns cs cl c).getD k 0 = c := by
    intro k he
    rcases hcl with hcl | ⟨j, d, hj, hx, hoffj⟩
    · omega
    · have : k = j := by omega
      subst this
      rw [hoff k hoffj]
      unfold stQ0
      rw [he, if_pos (by omega), Int.toNat_natCast, getD_set _ (by simpa using (List.getElem?_eq_some_iff.1 hx).1), if_pos rfl]
  have hnr := stD_nrm ok.net hcl hc
  have qq : ∀ k : Nat, ab ((stQ ns cs cl c).getD k 0) ≤ 500000 := by
    intro k
    by_cases h : ∀ b ∈ BL cs (grown ns cs).1, b.k ≠ k
    · by_cases h2 : cl = (k : Int)
      · rw [qc k h2]; omega
      · rw [q0 k h h2]; decide
    · have : AllB (fun b _ => ab ((stQ ns cs cl c).getD b.k 0) ≤ 500000) (BL cs (grown ns cs).1) :=
        ((((tails T.ins).and qb)).and (AllB.mem hs)).mono fun b t g => by
          obtain ⟨⟨g1, g2⟩, g3⟩ := g
          have g4 := zD_bound (D := vec (stD ns cs cl c)) g1.1 g1.2.v
          have g5 := ab_ge (zD t (vec (stD ns cs cl c)) b.v)
          have hnr' : nrm (tnet ns cs).n (vec (stD ns cs cl c)) ≤ 500000 := hnr
          rw [g2]
          rcases g3 with e | e <;> rw [e] <;> exact ab_le (by omega) (by omega)
      have hall := AllB.all this
      by_cases h3 : ab ((stQ ns cs cl c).getD k 0) ≤ 500000
      · exact h3
      · exact absurd (fun b hb e => h3 (by rw [← e]; exact hall b hb)) h
  obtain ⟨hfw, hhb⟩ := fwd_eq hbr (fun d hd => by have := ok.net.conds d hd; exact ⟨this.r0, this.r1⟩) (stQ ns cs cl c) (hds ns) lq (by simp [hds]) qq (fun w => by have := hds_bound ok.net w; exact ab_le (by omega) (by omega)) (by omega) z x y
  refine ⟨⟨lq, ?_, qb, q0, qc, qq, ⟨fun w hw => ?_, ?_⟩, hhb⟩, hfw⟩
  · unfold stH; rw [fwH_len]; simp [hds]
  · exact fwH_keep (n := ns.length) (by simp [hds]) T.ins T.ch w hw
  · have h1 := fwH_drop (n := ns.length) (Q := stQ ns cs cl c) (H := hds ns) (by simp [hds]) T.ins T.ch
    exact ((h1.and qb).and (AllB.mem hs)).mono fun b t g => by
      obtain ⟨⟨g1, g2⟩, g3⟩ := g
      show (stH ns cs cl c).getD b.v 0 = (stH ns cs cl c).getD b.u 0 - _
      have g1' : (stH ns cs cl c).getD b.v 0 = (stH ns cs cl c).getD b.u 0 - lossI b.r (b.s * (stQ ns cs cl c).getD b.k 0) := g1
      rw [g1', g2]
      have e : b.s * (b.s * zD t (vec (stD ns cs cl c)) b.v) = zD t (vec (stD ns cs cl c)) b.v := by
        rcases g3 with e | e <;> rw [e] <;> omega
      rw [e]
theorem F101_eq {ns : List WaterNode} {cs : List WaterConduit} (ok : FormOk ns cs) {cl c : Int} (hcl : ClOk ns cs cl) (hc : ab c ≤ 200000) :
    F101_0 cl c ns cs (grown ns cs).1 = some (stQ ns cs cl c, stH ns cs cl c) := by
  have hn := ok.net.n1
  have hcn := ok.net.c1
  have hg := ab_ge c
  have T := ok.tok
  have hlen := grown_len ok.net.ends
  have hfw := fun z x y => (st_ok ok hcl hc z x y).2
  have lenD := stD_len ns cs cl c
  have lenQ0 := stQ0_len cs cl c
  have hbk := fun z x y w => back_eq ok.branches T.ch T.ins (stD ns cs cl c) (stQ0 cs cl c) lenD lenQ0 (stD_nrm ok.net hcl hc) (by omega) z x y w
  unfold F101_0
  rw [inx_nat (show cs.length < 140737488355329 by omega)]
  simp only [Option.bind_some]
  rw [room_le (by omega), inx_nat (show ns.length < 140737488355329 by omega)]
  simp only [Option.bind_some]
  rw [room_le (by omega), room_le (by omega), L101l0_eq ok.net]
  simp only [bind2_some, F139_0, F154_2, Option.bind_some]
  rw [aw_ok (n := ((grown ns cs).1.length : Int) - 1) (by omega) (by omega)]
  by_cases h0 : 0 ≤ cl
  · rw [if_pos h0]
    rcases hcl with hcl | ⟨k, x, rfl, hx, hoff⟩
    · omega
    · have hcx := ok.net.conds x (List.mem_of_getElem? hx)
      have h1 := hcx.f0; have h2 := hcx.f1; have h3 := hcx.t0; have h4 := hcx.t1; have h5 := hcx.ne
      have hne : to x ≠ fr x := by unfold fr to; omega
      have lk := (List.getElem?_eq_some_iff.1 hx).1
      have l : (drw ns).length = ns.length := by simp [drw]
      have bf := drw_bound ok.net (fr x)
      have bt := drw_bound ok.net (to x)
      have bf' := ab_ge ((drw ns).getD (fr x) 0)
      have bt' := ab_ge ((drw ns).getD (to x) 0)
      rw [geti_at hx]
      have hz : ∀ f : Nat → Int → Option (List Int × List Int), bind2 (geti (List.replicate cs.length (0 : Int)) (k : Int)) f = f k ((List.replicate cs.length (0 : Int)).getD k 0) := fun f => geti_n (by simpa using lk) f
      rw [hz]
      rw [geti_z h1 (by omega), show x.fFrom.toNat = fr x from rfl, geti_z h3 (by rw [List.length_set]; omega), show x.fTo.toNat = to x from rfl]
      rw [getD_set _ (by unfold fr; omega), if_neg hne, aw_ok (n := (drw ns).getD (fr x) 0 + c) (by omega) (by omega), aw_ok (n := (drw ns).getD (to x) 0 - c) (by omega) (by omega)]
      have eD : ((drw ns).set (fr x) ((drw ns).getD (fr x) 0 + c)).set (to x) ((drw ns).getD (to x) 0 - c) = stD ns cs (k : Int) c := by
        unfold stD; rw [if_pos (by omega)]; simp only [Int.toNat_natCast, hx]
      have eQ : (List.replicate cs.length (0 : Int)).set k c = stQ0 cs (k : Int) c := by
        unfold stQ0; rw [if_pos (by omega), Int.toNat_natCast]
      rw [eD, eQ, hbk]
      simp only [bind2_some]
      have e2 : bkQ (BL cs (grown ns cs).1) (stD ns cs (k : Int) c) (stQ0 cs (k : Int) c) = stQ ns cs (k : Int) c := rfl
      rw [e2, hfw]
      rfl
  · rw [if_neg h0]
    have eD : drw ns = stD ns cs cl c := by unfold stD; rw [if_neg h0]
    have eQ : List.replicate cs.length (0 : Int) = stQ0 cs cl c := by unfold stQ0; rw [if_neg h0]
    rw [eQ]
    conv => lhs; rw [eD]
    rw [hbk]
    simp only [bind2_some]
    have e2 : bkQ (BL cs (grown ns cs).1) (stD ns cs cl c) (stQ0 cs cl c) = stQ ns cs cl c := rfl
    rw [e2, hfw]
    rfl
/-! the gap -/
def gapF (ns : List WaterNode) (cs : List WaterConduit) (x : WaterConduit) (c : Int) : Int := gapV (tnet ns cs) (vec (drw ns)) (fr x) (to x) x.fResist c
theorem gap_st {ns : List WaterNode} {cs : List WaterConduit} (ok : FormOk ns cs) {k : Nat} {x : WaterConduit} (hx : cs[k]? = some x) (hoff : ∀ b ∈ BL cs (grown ns cs).1, b.k ≠ k) {c : Int} (hc : ab c ≤ 200000) :
    lossI x.fResist c - ((stH ns cs (k : Int) c).getD (fr x) 0 - (stH ns cs (k : Int) c).getD (to x) 0) = gapF ns cs x c := by
  have hcx := ok.net.conds x (List.mem_of_getElem? hx)
  have h1 := hcx.f0; have h2 := hcx.f1; have h3 := hcx.t0; have h4 := hcx.t1
  have hs := (st_ok ok (.inr ⟨k, x, rfl, hx, hoff⟩) hc 0 [] []).1.hd
  rw [stD_vec ok.net hx] at hs
  exact gap_heads ok.tok (F := fr x) (T := to x) (by show fr x < ns.length; unfold fr; omega) (by show to x < ns.length; unfold to; omega) x.fResist c hs
theorem F102_eq {ns : List WaterNode} {cs : List WaterConduit} (ok : FormOk ns cs) {k : Nat} {x : WaterConduit} (hx : cs[k]? = some x) (hoff : ∀ b ∈ BL cs (grown ns cs).1, b.k ≠ k) {c : Int} (hc : ab c ≤ 200000) :
    F102_0 (k : Int) c ns cs (grown ns cs).1 = some (gapF ns cs x c) := by
  have hcl : ClOk ns cs (k : Int) := .inr ⟨k, x, rfl, hx, hoff⟩
  have hcx := ok.net.conds x (List.mem_of_getElem? hx)
  have h1 := hcx.f0; have h2 := hcx.f1; have h3 := hcx.t0; have h4 := hcx.t1
  have st := (st_ok ok hcl hc 0 [] []).1
  have b1 := loss_bound hcx.r0 hcx.r1 hc
  have b1' := ab_ge (lossI x.fResist c)
  have b2 := st.hb (fr x)
  have b2' := ab_ge ((stH ns cs (k : Int) c).getD (fr x) 0)
  have b3 := st.hb (to x)
  have b3' := ab_ge ((stH ns cs (k : Int) c).getD (to x) 0)
  have lh := st.lh
  unfold F102_0
  rw [geti_at hx, F101_eq ok hcl hc]
  simp only [bind2_some, F77_eq, Option.bind_some]
  rw [lossV_eq hcx.r0 hcx.r1 (by omega), geti_z h1 (by omega), geti_z h3 (by omega), show x.fFrom.toNat = fr x from rfl, show x.fTo.toNat = to x from rfl]
  rw [aw_ok (n := (stH ns cs (k : Int) c).getD (fr x) 0 - (stH ns cs (k : Int) c).getD (to x) 0) (by omega) (by omega), ← gap_st ok hx hoff hc, aw_ok (by omega) (by omega)]
end Go.AI
end
section
/-
  THE CLOSING CONDUIT; WHAT THE PROGRAM's FUNCTIONS OF A NET OF A RIGHT FORM RETURN.
-/
set_option linter.unusedVariables false
set_option linter.unusedSimpArgs false
namespace Go.AI
def Opens (bs : List Branch) (cs : List WaterConduit) (i : Nat) (P : Nat → Prop) : Prop := ∀ (k : Nat) (c : WaterConduit), cs[k]? = some c → c.fOpen = true → hasK bs ((i + k : Nat) : Int) = true ∨ P (i + k)
theorem close_loop {bs : List Branch} : ∀ (cs : List WaterConduit) (i : Nat) (a r : Int), loopL (bodyCl bs) (fun a => (.inl a : Int ⊕ Int)) cs i a = .inl r →
    (r = a ∧ Opens bs cs i fun _ => False) ∨ (a < 0 ∧ ∃ (k : Nat) (c : WaterConduit), r = ((i + k : Nat) : Int) ∧ cs[k]? = some c ∧ c.fOpen = true ∧ hasK bs ((i + k : Nat) : Int) = false ∧ Opens bs cs i fun j => j = i + k) := by
  intro cs
  induction cs with
  | nil => intro i a r h; cases h; left; exact ⟨rfl, fun k c h => by simp at h⟩
  | cons d cs ih =>
    intro i a r h
    rw [loopL] at h
    have hskip : (d.fOpen = true → hasK bs (i : Int) = true) → loopL (bodyCl bs) (fun a => (.inl a : Int ⊕ Int)) cs (i + 1) a = .inl r →
        (r = a ∧ Opens bs (d :: cs) i fun _ => False) ∨ (a < 0 ∧ ∃ (k : Nat) (c : WaterConduit), r = ((i + k : Nat) : Int) ∧ (d :: cs)[k]? = some c ∧ c.fOpen = true ∧ hasK bs ((i + k : Nat) : Int) = false ∧ Opens bs (d :: cs) i fun j => j = i + k) := by
      intro hd h
      rcases ih (i + 1) a r h with ⟨h1, h2⟩ | ⟨h1, k, c, h2, h3, h4, h5, h6⟩
      · left
        refine ⟨h1, fun k c hk ho => ?_⟩
        cases k with
        | zero => simp at hk; subst hk; left; simpa using hd ho
        | succ k => have := h2 k c (by simpa using hk) ho; rwa [show i + (k + 1) = i + 1 + k from by omega]
      · right
        refine ⟨h1, k + 1, c, by rw [h2]; congr 1; omega, by simpa using h3, h4, by rwa [show i + (k + 1) = i + 1 + k from by omega], fun j e hj ho => ?_⟩
        cases j with
        | zero => simp at hj; subst hj; left; simpa using hd ho
        | succ j =>
          rcases h6 j e (by simpa using hj) ho with g | g
          · left; rwa [show i + (j + 1) = i + 1 + j from by omega]
          · right; omega
    unfold bodyCl at h
    cases o : d.fOpen
    · rw [o] at h; simp only [Bool.false_eq_true, if_false] at h
      exact hskip (fun e => by rw [o] at e; cases e) h
    · cases hk : hasK bs (i : Int)
      · by_cases ha : 0 ≤ a
        · rw [o, hk] at h; simp only [if_true, Bool.false_eq_true, if_false, ha] at h; cases h
        · rw [o, hk] at h; simp only [if_true, Bool.false_eq_true, if_false, ha] at h
          have h' : loopL (bodyCl bs) (fun a => (.inl a : Int ⊕ Int)) cs (i + 1) (i : Int) = .inl r := h
          rcases ih (i + 1) (i : Int) r h' with ⟨h1, h2⟩ | ⟨h1, _⟩
          · right
            refine ⟨by omega, 0, d, by simpa using h1, rfl, o, by simpa using hk, fun j e hj ho => ?_⟩
            cases j with
            | zero => right; rfl
            | succ j =>
              rcases h2 j e (by simpa using hj) ho with g | g
              · left; rwa [show i + (j + 1) = i + 1 + j from by omega]
              · exact absurd g id
          · omega
      · rw [o, hk] at h; simp only [if_true] at h
        exact hskip (fun _ => hk) h
theorem hasK_iff {n : Nat} {cs : List WaterConduit} {bs : List Branch} (hall : ∀ b ∈ bs, ∃ c, BrOk n cs b c (rb cs b)) (k : Nat) : hasK bs (k : Int) = true ↔ ∃ x ∈ BL cs bs, x.k = k := by
  unfold hasK BL
  rw [List.any_eq_true]
  constructor
  · rintro ⟨b, hb, he⟩
    obtain ⟨c, hc⟩ := hall b hb
    refine ⟨rb cs b, List.mem_map.2 ⟨b, hb, rfl⟩, ?_⟩
    have := of_decide_eq_true he
    have := hc.k
    omega
  · rintro ⟨x, hx, he⟩
    obtain ⟨b, hb, rfl⟩ := List.mem_map.1 hx
    obtain ⟨c, hc⟩ := hall b hb
    exact ⟨b, hb, decide_eq_true (by have := hc.k; omega)⟩
structure Form (ns : List WaterNode) (cs : List WaterConduit) (cl : Int) : Prop where
  ok : FormOk ns cs
  cl : closeL (grown ns cs).1 cs = .inl cl
structure Closing (ns : List WaterNode) (cs : List WaterConduit) (cl : Int) : Prop where
  ok : ClOk ns cs cl
  ge : -1 ≤ cl
  op : ∀ (k : Nat) (c : WaterConduit), cs[k]? = some c → c.fOpen = true → (∃ x ∈ BL cs (grown ns cs).1, x.k = k) ∨ cl = k
  cop : ∀ (k : Nat) (c : WaterConduit), cl = k → cs[k]? = some c → c.fOpen = true
theorem Form.closing {ns : List WaterNode} {cs : List WaterConduit} {cl : Int} (h : Form ns cs cl) : Closing ns cs cl := by
  have hall := h.ok.branches
  rcases close_loop cs 0 (-1) cl h.cl with ⟨h1, h2⟩ | ⟨_, k, c, h2, h3, h4, h5, h6⟩
  · refine ⟨.inl (by omega), by omega, fun k c hk ho => ?_, fun k c e _ => by omega⟩
    rcases h2 k c hk ho with g | g
    · left; exact (hasK_iff hall k).1 (by simpa using g)
    · exact absurd g id
  · simp only [Nat.zero_add] at h2 h5 h6
    refine ⟨.inr ⟨k, c, h2, h3, fun b hb e => ?_⟩, by omega, fun j d hj ho => ?_, fun j d e hj => ?_⟩
    · have := (hasK_iff hall k).2 ⟨b, hb, e⟩
      rw [h5] at this; cases this
    · rcases h6 j d hj ho with g | g
      · left; exact (hasK_iff hall j).1 (by simpa using g)
      · right; rw [h2]; congr 1; omega
    · have : j = k := by omega
      subst this
      rw [h3] at hj; cases hj; exact h4
/-! the program's functions -/
theorem F87_few {ns : List WaterNode} {cs : List WaterConduit} (hf : FewN ns cs) : F87_0 ns cs = some (checkNet ns cs).2 := by unfold F87_0; rw [F16_few hf]; rfl
theorem F32_few {ns : List WaterNode} {cs : List WaterConduit} (hf : FewN ns cs) : F32_0 ns cs = some (checkNet ns cs).2 := by unfold F32_0; rw [F19_few hf]; rfl
theorem F38_few {ns : List WaterNode} {cs : List WaterConduit} (hf : FewN ns cs) : F38_0 ns cs = some (if (checkNet ns cs).2 = 0 then formE ns cs else (checkNet ns cs).2) := by
  have hn := hf.n; have hc := hf.c
  unfold F38_0
  rw [F32_few hf]
  simp only [Option.bind_some]
  by_cases h : (checkNet ns cs).2 = 0
  · rw [if_pos h, if_pos h, F97_eq (netOk h).ends (by omega) (by omega)]; rfl
  · rw [if_neg h, if_neg h]
theorem form_of {ns : List WaterNode} {cs : List WaterConduit} (h0 : (checkNet ns cs).2 = 0) (h1 : formE ns cs = 0) : ∃ cl, Form ns cs cl := by
  unfold formE at h1
  by_cases g : falses (grown ns cs).2 = 0
  · rw [if_pos g] at h1
    cases hc : closeL (grown ns cs).1 cs with
    | inl a => exact ⟨a, ⟨⟨netOk h0, g⟩, hc⟩⟩
    | inr a => rw [hc] at h1; cases h1
  · rw [if_neg g] at h1; cases h1
theorem Form.e {ns : List WaterNode} {cs : List WaterConduit} {cl : Int} (h : Form ns cs cl) : formE ns cs = 0 := by
  unfold formE; rw [if_pos h.ok.gap, h.cl]
theorem F138_form {ns : List WaterNode} {cs : List WaterConduit} {cl : Int} (h : Form ns cs cl) : F138_0 ns cs = some (cl, 0, (grown ns cs).1) := by
  have hn := h.ok.net.n1; have hc := h.ok.net.c1
  obtain ⟨a, h1, h2⟩ := F138_eq h.ok.net.ends (by omega) (by omega)
  have := h2 h.e
  rw [h.cl] at this; cases this
  rw [h1, h.e]
theorem F99_form {ns : List WaterNode} {cs : List WaterConduit} {cl : Int} (hd : (checkNet ns cs).2 = 0) (hf : FewN ns cs) (h : Form ns cs cl) : F99_0 ns cs = some (.inl (cl, 0, (grown ns cs).1)) := by
  unfold F99_0; rw [F87_few hf, hd]; simp only [Option.bind_some, if_true]; rw [F138_form h]; rfl
theorem f71_2 (a b : Int) : F71_0 [a, b] = some (firstNZ [a, b]) := F71_eq _ (show ([_, _] : List Int).length < 1000000 by simp)
theorem f71_3 (a b c : Int) : F71_0 [a, b, c] = some (firstNZ [a, b, c]) := F71_eq _ (show ([_, _, _] : List Int).length < 1000000 by simp)
def circE (c : Int) : Int := if -200000 ≤ c ∧ c ≤ 200000 then 0 else 2
theorem F100_eq (c : Int) : F100_0 c = some (circE c) := by
  unfold F100_0 circE; rw [F73_eq, neg_200000]; simp only [Option.bind_some, F72_eq]
  by_cases a : -200000 ≤ c <;> by_cases b : c ≤ 200000 <;> simp [a, b]
theorem F21_circ (c : Int) : F21_0 c = some (circE c) := F21_eq c
theorem circE_ok {c : Int} (h : circE c = 0) : ab c ≤ 200000 := by
  unfold circE at h
  by_cases a : -200000 ≤ c ∧ c ≤ 200000
  · exact ab_le (by omega) (by omega)
  · rw [if_neg a] at h; cases h
theorem circE_of {c : Int} (h : ab c ≤ 200000) : circE c = 0 := by unfold circE; have := ab_ge c; rw [if_pos (by omega)]
section
variable {ns : List WaterNode} {cs : List WaterConduit} {cl : Int}
theorem F98_form (hd : (checkNet ns cs).2 = 0) (hf : FewN ns cs) (h : Form ns cs cl) : F98_0 ns cs = some (.inl (cl, if 0 ≤ cl then 0 else 12, (grown ns cs).1)) := by
  unfold F98_0; rw [F99_form hd hf h]
  simp only [Option.bind_some, F72_eq, f71_2]
  by_cases a : 0 ≤ cl <;> simp [a, firstNZ]
theorem F39_form (hd : (checkNet ns cs).2 = 0) (hf : FewN ns cs) (h : Form ns cs cl) : F39_0 ns cs = some (if 0 ≤ cl then (cl, 0) else (0, 12)) := by
  unfold F39_0; rw [F98_form hd hf h]
  by_cases a : 0 ≤ cl <;> simp [a]
theorem F40_form (hd : (checkNet ns cs).2 = 0) (hf : FewN ns cs) (h : Form ns cs cl) {c : Int} (hc : ab c ≤ 200000) (h0 : c = 0 ∨ 0 ≤ cl) : F40_0 c ns cs = some (.inl (stQ ns cs cl c, stH ns cs cl c)) := by
  unfold F40_0; rw [F99_form hd hf h]
  simp only [Option.bind_some, F100_eq, circE_of hc, F72_eq, f71_3, F101_eq h.ok h.closing.ok hc, bind2_some]
  by_cases a : c = 0
  · simp [a, firstNZ]
  · have : 0 ≤ cl := by rcases h0 with h0 | h0; exact absurd h0 a; exact h0
    simp [a, this, firstNZ]
theorem F42_form (hd : (checkNet ns cs).2 = 0) (hf : FewN ns cs) (h : Form ns cs cl) {k : Nat} {x : WaterConduit} (hk : cl = k) (hx : cs[k]? = some x) {c : Int} (hc : ab c ≤ 200000) : F42_0 c ns cs = some (gapF ns cs x c, 0) := by
  have hoff : ∀ b ∈ BL cs (grown ns cs).1, b.k ≠ k := by
    rcases h.closing.ok with g | ⟨j, y, g1, g2, g3⟩
    · omega
    · have : j = k := by omega
      subst this; exact g3
  unfold F42_0; rw [F98_form hd hf h]
  simp only [Option.bind_some, F100_eq, circE_of hc, if_pos (show 0 ≤ cl by omega), f71_2]
  rw [hk, F102_eq h.ok hx hoff hc]
  simp [firstNZ]
end
end Go.AI
end
