/-
  FEW, COPY, LOSS; THE PLAIN LAW OF WaterNets.
-/
import Derived.Test.YtfglifekecijjaaCPlNets
set_option linter.unusedVariables false
set_option linter.unusedSimpArgs false
namespace Go.AI
def bodyS {α : Type} (nm : α → ByteArray) (_ : Nat) (x : α) (_ : Unit) : Unit ⊕ (Unit ⊕ Unit) := if (nm x).size ≤ 20 then .inl () else .inr (.inr ())
theorem loopS_eq {α : Type} (nm : α → ByteArray) : ∀ (l : List α) (i : Nat), loopL (bodyS nm) (fun _ => .inl ()) l i () = if l.all (fun x => decide ((nm x).size ≤ 20)) = true then .inl () else .inr () := by
  intro l
  induction l with
  | nil => intro i; rfl
  | cons x l ih =>
    intro i
    rw [loopL]
    by_cases h : (nm x).size ≤ 20
    · have : bodyS nm i x () = .inl () := if_pos h
      rw [this]; simp only [ih, List.all_cons, h, decide_true, Bool.true_and]
    · have : bodyS nm i x () = .inr (.inr ()) := if_neg h
      rw [this]; simp [h]
theorem L15l0_eq (ns : List WaterNode) (cs : List WaterConduit) (hn : ns.length < 100000) : L15l0_0 ns cs 0 = some (if ns.all (fun x => decide (x.fName.size ≤ 20)) = true then .inl () else .inr ()) := by
  have h := iter_list0 (step := S15l0_0 ns cs) (fun i (_ : Unit) => (i : Int)) ns (bodyS fun x => x.fName) (fun _ => .inl ()) (fun _ _ => True)
    (fun a _ => by simp [S15l0_0]) (fun i x a hx hi _ => by
      refine ⟨?_, fun _ _ => trivial⟩
      have hle : ¬ ((ns.length : Int) ≤ (i : Int)) := by omega
      simp only [S15l0_0, if_neg hle, geti_at hx, bodyS]
      rw [aw_ok (by omega) (by omega)]
      by_cases h : x.fName.size ≤ 20
      · have h' : (x.fName.size : Int) ≤ 20 := by omega
        simp [h, h']
      · have h' : ¬ (x.fName.size : Int) ≤ 20 := by omega
        simp [h, h']) (by omega) () trivial
  rw [loopS_eq] at h
  exact h
theorem L15l1_eq (ns : List WaterNode) (cs : List WaterConduit) (hn : cs.length < 100000) : L15l1_0 ns cs 0 = some (if cs.all (fun x => decide (x.fName.size ≤ 20)) = true then .inl () else .inr ()) := by
  have h := iter_list0 (step := S15l1_0 ns cs) (fun i (_ : Unit) => (i : Int)) cs (bodyS fun x => x.fName) (fun _ => .inl ()) (fun _ _ => True)
    (fun a _ => by simp [S15l1_0]) (fun i x a hx hi _ => by
      refine ⟨?_, fun _ _ => trivial⟩
      have hle : ¬ ((cs.length : Int) ≤ (i : Int)) := by omega
      simp only [S15l1_0, if_neg hle, geti_at hx, bodyS]
      rw [aw_ok (by omega) (by omega)]
      by_cases h : x.fName.size ≤ 20
      · have h' : (x.fName.size : Int) ≤ 20 := by omega
        simp [h, h']
      · have h' : ¬ (x.fName.size : Int) ≤ 20 := by omega
        simp [h, h']) (by omega) () trivial
  rw [loopS_eq] at h
  exact h
structure FewN (ns : List WaterNode) (cs : List WaterConduit) : Prop where
  n : ns.length ≤ 12
  c : cs.length ≤ 16
  nn : ∀ x ∈ ns, x.fName.size ≤ 20
  cn : ∀ x ∈ cs, x.fName.size ≤ 20
theorem F15_spec (ns : List WaterNode) (cs : List WaterConduit) : F15_0 ns cs = some false ∨ (F15_0 ns cs = some true ∧ FewN ns cs) := by
  unfold F15_0
  by_cases a : ns.length ≤ 12
  · by_cases b : cs.length ≤ 16
    · rw [if_pos (by omega), if_pos (by omega), L15l0_eq ns cs (by omega), L15l1_eq ns cs (by omega)]
      by_cases c : ns.all (fun x => decide (x.fName.size ≤ 20)) = true
      · by_cases d : cs.all (fun x => decide (x.fName.size ≤ 20)) = true
        · right
          refine ⟨by simp [c, d], a, b, fun x hx => ?_, fun x hx => ?_⟩
          · simpa using List.all_eq_true.1 c x hx
          · simpa using List.all_eq_true.1 d x hx
        · left; simp [c, d]
      · left; simp [c]
    · left; rw [if_pos (by omega), if_neg (by omega)]
  · left; rw [if_neg (by omega)]
theorem FewN.names {ns : List WaterNode} {cs : List WaterConduit} (h : FewN ns cs) : NamesN ns := fun x hx => by have := h.nn x hx; omega
theorem FewN.cnames {ns : List WaterNode} {cs : List WaterConduit} (h : FewN ns cs) : NamesC cs := fun x hx => by have := h.cn x hx; omega
theorem F17_eq (ns : List WaterNode) (cs : List WaterConduit) (h : FewN ns cs) : F17_0 ns cs = some () := by
  have h1 := h.n; have h2 := h.c
  unfold F17_0; rw [room_le (by omega), room_le (by omega)]
theorem F19_few {ns : List WaterNode} {cs : List WaterConduit} (h : FewN ns cs) : F19_0 ns cs = some (checkNet ns cs) :=
  F19_eq ns cs (by have := h.n; omega) (by have := h.c; omega) h.names h.cnames
theorem F16_few {ns : List WaterNode} {cs : List WaterConduit} (h : FewN ns cs) : F16_0 ns cs = some (checkNet ns cs) :=
  F16_eq ns cs (by have := h.n; omega) (by have := h.c; omega) h.names h.cnames
theorem F21_eq (q : Int) : F21_0 q = some (if -200000 ≤ q ∧ q ≤ 200000 then 0 else 2) := by
  unfold F21_0; rw [F20_eq]
  by_cases a : -200000 ≤ q <;> by_cases b : q ≤ 200000 <;> simp [a, b]
noncomputable def lossV (c q : Int) : Int := aw .i64 (aw .i64 (c * q) * max q (aw .i64 (0 - q)))
theorem F77_eq (c q : Int) : F77_0 c q = some (lossV c q) := rfl
theorem F22_eq (c q : Int) : F22_0 c q = some (lossV c q) := rfl
/-- **THE PLAIN LAW OF WaterNets** -/
theorem plainWaterNets (r q : Int) (ns : List WaterNode) (cs : List WaterConduit) : F3_0 r q ns cs = some true := by
  unfold F3_0
  rcases F15_spec ns cs with h | ⟨h, hf⟩
  · rw [h]; rfl
  · rw [h, F17_eq ns cs hf, F16_few hf, F19_few hf]
    simp only [Option.bind_some, if_true]
    generalize checkNet ns cs = k
    obtain ⟨k1, k2⟩ := k
    unfold F18_0
    simp only [bind2_some, F20_eq, F21_eq, F74_eq, F73_eq, F77_eq, F22_eq, neg_200000, if_true, Option.bind_some]
    by_cases a : 0 ≤ r <;> by_cases b : r ≤ 1000 <;> by_cases c : -200000 ≤ q <;> by_cases d : q ≤ 200000 <;> simp [a, b, c, d]
end Go.AI
