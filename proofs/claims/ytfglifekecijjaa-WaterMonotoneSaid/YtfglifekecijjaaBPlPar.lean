/-
  ERRORS OF COEFFICIENTS AND DROPS; PARALLEL CONDUITS; THE DROP FOR A FLOW; THE PLAIN LAW OF WaterMonotone.
-/
import Derived.Test.YtfglifekecijjaaBPlThr
set_option linter.unusedVariables false
set_option linter.unusedSimpArgs false
namespace Go.AI
def coB (c : Int) : Bool := decide (1 ≤ c) && decide (c ≤ 1000)
theorem coB_iff (c : Int) : coB c = true ↔ Co c := by
  unfold coB
  constructor
  · intro h; simp at h; exact ⟨h.1, h.2⟩
  · intro h; simp [h.ge, h.le]
def drB (d : Int) : Bool := decide (0 ≤ d) && decide (d ≤ 1000000000)
theorem drB_iff (d : Int) : drB d = true ↔ Dr d := by
  unfold drB
  constructor
  · intro h; simp at h; exact ⟨h.1, h.2⟩
  · intro h; simp [h.ge, h.le]
def resE (l : List Int) : Int := if l.length = 0 then 10 else if 8 < l.length then 8 else if l.all coB = true then 0 else 2
theorem resE_ok {l : List Int} (h : resE l = 0) : 1 ≤ l.length ∧ l.length ≤ 8 ∧ ∀ c ∈ l, Co c := by
  unfold resE at h
  by_cases a : l.length = 0
  · rw [if_pos a] at h; cases h
  · rw [if_neg a] at h
    by_cases b : 8 < l.length
    · rw [if_pos b] at h; cases h
    · rw [if_neg b] at h
      by_cases c : l.all coB = true
      · exact ⟨by omega, by omega, fun x hx => (coB_iff x).1 (List.all_eq_true.1 c x hx)⟩
      · rw [if_neg c] at h; cases h
theorem F44_eq (c : Int) : F44_0 c = some (if coB c = true then 0 else 2) := by
  unfold F44_0; rw [F20_eq]; unfold coB
  by_cases a : 1 ≤ c <;> by_cases b : c ≤ 1000 <;> simp [a, b]
theorem F24_eq (d : Int) : F24_0 d = some (if drB d = true then 0 else 2) := by
  unfold F24_0; rw [F20_eq]; unfold drB
  by_cases a : 0 ≤ d <;> by_cases b : d ≤ 1000000000 <;> simp [a, b]
theorem F81_eq (d : Int) : F81_0 d = some (if drB d = true then 0 else 2) := by
  unfold F81_0; rw [F74_eq]; simp only [F72_eq, Option.bind_some]; unfold drB
  by_cases a : 0 ≤ d <;> by_cases b : d ≤ 1000000000 <;> simp [a, b]
theorem F23_eq (l : List Int) : F23_0 l = some (resE l) := by
  unfold F23_0 resE
  by_cases a : l.length = 0
  · simp [a]
  · have a' : ¬ (l.length : Int) = 0 := by omega
    by_cases b : l.length ≤ 8
    · have b' : (l.length : Int) ≤ 8 := by omega
      have b2 : ¬ 8 < l.length := by omega
      simp only [a, a', b', b2, if_true, if_false]
      have h := iter_list0 (step := S23l0_0 l) (fun i (_ : Unit) => (i : Int)) l (fun _ c _ => if coB c = true then .inl () else .inr (.inr 2)) (fun _ => .inl ()) (fun _ _ => True)
        (fun a _ => by simp [S23l0_0]) (fun i c a hx hi _ => by
          refine ⟨?_, fun _ _ => trivial⟩
          have hle : ¬ ((l.length : Int) ≤ (i : Int)) := by omega
          simp only [S23l0_0, if_neg hle, geti_at hx, F44_eq, Option.bind_some]
          rw [aw_ok (by omega) (by omega)]
          cases coB c <;> simp) (by omega) () trivial
      have key : ∀ (l : List Int) (i : Nat), (loopL (fun (_ : Nat) (c : Int) (_ : Unit) => if coB c = true then (.inl () : Unit ⊕ (Unit ⊕ Int)) else .inr (.inr 2)) (fun _ => .inl ()) l i ()) = (if l.all coB = true then .inl () else .inr 2) := by
        intro l
        induction l with
        | nil => intro i; rfl
        | cons x l ih =>
          intro i
          rw [loopL]
          cases hx : coB x
          · simp [hx]
          · simp only [if_true, ih, List.all_cons, hx, Bool.true_and]
      rw [key] at h
      unfold L23l0_0
      rw [show ((0 : Int)) = ((0 : Nat) : Int) from rfl, h]
      cases l.all coB <;> simp
    · have b' : ¬ (l.length : Int) ≤ 8 := by omega
      have b2 : 8 < l.length := by omega
      simp [a, a', b', b2]
theorem F133_eq (c : Int) : F133_0 c = some (!coB c) := by unfold F133_0; rw [F74_eq]; rfl
theorem F119_eq (l : List Int) (hl : l.length < 100000) : F119_0 l = some (!l.all coB) := by
  have h := iter_list0 (step := S149l0_0 (l.length : Int) l) (fun i (_ : Unit) => (i : Int)) l (fun i c _ => if coB c = true then .inl () else .inr (.inr (i : Int))) (fun _ => .inl ()) (fun _ _ => True)
    (fun a _ => by simp [S149l0_0]) (fun i c a hx hi _ => by
      refine ⟨?_, fun _ _ => trivial⟩
      have hle : ¬ ((l.length : Int) ≤ (i : Int)) := by omega
      simp only [S149l0_0, if_neg hle, geti_at hx, F133_eq, Option.bind_some]
      rw [aw_ok (by omega) (by omega)]
      cases coB c <;> simp) (by omega) () trivial
  have key : ∀ (l : List Int) (i : Nat), ((loopL (fun (i : Nat) (c : Int) (_ : Unit) => if coB c = true then (.inl () : Unit ⊕ (Unit ⊕ Int)) else .inr (.inr (i : Int))) (fun _ => .inl ()) l i ()) = .inl () ∧ l.all coB = true) ∨
      ∃ k : Nat, (loopL (fun (i : Nat) (c : Int) (_ : Unit) => if coB c = true then (.inl () : Unit ⊕ (Unit ⊕ Int)) else .inr (.inr (i : Int))) (fun _ => .inl ()) l i ()) = .inr (k : Int) ∧ l.all coB = false := by
    intro l
    induction l with
    | nil => intro i; exact .inl ⟨rfl, rfl⟩
    | cons x l ih =>
      intro i
      rw [loopL]
      cases hx : coB x
      · right; exact ⟨i, by simp, by simp [hx]⟩
      · simp only [if_true, List.all_cons, hx, Bool.true_and]; exact ih (i + 1)
  unfold F119_0 F149_0 L149l0_0
  rw [show ((0 : Int)) = ((0 : Nat) : Int) from rfl, h]
  rcases key l 0 with ⟨h1, h2⟩ | ⟨k, h1, h2⟩
  · rw [h1, h2]; simp
  · rw [h1, h2]; simp
theorem F80_eq (l : List Int) (hl : l.length < 100000) : F80_0 l = some (resE l) := by
  unfold F80_0 resE
  simp only [F119_eq l hl, F72_eq, F71_eq _ (show ([_, _, _] : List Int).length < 1000000 by simp), Option.bind_some]
  by_cases a : l.length = 0
  · have a' : (l.length : Int) ≤ 0 := by omega
    simp [a, a', firstNZ]
  · have a' : ¬ (l.length : Int) ≤ 0 := by omega
    by_cases b : 8 < l.length
    · have b' : ¬ (l.length : Int) ≤ 8 := by omega
      simp [a, a', b, b', firstNZ]
    · have b' : (l.length : Int) ≤ 8 := by omega
      cases hc : l.all coB <;> simp [a, a', b, b', firstNZ]
theorem F26_eq (l : List Int) (hl : l.length < 100000) : F26_0 l = some () := by unfold F26_0; rw [room_le (by omega)]
theorem F25_ok {d : Int} {l : List Int} (hd : Dr d) (hl : resE l = 0) : F25_0 d l = some ((par d l).1, (par d l).2, 0) := by
  obtain ⟨h1, h2, h3⟩ := resE_ok hl
  unfold F25_0
  simp only [F80_eq l (by omega), F81_eq, (drB_iff d).2 hd, hl, if_true, Option.bind_some, F71_eq _ (show ([_, _] : List Int).length < 1000000 by simp), firstNZ, F82_eq hd l (by omega) h3]
  generalize par d l = t
  obtain ⟨a, b⟩ := t
  rfl
theorem resE_one {c : Int} (hc : Co c) : resE [c] = 0 := by simp [resE, (coB_iff c).2 hc]
theorem F27_ok {c d : Int} (hc : Co c) (hd : Dr d) : F27_0 c d = some ((thr c d).1, (thr c d).2, 0) := by
  unfold F27_0
  simp only [F80_eq [c] (by simp), F81_eq, (drB_iff d).2 hd, resE_one hc, if_true, Option.bind_some, F71_eq _ (show ([_, _] : List Int).length < 1000000 by simp), firstNZ, (F83_eq hc hd).1]
  generalize thr c d = t
  obtain ⟨a, b⟩ := t
  rfl
/-! the drop for a flow -/
theorem F85_eq {d : Int} (hd : Dr d) {l : List Int} (hl : l.length ≤ 1000) (h : ∀ c ∈ l, Co c) (q : Int) : F85_0 d l q = some (decide (q ≤ (par d l).2)) := by
  unfold F85_0; rw [F82_eq hd l hl h]; rfl
theorem F86_eq {d : Int} (hd : Dr d) {l : List Int} (hl : l.length ≤ 1000) (h : ∀ c ∈ l, Co c) (q : Int) : F86_0 d l q = some (decide (q ≤ (par d l).1)) := by
  unfold F86_0; rw [F82_eq hd l hl h]; rfl
theorem F84_hi {lo q : Int} {l : List Int} (h0 : 0 ≤ lo) (h1 : lo ≤ 1000000001) (hl : l.length ≤ 1000) (h : ∀ c ∈ l, Co c) :
    ∃ r, F84_1 lo 1000000001 l q = some r ∧ lo ≤ r ∧ r ≤ 1000000001 ∧ (r ≤ 1000000000 → q ≤ (par r l).2) ∧ (lo < r → (par (r - 1) l).2 < q) := by
  obtain ⟨r, hr, a1, a2, a3, a4⟩ := least_iter (step := S84l0_1 l q) (p := fun d => decide (q ≤ (par d l).2)) (lo := lo) (hi := 1000000001) (by omega) (by omega) h1
    (fun a b h => by simp [S84l0_1, h]) (fun a b b1 b2 b3 => by
      simp only [S84l0_1, if_neg (show ¬ b ≤ a by omega)]
      rw [half_mid (by omega) (by omega) b2]
      have hm : (b - a) / 2 ≤ b - a := by omega
      have hm0 : 0 ≤ (b - a) / 2 := by omega
      have hm2 : a + (b - a) / 2 < b := by omega
      rw [F85_eq ⟨by omega, by omega⟩ hl h]
      simp only [Option.bind_some]
      rw [aw_ok (n := a + (b - a) / 2 + 1) (by omega) (by omega)]
      by_cases hp : q ≤ (par (a + (b - a) / 2) l).2 <;> simp [hp])
  refine ⟨r, ?_, a1, a2, fun h => by simpa using a3 (by omega), fun h => by simpa using a4 h⟩
  unfold F84_1 L84l0_1; rw [hr]; rfl
theorem F84_lo {lo q : Int} {l : List Int} (h0 : 0 ≤ lo) (h1 : lo ≤ 1000000001) (hl : l.length ≤ 1000) (h : ∀ c ∈ l, Co c) :
    ∃ r, F84_2 lo 1000000001 l q = some r ∧ lo ≤ r ∧ r ≤ 1000000001 ∧ (r ≤ 1000000000 → q ≤ (par r l).1) ∧ (lo < r → (par (r - 1) l).1 < q) := by
  obtain ⟨r, hr, a1, a2, a3, a4⟩ := least_iter (step := S84l0_2 l q) (p := fun d => decide (q ≤ (par d l).1)) (lo := lo) (hi := 1000000001) (by omega) (by omega) h1
    (fun a b h => by simp [S84l0_2, h]) (fun a b b1 b2 b3 => by
      simp only [S84l0_2, if_neg (show ¬ b ≤ a by omega)]
      rw [half_mid (by omega) (by omega) b2]
      have hm : (b - a) / 2 ≤ b - a := by omega
      have hm0 : 0 ≤ (b - a) / 2 := by omega
      have hm2 : a + (b - a) / 2 < b := by omega
      rw [F86_eq ⟨by omega, by omega⟩ hl h]
      simp only [Option.bind_some]
      rw [aw_ok (n := a + (b - a) / 2 + 1) (by omega) (by omega)]
      by_cases hp : q ≤ (par (a + (b - a) / 2) l).1 <;> simp [hp])
  refine ⟨r, ?_, a1, a2, fun h => by simpa using a3 (by omega), fun h => by simpa using a4 h⟩
  unfold F84_2 L84l0_2; rw [hr]; rfl
/-- the drop for a flow: the program's answer, and what it means -/
theorem F28_ok {q : Int} {l : List Int} (hq : 0 ≤ q ∧ q ≤ 10000) (hl : resE l = 0) :
    ∃ lo hi, 0 ≤ lo ∧ lo ≤ hi ∧ hi ≤ 1000000001 ∧ (lo ≤ 1000000000 → q ≤ (par lo l).2) ∧ (0 < lo → (par (lo - 1) l).2 < q) ∧ (hi ≤ 1000000000 → q ≤ (par hi l).1) ∧ (lo < hi → (par (hi - 1) l).1 < q) ∧
      F28_0 q l = some (if hi ≤ 1000000000 then (lo, hi, 0) else (0, 0, 12)) := by
  obtain ⟨h1, h2, h3⟩ := resE_ok hl
  obtain ⟨lo, e1, a1, a2, a3, a4⟩ := F84_hi (q := q) (l := l) (lo := 0) (by omega) (by omega) (by omega) h3
  obtain ⟨hi, e2, b1, b2, b3, b4⟩ := F84_lo (q := q) (l := l) (lo := lo) (by omega) (by omega) (by omega) h3
  refine ⟨lo, hi, a1, b1, b2, a3, a4, b3, b4, ?_⟩
  unfold F28_0
  simp only [F80_eq l (by omega), F74_eq, F72_eq, hl, hq.1, hq.2, decide_true, Bool.and_self, if_true, Option.bind_some, F71_eq _ (show ([_, _] : List Int).length < 1000000 by simp), firstNZ, e1, e2]
  by_cases h : hi ≤ 1000000000 <;> simp [h]
/-! the loop of the law -/
theorem L4_eq {q : Int} {l : List Int} {d d' : Int} (hd : Dr d) (hl : resE l = 0) : L4l0_0 q l d d' 0 = some (.inl ()) := by
  obtain ⟨h1, h2, h3⟩ := resE_ok hl
  have h := iter_list0 (step := S4l0_0 q l d d') (fun i (_ : Unit) => (i : Int)) l (fun _ _ _ => (.inl () : Unit ⊕ (Unit ⊕ Unit))) (fun _ => .inl ()) (fun _ _ => True)
    (fun a _ => by simp [S4l0_0]) (fun i c a hx hi _ => by
      refine ⟨?_, fun _ _ => trivial⟩
      have hle : ¬ ((l.length : Int) ≤ (i : Int)) := by omega
      have hc := h3 c (List.mem_of_getElem? hx)
      have ht := (F83_eq hc hd).2
      obtain ⟨k1, k2, k3, k4⟩ := thr_facts hc hd ht
      have k5 := ht.hi1
      have k6 := ht.ge
      have hc1 := hc.ge
      have hc2 := hc.le
      simp only [S4l0_0, if_neg hle, geti_at hx, F27_ok hc hd, F20_eq, bind3_some, Option.bind_some]
      obtain ⟨m1, m2, m3, m4⟩ := csq_bound (c := c) (a := (thr c d).1) (by omega) hc2 k1 (by omega)
      obtain ⟨n1, n2, n3, n4⟩ := csq_bound (c := c) (a := (thr c d).2) (by omega) hc2 (by omega) (by omega)
      rw [aw_ok (n := (i : Int) + 1) (by omega) (by omega), aw_ok (n := c * (thr c d).1) (by omega) (by omega), aw_ok (n := c * (thr c d).1 * (thr c d).1) (by omega) (by omega),
        aw_ok (n := c * (thr c d).2) (by omega) (by omega), aw_ok (n := c * (thr c d).2 * (thr c d).2) (by omega) (by omega)]
      simp [k1, k2, k4, k6, show (thr c d).2 ≤ 40000 by omega]) (by omega) () trivial
  have key : ∀ (l : List Int) (i : Nat), (loopL (fun (_ : Nat) (_ : Int) (_ : Unit) => (.inl () : Unit ⊕ (Unit ⊕ Unit))) (fun _ => .inl ()) l i ()) = .inl () := by
    intro l
    induction l with
    | nil => intro i; rfl
    | cons x l ih => intro i; rw [loopL]; simp only [ih]
  rw [key] at h
  exact h
/-- **THE PLAIN LAW OF WaterMonotone** -/
theorem plainWaterMonotone (d0 d1 q : Int) (l : List Int) : F4_0 d0 d1 q l = some true := by
  unfold F4_0
  rw [F23_eq]
  simp only [Option.bind_some, F24_eq, F20_eq]
  by_cases hl : resE l = 0
  · obtain ⟨h1, h2, h3⟩ := resE_ok hl
    cases e0 : drB d0
    · simp [hl]
    · cases e1 : drB d1
      · simp [hl]
      · by_cases hle : d0 ≤ d1
        · by_cases hq : 0 ≤ q ∧ q ≤ 10000
          · have hd0 := (drB_iff d0).1 e0
            have hd1 := (drB_iff d1).1 e1
            obtain ⟨p1, p2, p3, p4⟩ := par_facts hd0 l h3
            obtain ⟨m1, m2⟩ := par_mono hd0 hd1 hle l h3
            obtain ⟨c, l', rfl⟩ : ∃ c l', l = c :: l' := by
              cases l with
              | nil => simp at h1
              | cons c l' => exact ⟨c, l', rfl⟩
            have hc := h3 c (.head _)
            have h26 : F26_1 1 (c :: l').length (c :: l') = some [c] := by
              unfold F26_1 partL
              rw [if_pos (by simp)]; simp [room]
            have hinx : inx 1 ((c :: l').length + 1) = some 1 := inx_nat (i := 1) (by simp)
            obtain ⟨q1, q2, q3, q4⟩ := par_facts hd0 l' (fun x hx => h3 x (.tail _ hx))
            have hpc : par d0 [c] = thr c d0 := by simp [par]
            have hsum : par d0 (c :: l') = ((thr c d0).1 + (par d0 l').1, (thr c d0).2 + (par d0 l').2) := rfl
            obtain ⟨lo, hi, a1, a2, a3, a4, a5, a6, a7, e28⟩ := F28_ok (q := q) hq hl
            simp only [hl, hle, hq.1, hq.2, if_true, decide_true, Bool.and_self, F26_eq _ (show (c :: l').length < 100000 by omega), Option.bind_some, F25_ok hd0 hl, F25_ok hd1 hl, bind3_some, hinx, h26,
              F25_ok hd0 (resE_one hc), hpc, L4_eq hd0 hl, e28]
            have g1 : (thr c d0).1 ≤ (par d0 (c :: l')).1 := by rw [hsum]; simp only; omega
            have g2 : (thr c d0).2 ≤ (par d0 (c :: l')).2 := by rw [hsum]; simp only; omega
            rw [aw_ok (n := (par d0 (c :: l')).2 - (par d0 (c :: l')).1) (by omega) (by omega)]
            simp only [p1, p2, m1, m2, g1, g2, p3, show 0 ≤ (par d0 (c :: l')).2 - (par d0 (c :: l')).1 by omega, decide_true, Bool.and_self, if_true]
            by_cases hhi : hi ≤ 1000000000
            · have dlo : Dr lo := ⟨a1, by omega⟩
              have dhi : Dr hi := ⟨by omega, hhi⟩
              simp only [hhi, if_true, bind3_some, F20_eq, a1, a2, decide_true, Bool.and_self, Option.bind_some, F25_ok dlo hl, F25_ok dhi hl, a4 (by omega), a6 hhi]
            · simp only [hhi, if_false, bind3_some]
              rfl
          · by_cases x1 : 0 ≤ q
            · have x2 : ¬ q ≤ 10000 := fun h => hq ⟨x1, h⟩
              simp [hl, hle, x1, x2]
            · simp [hl, hle, x1]
        · simp [hl, hle]
  · simp [hl]
end Go.AI
