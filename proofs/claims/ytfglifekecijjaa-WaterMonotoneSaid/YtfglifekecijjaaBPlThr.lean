/-
  THE FLOW THROUGH A CONDUIT, THROUGH PARALLEL ONES; THE DROP FOR A FLOW.
-/
import Derived.Test.YtfglifekecijjaaBPlFew
set_option linter.unusedVariables false
set_option linter.unusedSimpArgs false
namespace Go.AI
theorem sq_le {a b : Int} (h0 : 0 ≤ a) (h : a ≤ b) : a * a ≤ b * b := Int.mul_le_mul h h h0 (by omega)
theorem csq_le {c a b : Int} (hc : 0 ≤ c) (h0 : 0 ≤ a) (h : a ≤ b) : c * a * a ≤ c * b * b := by
  rw [Int.mul_assoc, Int.mul_assoc]; exact Int.mul_le_mul_of_nonneg_left (sq_le h0 h) hc
theorem csq_bound {c a : Int} (hc : 0 ≤ c) (hc2 : c ≤ 1000) (h0 : 0 ≤ a) (h : a ≤ 40000) : 0 ≤ c * a * a ∧ c * a * a ≤ 1600000000000 ∧ 0 ≤ c * a ∧ c * a ≤ 40000000 := by
  have h1 : 0 ≤ c * a := Int.mul_nonneg hc h0
  have h2 : c * a ≤ 1000 * 40000 := Int.mul_le_mul hc2 h h0 (by omega)
  have h3 : 0 ≤ c * a * a := Int.mul_nonneg h1 h0
  have h4 : c * a * a ≤ 1000 * 40000 * 40000 := Int.mul_le_mul h2 h h0 (by omega)
  exact ⟨h3, by omega, h1, by omega⟩
/-- lo and hi are the flow through a conduit of coefficient c at the drop d -/
structure Thr (c d lo hi : Int) : Prop where
  hi0 : 0 ≤ hi
  hi1 : hi ≤ 31623
  ge : d ≤ c * hi * hi
  lt : 0 < hi → c * (hi - 1) * (hi - 1) < d
  lo : lo = if c * hi * hi ≤ d then hi else hi - 1
theorem F134_eq {c d q : Int} (hc : 1 ≤ c) (hc2 : c ≤ 1000) (h0 : 0 ≤ q) (h1 : q ≤ 40000) : F134_0 q c d = some (decide (d ≤ c * q * q)) := by
  obtain ⟨h2, h3, h4, h5⟩ := csq_bound (c := c) (a := q) (by omega) hc2 h0 h1
  unfold F134_0
  rw [aw_ok (n := c * q) (by omega) (by omega), aw_ok (by omega) (by omega)]
theorem F83_ok {c d : Int} (hc : 1 ≤ c) (hc2 : c ≤ 1000) (hd : 0 ≤ d) (hd2 : d ≤ 1000000000) : ∃ lo hi, F83_0 c d = some (lo, hi) ∧ Thr c d lo hi := by
  obtain ⟨r, hr, h1, h2, h3, h4⟩ := least_iter (step := S84l0_0 c d) (p := fun q => decide (d ≤ c * q * q)) (lo := 0) (hi := 31623) (by omega) (by omega) (by omega)
    (fun a b h => by simp [S84l0_0, h]) (fun a b h1 h2 h3 => by
      simp only [S84l0_0, if_neg (show ¬ b ≤ a by omega)]
      rw [half_mid (by omega) (by omega) h2]
      have hm : (b - a) / 2 ≤ b - a := by omega
      have hm0 : 0 ≤ (b - a) / 2 := by omega
      have hm2 : a + (b - a) / 2 < b := by omega
      rw [F134_eq hc hc2 (by omega) (by omega)]
      simp only [Option.bind_some]
      rw [aw_ok (n := a + (b - a) / 2 + 1) (by omega) (by omega)]
      by_cases h : d ≤ c * (a + (b - a) / 2) * (a + (b - a) / 2) <;> simp [h])
  have hbig : d ≤ c * 31623 * 31623 := by
    have : (1 : Int) * 31623 * 31623 ≤ c * 31623 * 31623 := by omega
    omega
  have hge : d ≤ c * r * r := by
    by_cases h : r < 31623
    · simpa using h3 h
    · have : r = 31623 := by omega
      rw [this]; exact hbig
  obtain ⟨k1, k2, k3, k4⟩ := csq_bound (c := c) (a := r) (by omega) hc2 h1 (by omega)
  refine ⟨if c * r * r ≤ d then r else r - 1, r, ?_, h1, h2, hge, fun h => ?_, rfl⟩
  · unfold F83_0 F84_0 L84l0_0
    rw [hr]
    simp only [Option.bind_some]
    rw [aw_ok (n := c * r) (by omega) (by omega), aw_ok (n := c * r * r) (by omega) (by omega), aw_ok (n := r - 1) (by omega) (by omega)]
    by_cases h : c * r * r ≤ d <;> simp [h]
  · have := h4 h; simpa using this
noncomputable def thr (c d : Int) : Int × Int := (F83_0 c d).getD (0, 0)
structure Co (c : Int) : Prop where
  ge : 1 ≤ c
  le : c ≤ 1000
structure Dr (d : Int) : Prop where
  ge : 0 ≤ d
  le : d ≤ 1000000000
theorem F83_eq {c d : Int} (hc : Co c) (hd : Dr d) : F83_0 c d = some (thr c d) ∧ Thr c d (thr c d).1 (thr c d).2 := by
  obtain ⟨lo, hi, h, ht⟩ := F83_ok hc.ge hc.le hd.ge hd.le
  unfold thr; rw [h]; exact ⟨rfl, ht⟩
theorem thr_le {c d lo hi lo' hi' : Int} {d' : Int} (hc : Co c) (h : Thr c d lo hi) (h' : Thr c d' lo' hi') (hd : d ≤ d') : lo ≤ lo' ∧ hi ≤ hi' := by
  have hc0 : 0 ≤ c := by have := hc.ge; omega
  have h1 : hi ≤ hi' := by
    by_cases hlt : hi' < hi
    · have := csq_le hc0 h'.hi0 (show hi' ≤ hi - 1 by omega)
      have := h.lt (by have := h'.hi0; omega)
      have := h'.ge
      omega
    · omega
  refine ⟨?_, h1⟩
  rw [h.lo, h'.lo]
  by_cases a : c * hi * hi ≤ d
  · by_cases b : c * hi' * hi' ≤ d'
    · simp [a, b, h1]
    · have hne : hi ≠ hi' := fun he => by subst he; have := h'.ge; omega
      simp only [a, b, if_true, if_false]; omega
  · by_cases b : c * hi' * hi' ≤ d'
    · simp only [a, b, if_true, if_false]; omega
    · simp only [a, b, if_false]; omega
theorem thr_facts {c d lo hi : Int} (hc : Co c) (hd : Dr d) (h : Thr c d lo hi) : 0 ≤ lo ∧ lo ≤ hi ∧ hi - lo ≤ 1 ∧ c * lo * lo ≤ d := by
  have hc0 : 0 ≤ c := by have := hc.ge; omega
  have h0 := h.hi0
  by_cases a : c * hi * hi ≤ d
  · have e : lo = hi := by rw [h.lo, if_pos a]
    subst e; exact ⟨h0, Int.le_refl _, by omega, a⟩
  · have e : lo = hi - 1 := by rw [h.lo, if_neg a]
    have h1 : 0 < hi := by
      rcases Int.lt_or_eq_of_le h0 with h1 | h1
      · exact h1
      · rw [← h1] at a; have := hd.ge; simp at a; omega
    have h5 := h.lt h1
    subst e; exact ⟨by omega, by omega, by omega, by omega⟩
/-! parallel conduits -/
noncomputable def par (d : Int) : List Int → Int × Int
  | [] => (0, 0)
  | c :: l => ((thr c d).1 + (par d l).1, (thr c d).2 + (par d l).2)
theorem par_facts {d : Int} (hd : Dr d) : ∀ (l : List Int), (∀ c ∈ l, Co c) → 0 ≤ (par d l).1 ∧ (par d l).1 ≤ (par d l).2 ∧ (par d l).2 - (par d l).1 ≤ l.length ∧ (par d l).2 ≤ 31623 * l.length := by
  intro l
  induction l with
  | nil => intro _; simp [par]
  | cons c l ih =>
    intro h
    have hc := h c (.head _)
    obtain ⟨h1, h2, h3, h4⟩ := ih fun x hx => h x (.tail _ hx)
    have ht := (F83_eq hc hd).2
    obtain ⟨k1, k2, k3, _⟩ := thr_facts hc hd ht
    have := ht.hi1
    simp only [par, List.length_cons]
    omega
theorem par_mono {d d' : Int} (hd : Dr d) (hd' : Dr d') (hle : d ≤ d') : ∀ (l : List Int), (∀ c ∈ l, Co c) → (par d l).1 ≤ (par d' l).1 ∧ (par d l).2 ≤ (par d' l).2 := by
  intro l
  induction l with
  | nil => intro _; simp [par]
  | cons c l ih =>
    intro h
    have hc := h c (.head _)
    obtain ⟨h1, h2⟩ := ih fun x hx => h x (.tail _ hx)
    obtain ⟨k1, k2⟩ := thr_le hc (F83_eq hc hd).2 (F83_eq hc hd').2 hle
    simp only [par]
    omega
theorem F82_eq {d : Int} (hd : Dr d) (l : List Int) (hl : l.length ≤ 1000) (h : ∀ c ∈ l, Co c) : F82_0 d l = some (par d l) := by
  have h1 := iter_list0 (step := S82l0_0 d (l.length : Int) l) (fun i (a : Int × Int) => ((i : Int), a.1, a.2)) l (fun _ c a => .inl (a.1 + (thr c d).1, a.2 + (thr c d).2)) (fun a => (a.1, a.2))
    (fun i a => 0 ≤ a.1 ∧ a.1 ≤ 31623 * i ∧ 0 ≤ a.2 ∧ a.2 ≤ 31623 * i)
    (fun a _ => by simp [S82l0_0]) (fun i c a hx hi ha => by
      have hle : ¬ ((l.length : Int) ≤ (i : Int)) := by omega
      have hc := h c (List.mem_of_getElem? hx)
      have ht := (F83_eq hc hd).2
      obtain ⟨k1, k2, k3, _⟩ := thr_facts hc hd ht
      have k4 := ht.hi1
      simp only [S82l0_0, if_neg hle, geti_at hx, (F83_eq hc hd).1]
      clear ht
      generalize thr c d = t at k1 k2 k3 k4
      obtain ⟨t1, t2⟩ := t
      simp only at k1 k2 k3 k4
      simp only [bind2_some]
      rw [aw_ok (n := (i : Int) + 1) (by omega) (by omega), aw_ok (n := a.1 + t1) (by omega) (by omega), aw_ok (n := a.2 + t2) (by omega) (by omega)]
      refine ⟨by simp, fun a' h => ?_⟩
      cases h
      simp only
      omega) (by omega) (0, 0) (by simp)
  have key : ∀ (l : List Int) (i : Nat) (a : Int × Int), loopL (fun (_ : Nat) (c : Int) (a : Int × Int) => (.inl (a.1 + (thr c d).1, a.2 + (thr c d).2) : (Int × Int) ⊕ (Int × Int))) (fun a => (a.1, a.2)) l i a = (a.1 + (par d l).1, a.2 + (par d l).2) := by
    intro l
    induction l with
    | nil => intro i a; simp [loopL, par]
    | cons c l ih =>
      intro i a
      rw [loopL]
      simp only [ih, par]
      exact Prod.ext (by simp; omega) (by simp; omega)
  rw [key] at h1
  unfold F82_0 L82l0_0
  simp only [Int.zero_add] at h1
  have h2 : iter (S82l0_0 d (l.length : Int) l) 1000000 (0, 0, 0) = some (par d l) := h1
  rw [h2]
  rfl
end Go.AI
