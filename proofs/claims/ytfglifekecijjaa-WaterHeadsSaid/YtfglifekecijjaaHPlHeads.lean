import Derived.Test.YtfglifekecijjaaHPlGap
section
/-
  THE CLOSING CONDUIT; WHAT THE PROGRAM's FUNCTIONS OF A NET OF A RIGHT FORM RETURN.
-/
set_option linter.unusedVariables false
set_option linter.unusedSimpArgs false
namespace Go.AI
def Opens (bs : List Branch) (cs : List WaterConduit) (i : Nat) (P : Nat → Prop) : Prop := ∀ (k : Nat) (c : WaterConduit), cs[k]? = some c → c.fOpen = true → hasK bs ((i + k : Nat) : Int) = true ∨ P (i + k)
theorem close_loop {bs : List Branch} : ∀ (cs : List WaterConduit) (i : Nat) (a r : Int), loopL (bodyCl bs) (fun a => (.inl a : Int ⊕ Int)) cs i a = .inl r →
    (r = a ∧ Opens bs cs i fun _ => False) ∨ (a < 0 ∧ ∃ (k : Nat) (c : WaterConduit), r = ((i + k : Nat) : Int) ∧ cs[k]? = some c ∧ c.fOpen = true ∧ hasK bs ((i + k : Nat) : Int) = false ∧ Opens bs cs i fun j => j = i + k) := by
  intro cs
  induction cs with
  | nil => intro i a r h; cases h; left; exact ⟨rfl, fun k c h => by simp at h⟩
  | cons d cs ih =>
    intro i a r h
    rw [loopL] at h
    have hskip : (d.fOpen = true → hasK bs (i : Int) = true) → loopL (bodyCl bs) (fun a => (.inl a : Int ⊕ Int)) cs (i + 1) a = .inl r →
        (r = a ∧ Opens bs (d :: cs) i fun _ => False) ∨ (a < 0 ∧ ∃ (k : Nat) (c : WaterConduit), r = ((i + k : Nat) : Int) ∧ (d :: cs)[k]? = some c ∧ c.fOpen = true ∧ hasK bs ((i + k : Nat) : Int) = false ∧ Opens bs (d :: cs) i fun j => j = i + k) := by
      intro hd h
      rcases ih (i + 1) a r h with ⟨h1, h2⟩ | ⟨h1, k, c, h2, h3, h4, h5, h6⟩
      · left
        refine ⟨h1, fun k c hk ho => ?_⟩
        cases k with
        | zero => simp at hk; subst hk; left; simpa using hd ho
        | succ k => have := h2 k c (by simpa using hk) ho; rwa [show i + (k + 1) = i + 1 + k from by omega]
      · right
        refine ⟨h1, k + 1, c, by rw [h2]; congr 1; omega, by simpa using h3, h4, by rwa [show i + (k + 1) = i + 1 + k from by omega], fun j e hj ho => ?_⟩
        cases j with
        | zero => simp at hj; subst hj; left; simpa using hd ho
        | succ j =>
          rcases h6 j e (by simpa using hj) ho with g | g
          · left; rwa [show i + (j + 1) = i + 1 + j from by omega]
          · right; omega
    unfold bodyCl at h
    cases o : d.fOpen
    · rw [o] at h; simp only [Bool.false_eq_true, if_false] at h
      exact hskip (fun e => by rw [o] at e; cases e) h
    · cases hk : hasK bs (i : Int)
      · by_cases ha : 0 ≤ a
        · rw [o, hk] at h; simp only [if_true, Bool.false_eq_true, if_false, ha] at h; cases h
        · rw [o, hk] at h; simp only [if_true, Bool.false_eq_true, if_false, ha] at h
          have h' : loopL (bodyCl bs) (fun a => (.inl a : Int ⊕ Int)) cs (i + 1) (i : Int) = .inl r := h
          rcases ih (i + 1) (i : Int) r h' with ⟨h1, h2⟩ | ⟨h1, _⟩
          · right
            refine ⟨by omega, 0, d, by simpa using h1, rfl, o, by simpa using hk, fun j e hj ho => ?_⟩
            cases j with
            | zero => right; rfl
            | succ j =>
              rcases h2 j e (by simpa using hj) ho with g | g
              · left; rwa [show i + (j + 1) = i + 1 + j from by omega]
              · exact absurd g id
          · omega
      · rw [o, hk] at h; simp only [if_true] at h
        exact hskip (fun _ => hk) h
theorem hasK_iff {n : Nat} {cs : List WaterConduit} {bs : List Branch} (hall : ∀ b ∈ bs, ∃ c, BrOk n cs b c (rb cs b)) (k : Nat) : hasK bs (k : Int) = true ↔ ∃ x ∈ BL cs bs, x.k = k := by
  unfold hasK BL
  rw [List.any_eq_true]
  constructor
  · rintro ⟨b, hb, he⟩
    obtain ⟨c, hc⟩ := hall b hb
    refine ⟨rb cs b, List.mem_map.2 ⟨b, hb, rfl⟩, ?_⟩
    have := of_decide_eq_true he
    have := hc.k
    omega
  · rintro ⟨x, hx, he⟩
    obtain ⟨b, hb, rfl⟩ := List.mem_map.1 hx
    obtain ⟨c, hc⟩ := hall b hb
    exact ⟨b, hb, decide_eq_true (by have := hc.k; omega)⟩
structure Form (ns : List WaterNode) (cs : List WaterConduit) (cl : Int) : Prop where
  ok : FormOk ns cs
  cl : closeL (grown ns cs).1 cs = .inl cl
structure Closing (ns : List WaterNode) (cs : List WaterConduit) (cl : Int) : Prop where
  ok : ClOk ns cs cl
  ge : -1 ≤ cl
  op : ∀ (k : Nat) (c : WaterConduit), cs[k]? = some c → c.fOpen = true → (∃ x ∈ BL cs (grown ns cs).1, x.k = k) ∨ cl = k
  cop : ∀ (k : Nat) (c : WaterConduit), cl = k → cs[k]? = some c → c.fOpen = true
theorem Form.closing {ns : List WaterNode} {cs : List WaterConduit} {cl : Int} (h : Form ns cs cl) : Closing ns cs cl := by
  have hall := h.ok.branches
  rcases close_loop cs 0 (-1) cl h.cl with ⟨h1, h2⟩ | ⟨_, k, c, h2, h3, h4, h5, h6⟩
  · refine ⟨.inl (by omega), by omega, fun k c hk ho => ?_, fun k c e _ => by omega⟩
    rcases h2 k c hk ho with g | g
    · left; exact (hasK_iff hall k).1 (by simpa using g)
    · exact absurd g id
  · simp only [Nat.zero_add] at h2 h5 h6
    refine ⟨.inr ⟨k, c, h2, h3, fun b hb e => ?_⟩, by omega, fun j d hj ho => ?_, fun j d e hj => ?_⟩
    · have := (hasK_iff hall k).2 ⟨b, hb, e⟩
      rw [h5] at this; cases this
    · rcases h6 j d hj ho with g | g
      · left; exact (hasK_iff hall j).1 (by simpa using g)
      · right; rw [h2]; congr 1; omega
    · have : j = k := by omega
      subst this
      rw [h3] at hj; cases hj; exact h4
/-! the program's functions -/
theorem F87_few {ns : List WaterNode} {cs : List WaterConduit} (hf : FewN ns cs) : F87_0 ns cs = some (checkNet ns cs).2 := by unfold F87_0; rw [F16_few hf]; rfl
theorem F32_few {ns : List WaterNode} {cs : List WaterConduit} (hf : FewN ns cs) : F32_0 ns cs = some (checkNet ns cs).2 := by unfold F32_0; rw [F19_few hf]; rfl
theorem F38_few {ns : List WaterNode} {cs : List WaterConduit} (hf : FewN ns cs) : F38_0 ns cs = some (if (checkNet ns cs).2 = 0 then formE ns cs else (checkNet ns cs).2) := by
  have hn := hf.n; have hc := hf.c
  unfold F38_0
  rw [F32_few hf]
  simp only [Option.bind_some]
  by_cases h : (checkNet ns cs).2 = 0
  · rw [if_pos h, if_pos h, F97_eq (netOk h).ends (by omega) (by omega)]; rfl
  · rw [if_neg h, if_neg h]
theorem form_of {ns : List WaterNode} {cs : List WaterConduit} (h0 : (checkNet ns cs).2 = 0) (h1 : formE ns cs = 0) : ∃ cl, Form ns cs cl := by
  unfold formE at h1
  by_cases g : falses (grown ns cs).2 = 0
  · rw [if_pos g] at h1
    cases hc : closeL (grown ns cs).1 cs with
    | inl a => exact ⟨a, ⟨⟨netOk h0, g⟩, hc⟩⟩
    | inr a => rw [hc] at h1; cases h1
  · rw [if_neg g] at h1; cases h1
theorem Form.e {ns : List WaterNode} {cs : List WaterConduit} {cl : Int} (h : Form ns cs cl) : formE ns cs = 0 := by
  unfold formE; rw [if_pos h.ok.gap, h.cl]
theorem F138_form {ns : List WaterNode} {cs : List WaterConduit} {cl : Int} (h : Form ns cs cl) : F138_0 ns cs = some (cl, 0, (grown ns cs).1) := by
  have hn := h.ok.net.n1; have hc := h.ok.net.c1
  obtain ⟨a, h1, h2⟩ := F138_eq h.ok.net.ends (by omega) (by omega)
  have := h2 h.e
  rw [h.cl] at this; cases this
  rw [h1, h.e]
theorem F99_form {ns : List WaterNode} {cs : List WaterConduit} {cl : Int} (hd : (checkNet ns cs).2 = 0) (hf : FewN ns cs) (h : Form ns cs cl) : F99_0 ns cs = some (.inl (cl, 0, (grown ns cs).1)) := by
  unfold F99_0; rw [F87_few hf, hd]; simp only [Option.bind_some, if_true]; rw [F138_form h]; rfl
theorem F99_no {ns : List WaterNode} {cs : List WaterConduit} (hf : FewN ns cs) (hd : (checkNet ns cs).2 ≠ 0) : F99_0 ns cs = some (.inr (checkNet ns cs).2) := by
  unfold F99_0; rw [F87_few hf]; simp only [Option.bind_some, hd, if_false]
theorem F99_bad {ns : List WaterNode} {cs : List WaterConduit} (hf : FewN ns cs) (hd : (checkNet ns cs).2 = 0) : ∃ a, F99_0 ns cs = some (.inl (a, formE ns cs, (grown ns cs).1)) := by
  have hn := hf.n; have hc := hf.c
  obtain ⟨a, h1, _⟩ := F138_eq (netOk hd).ends (by omega) (by omega)
  refine ⟨a, ?_⟩
  unfold F99_0; rw [F87_few hf, hd]; simp only [Option.bind_some, if_true]; rw [h1]; rfl
theorem f71_2 (a b : Int) : F71_0 [a, b] = some (firstNZ [a, b]) := F71_eq _ (show ([_, _] : List Int).length < 1000000 by simp)
theorem f71_3 (a b c : Int) : F71_0 [a, b, c] = some (firstNZ [a, b, c]) := F71_eq _ (show ([_, _, _] : List Int).length < 1000000 by simp)
section
variable {ns : List WaterNode} {cs : List WaterConduit} {cl : Int}
end
end Go.AI
end
section
/-
  NO WATER IS LOST: what arrives at a junction is what leaves it and what is drawn; THE PLAIN LAW OF WaterKept.
-/
set_option linter.unusedVariables false
set_option linter.unusedSimpArgs false
namespace Go.AI
/-! the law's loops -/
end Go.AI
end
section
/-
  THE CIRCULATION; THE STEADY STATE; THE PLAIN LAW OF WaterTwoSigns.
-/
set_option linter.unusedVariables false
set_option linter.unusedSimpArgs false
namespace Go.AI
structure Circ (g : Int → Int) (lo hi : Int) : Prop where
  ge : -200000 < hi
  le : hi ≤ 200000
  pos : 0 ≤ g hi
  neg : g (hi - 1) < 0
  eq : g hi = 0 → lo = hi
  ne : g hi ≠ 0 → lo = hi - 1
theorem Circ.lo_or {g : Int → Int} {lo hi : Int} (h : Circ g lo hi) : (lo = hi ∧ g hi = 0) ∨ (lo = hi - 1 ∧ 0 < g hi) := by
  have := h.pos
  by_cases e : g hi = 0
  · exact .inl ⟨h.eq e, e⟩
  · exact .inr ⟨h.ne e, by omega⟩
theorem circ_unique {g : Int → Int} (hm : ∀ a b, a < b → g a < g b) {lo hi lo' hi' : Int} (h : Circ g lo hi) (h' : Circ g lo' hi') : lo = lo' ∧ hi = hi' := by
  have e : hi = hi' := by
    by_cases a : hi < hi'
    · have b := h'.neg
      have c := h.pos
      by_cases d : hi = hi' - 1
      · rw [← d] at b; omega
      · have := hm hi (hi' - 1) (by omega); omega
    · by_cases a' : hi' < hi
      · have b := h.neg
        have c := h'.pos
        by_cases d : hi' = hi - 1
        · rw [← d] at b; omega
        · have := hm hi' (hi - 1) (by omega); omega
      · omega
  subst e
  refine ⟨?_, rfl⟩
  by_cases z : g hi = 0
  · rw [h.eq z, h'.eq z]
  · rw [h.ne z, h'.ne z]
section
variable {ns : List WaterNode} {cs : List WaterConduit} {cl : Int}
theorem Form.cond (h : Form ns cs cl) (h0 : 0 ≤ cl) : ∃ (k : Nat) (x : WaterConduit), cl = k ∧ cs[k]? = some x ∧ (∀ b ∈ BL cs (grown ns cs).1, b.k ≠ k) := by
  rcases h.closing.ok with g | g
  · omega
  · exact g
def flatC (ns : List WaterNode) (cs : List WaterConduit) (x : WaterConduit) : Bool := decide (gapF ns cs x (-200000) = gapF ns cs x 200000)
theorem ab_M : ab (-200000) ≤ 200000 ∧ ab 200000 ≤ 200000 := by decide
theorem flat_iff (h : FormOk ns cs) {k : Nat} {x : WaterConduit} (hx : cs[k]? = some x) : flatC ns cs x = true ↔ Flat (tnet ns cs) (fr x) (to x) x.fResist := by
  have hc := h.net.conds x (List.mem_of_getElem? hx)
  unfold flatC
  rw [decide_eq_true_eq]
  constructor
  · intro e; exact flat_of h.tok (P := vec (drw ns)) hc.r0 (c := -200000) (c' := 200000) (by omega) (by show gapF ns cs x 200000 ≤ gapF ns cs x (-200000); omega)
  · intro e; exact flat_gap e _ _
theorem gap_strict (h : FormOk ns cs) {k : Nat} {x : WaterConduit} (hx : cs[k]? = some x) (hf : flatC ns cs x = false) : ∀ a b, a < b → gapF ns cs x a < gapF ns cs x b := by
  intro a b hab
  have hc := h.net.conds x (List.mem_of_getElem? hx)
  exact gap_lt h.tok hc.r0 (fun e => by rw [(flat_iff h hx).2 e] at hf; cases hf) hab
theorem gap_sgn (h : FormOk ns cs) {k : Nat} {x : WaterConduit} (hx : cs[k]? = some x) (hf : flatC ns cs x = false) : gapF ns cs x (-200000) < 0 ∧ 0 < gapF ns cs x 200000 := by
  have hc := h.net.conds x (List.mem_of_getElem? hx)
  have h1 := hc.f0; have h2 := hc.f1; have h3 := hc.t0; have h4 := hc.t1
  exact gap_signs h.tok (show fr x < ns.length by unfold fr; omega) (show to x < ns.length by unfold to; omega) hc.r0 (nrm_drw h.net) (fun e => by rw [(flat_iff h hx).2 e] at hf; cases hf)
def flatN (ns : List WaterNode) (cs : List WaterConduit) (cl : Int) : Bool := if 0 ≤ cl then match cs[cl.toNat]? with
  | some x => flatC ns cs x
  | none => false
  else false
theorem flatN_at {k : Nat} {x : WaterConduit} (hk : cl = k) (hx : cs[k]? = some x) : flatN ns cs cl = flatC ns cs x := by
  unfold flatN; rw [hk, if_pos (by omega), Int.toNat_natCast, hx]
theorem F108_eq (h : Form ns cs cl) : F108_0 cl ns cs (grown ns cs).1 = some (flatN ns cs cl) := by
  unfold F108_0
  by_cases h0 : 0 ≤ cl
  · obtain ⟨k, x, hk, hx, hoff⟩ := h.cond h0
    rw [if_pos h0, flatN_at hk hx, hk, F102_eq h.ok hx hoff ab_M.1, F102_eq h.ok hx hoff ab_M.2]; rfl
  · rw [if_neg h0]; unfold flatN; rw [if_neg h0]
def CircN (ns : List WaterNode) (cs : List WaterConduit) (cl lo hi : Int) : Prop := (cl < 0 ∧ lo = 0 ∧ hi = 0) ∨ ∃ (k : Nat) (x : WaterConduit), cl = k ∧ cs[k]? = some x ∧ flatC ns cs x = false ∧ Circ (gapF ns cs x) lo hi
theorem least_circ (h : Form ns cs cl) {k : Nat} {x : WaterConduit} (hk : cl = k) (hx : cs[k]? = some x) (hf : flatC ns cs x = false) {r : Int} (h1 : -200000 ≤ r) (h2 : r ≤ 200000) (h3 : r < 200000 → 0 ≤ gapF ns cs x r) (h4 : -200000 < r → gapF ns cs x (r - 1) < 0) :
    Circ (gapF ns cs x) (if gapF ns cs x r = 0 then r else r - 1) r := by
  obtain ⟨s1, s2⟩ := gap_sgn h.ok hx hf
  have hp : 0 ≤ gapF ns cs x r := by
    by_cases e : r < 200000
    · exact h3 e
    · rw [show r = 200000 from by omega]; omega
  have hg : -200000 < r := by
    by_cases e : r = -200000
    · rw [e] at hp; omega
    · omega
  refine ⟨hg, h2, hp, h4 hg, fun e => by rw [if_pos e], fun e => by rw [if_neg e]⟩
theorem F107_eq (h : Form ns cs cl) (hf : flatN ns cs cl = false) : ∃ lo hi, F107_0 cl ns cs (grown ns cs).1 = some (lo, hi) ∧ CircN ns cs cl lo hi := by
  by_cases h0 : 0 ≤ cl
  · obtain ⟨k, x, hk, hx, hoff⟩ := h.cond h0
    rw [flatN_at hk hx] at hf
    obtain ⟨r, hr, a1, a2, a3, a4⟩ := least_iter (step := S84l0_3 cl ns cs (grown ns cs).1) (p := fun c => decide (0 ≤ gapF ns cs x c)) (lo := -200000) (hi := 200000) (by omega) (by omega) (by omega)
      (fun a b h => by simp [S84l0_3, h]) (fun a b b1 b2 b3 => by
        simp only [S84l0_3, if_neg (show ¬ b ≤ a by omega)]
        rw [half_mid (by omega) (by omega) b2]
        have hm : (b - a) / 2 ≤ b - a := by omega
        have hm0 : 0 ≤ (b - a) / 2 := by omega
        have hm2 : a + (b - a) / 2 < b := by omega
        unfold F141_0
        rw [hk, F102_eq h.ok hx hoff (ab_le (by omega) (by omega)), aw_ok (n := a + (b - a) / 2 + 1) (by omega) (by omega)]
        simp only [Option.bind_some]
        by_cases hp : 0 ≤ gapF ns cs x (a + (b - a) / 2) <;> simp [hp])
    have hc := least_circ h hk hx hf a1 a2 (fun e => by simpa using a3 e) (fun e => by simpa using a4 e)
    refine ⟨if gapF ns cs x r = 0 then r else r - 1, r, ?_, .inr ⟨k, x, hk, hx, hf, hc⟩⟩
    unfold F107_0 F84_3 L84l0_3
    rw [if_pos h0, hr]
    simp only [Option.bind_some]
    rw [hk, F102_eq h.ok hx hoff (ab_le (by omega) (by omega)), aw_ok (n := r - 1) (by omega) (by omega)]
    simp only [Option.bind_some]
    by_cases e : gapF ns cs x r = 0 <;> simp [e]
  · exact ⟨0, 0, by unfold F107_0; rw [if_neg h0], .inl ⟨by omega, rfl, rfl⟩⟩
theorem CircN.range {lo hi : Int} (h : CircN ns cs cl lo hi) : ab lo ≤ 200000 ∧ ab hi ≤ 200000 ∧ lo ≤ hi ∧ hi ≤ lo + 1 := by
  rcases h with ⟨_, rfl, rfl⟩ | ⟨k, x, _, _, _, hc⟩
  · decide
  · have h1 := hc.ge
    have h2 := hc.le
    rcases hc.lo_or with ⟨e, _⟩ | ⟨e, _⟩
    · exact ⟨ab_le (by omega) (by omega), ab_le (by omega) (by omega), by omega, by omega⟩
    · exact ⟨ab_le (by omega) (by omega), ab_le (by omega) (by omega), by omega, by omega⟩
theorem CircN.unique (h : Form ns cs cl) {lo hi lo' hi' : Int} (c : CircN ns cs cl lo hi) (c' : CircN ns cs cl lo' hi') : lo = lo' ∧ hi = hi' := by
  rcases c with ⟨h1, rfl, rfl⟩ | ⟨k, x, hk, hx, hf, hc⟩
  · rcases c' with ⟨_, rfl, rfl⟩ | ⟨k, x, hk, _⟩
    · exact ⟨rfl, rfl⟩
    · omega
  · rcases c' with ⟨h1, _⟩ | ⟨k', x', hk', hx', hf', hc'⟩
    · omega
    · have : k' = k := by omega
      subst this
      rw [hx] at hx'; cases hx'
      exact circ_unique (gap_strict h.ok hx hf) hc hc'
theorem F106_form (hd : (checkNet ns cs).2 = 0) (hf : FewN ns cs) (h : Form ns cs cl) : F106_0 ns cs = some (.inl (cl, if flatN ns cs cl = true then 11 else 0, (grown ns cs).1)) := by
  unfold F106_0; rw [F99_form hd hf h]
  simp only [Option.bind_some, if_true, F108_eq h, F72_eq]
  cases flatN ns cs cl <;> rfl
/-! ### ranges -/
def rngI (b : List Int) : List Int → Nat → List Range
  | [], _ => []
  | x :: a, i => ⟨min x (b.getD i 0), max x (b.getD i 0)⟩ :: rngI b a (i + 1)
theorem rngI_len (b : List Int) : ∀ (a : List Int) (i : Nat), (rngI b a i).length = a.length := by
  intro a
  induction a with
  | nil => intro i; rfl
  | cons x a ih => intro i; simp [rngI, ih]
def bodyR (b : List Int) (i : Nat) (x : Int) (l : List Range) : List Range ⊕ List Range := .inl (l ++ [⟨min x (b.getD i 0), max x (b.getD i 0)⟩])
theorem rng_loop (b : List Int) : ∀ (a : List Int) (i : Nat) (l : List Range), loopL (bodyR b) (fun l => l) a i l = l ++ rngI b a i := by
  intro a
  induction a with
  | nil => intro i l; simp [loopL, rngI]
  | cons x a ih =>
    intro i l
    rw [loopL]
    show loopL (bodyR b) (fun l => l) a (i + 1) _ = _
    rw [ih]; simp [rngI]
theorem F142_eq {a b : List Int} (h : a.length = b.length) (hl : a.length < 100000) : F142_0 a b = some (rngI b a 0) := by
  have h1 := iter_list0 (step := S142l0_0 (a.length : Int) a b) (fun i (l : List Range) => ((i : Int), l)) a (bodyR b) (fun l => l) (fun i l => l.length = i)
    (fun l _ => by simp [S142l0_0]) (fun i x l hx hi hl => by
      refine ⟨?_, fun a' h => by cases h; simp [hl]⟩
      simp only [S142l0_0, if_neg (show ¬ ((a.length : Int) ≤ (i : Int)) by omega), geti_at hx]
      rw [geti_n (by omega), room_le (by omega), aw_ok (n := (i : Int) + 1) (by omega) (by omega)]
      simp [bodyR]) (by omega) [] rfl
  rw [rng_loop, List.nil_append] at h1
  unfold F142_0 L142l0_0
  rw [show (0, ([] : List Range)) = (((0 : Nat) : Int), ([] : List Range)) from rfl, h1]; rfl
def stdQ (ns : List WaterNode) (cs : List WaterConduit) (cl lo hi : Int) : List Range := rngI (stQ ns cs cl hi) (stQ ns cs cl lo) 0
def stdH (ns : List WaterNode) (cs : List WaterConduit) (cl lo hi : Int) : List Range := rngI (stH ns cs cl hi) (stH ns cs cl lo) 0
theorem F110_form (h : Form ns cs cl) {lo hi : Int} (h7 : F107_0 cl ns cs (grown ns cs).1 = some (lo, hi)) (hc : CircN ns cs cl lo hi) : F110_0 cl ns cs (grown ns cs).1 = some (stdQ ns cs cl lo hi, stdH ns cs cl lo hi) := by
  obtain ⟨r1, r2, _, _⟩ := hc.range
  have s1 := (st_ok h.ok h.closing.ok r1 0 [] []).1
  have s2 := (st_ok h.ok h.closing.ok r2 0 [] []).1
  have n1 := h.ok.net.n1
  have c1 := h.ok.net.c1
  have q1 := s1.lq; have q2 := s2.lq; have k1 := s1.lh; have k2 := s2.lh
  unfold F110_0
  rw [h7]
  simp only [bind2_some, F101_eq h.ok h.closing.ok r1, F101_eq h.ok h.closing.ok r2]
  rw [F142_eq (by omega) (by omega), F142_eq (by omega) (by omega)]
  rfl
end
end Go.AI
end
section
/-
  THE REFERENCE's STATE IS THE PROGRAM's.
-/
set_option linter.unusedVariables false
set_option linter.unusedSimpArgs false
namespace Go.AI
theorem unit_sym (a w : Nat) : unitV a w = unitV w a := by
  unfold unitV
  by_cases q : w = a
  · rw [if_pos q, if_pos q.symm]
  · rw [if_neg q, if_neg fun e => q e.symm]
theorem zD_tops {n : Nat} (D : V) : ∀ {t : List BR}, AllB (fun b _ => In n b) t → ∀ w, w < n → zD t D w = sumTo n (fun y => D y * unitV (tp t y) w) := by
  intro t
  induction t with
  | nil =>
    intro _ w hw
    have := sum_unit hw D
    show D w = _
    rw [← this]; exact sumTo_congr fun y _ => by show unitV w y * D y = D y * unitV y w; rw [unit_sym y w, Int.mul_comm]
  | cons b t ih =>
    intro h w hw
    have hne := h.1.ne
    have iu := ih h.2 b.u h.1.u
    have iv := ih h.2 b.v h.1.v
    have iw := ih h.2 w hw
    show mv b (zD t D) w = _
    unfold mv
    have htp : ∀ y, tp (b :: t) y = if tp t y = b.v then b.u else tp t y := fun y => rfl
    by_cases e1 : w = b.v
    · rw [if_pos e1]
      refine (sumTo_zero n fun y _ => ?_).symm
      have : unitV (tp (b :: t) y) w = 0 := by
        unfold unitV; rw [htp y, e1]
        by_cases q : tp t y = b.v
        · rw [if_pos q, if_neg (fun e => hne e.symm)]
        · rw [if_neg q, if_neg (fun e => q e.symm)]
      rw [this, Int.mul_zero]
    · rw [if_neg e1]
      by_cases e2 : w = b.u
      · rw [if_pos e2, iu, iv, ← sumTo_add]
        refine sumTo_congr fun y _ => ?_
        have : unitV (tp (b :: t) y) w = unitV (tp t y) b.u + unitV (tp t y) b.v := by
          unfold unitV; rw [htp y, e2]
          by_cases q : tp t y = b.v
          · rw [if_pos q, if_pos rfl, q, if_neg hne, if_pos rfl]; rfl
          · rw [if_neg q, if_neg (show ¬ b.v = tp t y from fun e => q e.symm)]; omega
        rw [this, Int.mul_add]
      · rw [if_neg e2, iw]
        refine sumTo_congr fun y _ => ?_
        have : unitV (tp (b :: t) y) w = unitV (tp t y) w := by
          unfold unitV; rw [htp y]
          by_cases q : tp t y = b.v
          · rw [if_pos q, q, if_neg e2, if_neg e1]
          · rw [if_neg q]
        rw [this]
/-! marks -/
theorem finM_iff : ∀ {bs : List BR} {M : Nat → Bool} {w : Nat}, finM M bs w = true ↔ M w = true ∨ ∃ b ∈ bs, b.v = w := by
  intro bs
  induction bs with
  | nil => intro M w; simp [finM]
  | cons b bs ih =>
    intro M w
    show finM (mkM M b.v) bs w = true ↔ _
    rw [ih]
    unfold mkM
    by_cases e : w = b.v
    · simp [e]
    · simp only [e, if_false]
      constructor
      · rintro (h | ⟨x, hx, hw⟩)
        · exact .inl h
        · exact .inr ⟨x, .tail _ hx, hw⟩
      · rintro (h | ⟨x, hx, hw⟩)
        · exact .inl h
        · cases hx with
          | head => exact absurd hw.symm e
          | tail _ hx => exact .inr ⟨x, hx, hw⟩
theorem tp_app : ∀ (A L : List BR) (a : Nat), tp (A ++ L) a = tp A (tp L a) := by
  intro A
  induction A with
  | nil => intro L a; rfl
  | cons b A ih => intro L a; show (if tp (A ++ L) a = b.v then b.u else tp (A ++ L) a) = _; rw [ih]; rfl
theorem chb_dv : ∀ {bs : List BR} {M : Nat → Bool}, ChB M bs → AllB (fun x t => ∀ y ∈ t, y.v ≠ x.v) bs ∧ ∀ b ∈ bs, M b.v = false := by
  intro bs
  induction bs with
  | nil => intro M _; exact ⟨trivial, fun b hb => by cases hb⟩
  | cons b bs ih =>
    intro M h
    obtain ⟨i1, i2⟩ := ih h.2.2
    refine ⟨⟨fun y hy e => ?_, i1⟩, fun x hx => ?_⟩
    · have := i2 y hy
      rw [e] at this; unfold mkM at this; rw [if_pos rfl] at this; cases this
    · cases hx with
      | head => exact h.2.1
      | tail _ hx =>
        have := i2 x hx
        cases q : M x.v with
        | false => rfl
        | true => rw [mkM_mono q] at this; cases this
theorem sum_supportV {n : Nat} : ∀ {bs : List BR} {g : V}, AllB (fun x t => ∀ y ∈ t, y.v ≠ x.v) bs → (∀ b ∈ bs, b.v < n) → (∀ k, k < n → (∀ b ∈ bs, b.v ≠ k) → g k = 0) → sumTo n g = sumB (fun b _ => g b.v) bs := by
  intro bs
  induction bs with
  | nil => intro g _ _ h; exact sumTo_zero n fun w hw => h w hw fun b hb => by cases hb
  | cons b bs ih =>
    intro g hd hk h
    have h1 := sumTo_ch1 (n := n) (f := fun k => if k = b.v then 0 else g k) (g := g) (hk b (.head _)) (fun w hw => (if_neg hw).symm)
    simp only [if_true] at h1
    have h2 := ih (g := fun k => if k = b.v then 0 else g k) hd.2 (fun x hx => hk x (.tail _ hx)) (fun k hkn hne => by
      by_cases e : k = b.v
      · simp [e]
      · simp only [e, if_false]
        exact h k hkn fun x hx => by
          cases hx with
          | head => exact fun e' => e e'.symm
          | tail _ hx => exact hne x hx)
    have h3 : sumB (fun x _ => if x.v = b.v then 0 else g x.v) bs = sumB (fun x _ => g x.v) bs :=
      sumB_congr (AllB.mem fun x hx => if_neg (hd.1 x hx))
    show sumTo n g = g b.v + sumB (fun x _ => g x.v) bs
    rw [h1, h2, h3]; omega
theorem sub_sum {n : Nat} {M : Nat → Bool} {b : BR} {t : List BR} (D : V) (hi : AllB (fun b _ => In n b) (b :: t)) (hc : ChB M (b :: t)) :
    sumB (fun x _ => D x.v * unitV (tp t x.v) b.v) (b :: t) = zD t D b.v := by
  obtain ⟨dv, _⟩ := chb_dv hc
  have hvs := AllB.all (hi.mono fun b t h => h.v)
  rw [zD_tops D hi.2 b.v hi.1.v]
  refine (sum_supportV (g := fun y => D y * unitV (tp t y) b.v) dv hvs fun y hy hne => ?_).symm
  by_cases hm : mkM M b.v y = true
  · rw [tp_same hc.2.2 hm]
    have : unitV y b.v = 0 := by unfold unitV; rw [if_neg]; intro e; exact hne b (.head _) e
    rw [this, Int.mul_zero]
  · -- not marked: it does not come in at all, and stays where it is
    have hstay : ∀ {t : List BR}, (∀ x ∈ t, x.v ≠ y) → tp t y = y := by
      intro t
      induction t with
      | nil => intro _; rfl
      | cons x t ih => intro h; show (if tp t y = x.v then x.u else tp t y) = y; rw [ih fun z hz => h z (.tail _ hz), if_neg (fun e => h x (.head _) e.symm)]
    rw [hstay fun x hx => hne x (.tail _ hx)]
    have : unitV y b.v = 0 := by unfold unitV; rw [if_neg]; intro e; exact hne b (.head _) e
    rw [this, Int.mul_zero]
/-! ### through -/
def posV : List BR → Nat → Nat → Int
  | [], _, _ => -1
  | b :: bs, i, w => if b.v = w then (i : Int) else posV bs (i + 1) w
theorem posV_none : ∀ {bs : List BR} {i w : Nat}, (∀ b ∈ bs, b.v ≠ w) → posV bs i w = -1 := by
  intro bs
  induction bs with
  | nil => intro i w _; rfl
  | cons b bs ih => intro i w h; unfold posV; rw [if_neg (h b (.head _)), ih fun x hx => h x (.tail _ hx)]
theorem posV_at : ∀ {bs : List BR} {i j w : Nat} {b : BR}, AllB (fun x t => ∀ y ∈ t, y.v ≠ x.v) bs → bs[j]? = some b → b.v = w → posV bs i w = ((i + j : Nat) : Int) := by
  intro bs
  induction bs with
  | nil => intro i j w b _ h; simp at h
  | cons x bs ih =>
    intro i j w b hd h e
    unfold posV
    cases j with
    | zero => simp at h; subst h; rw [if_pos e]; rfl
    | succ j =>
      have hb : b ∈ bs := List.mem_of_getElem? (by simpa using h)
      rw [if_neg (fun e' => hd.1 b hb (by rw [e, e'])), ih hd.2 (by simpa using h) e]
      congr 1; omega
theorem F155_eq {bs : List Branch} {cs : List WaterConduit} {n : Nat} (hall : ∀ b ∈ bs, ∃ c, BrOk n cs b c (rb cs b)) (hb : bs.length < 100000) (w : Nat) :
    F155_0 (w : Int) (bs.map fun b => b.fnode) = some (posV (BL cs bs) 0 w) := by
  have h := iter_list0 (step := S155l0_0 (w : Int) (bs.map fun b => b.fnode)) (fun j (_ : Unit) => (j : Int)) (bs.map fun b => b.fnode)
    (fun (j : Nat) (x : Int) (_ : Unit) => if x = (w : Int) then (.inr (.inr (j : Int)) : Unit ⊕ (Unit ⊕ Int)) else .inl ()) (fun _ => .inl ()) (fun _ _ => True)
    (fun a _ => by simp [S155l0_0]) (fun j c a hx hi _ => by
      refine ⟨?_, fun _ _ => trivial⟩
      have hle : j < bs.length := by simpa using hi
      simp only [S155l0_0, if_neg (show ¬ (((bs.map fun b => b.fnode).length : Int) ≤ (j : Int)) by omega), geti_at hx]
      rw [aw_ok (n := (j : Int) + 1) (by omega) (by omega)]
      by_cases h : c = (w : Int) <;> simp [h]) (by simp; omega) () trivial
  have key : ∀ (l : List Branch) (j : Nat), (∀ b ∈ l, ∃ c, BrOk n cs b c (rb cs b)) → loopL (fun (j : Nat) (x : Int) (_ : Unit) => if x = (w : Int) then (.inr (.inr (j : Int)) : Unit ⊕ (Unit ⊕ Int)) else .inl ()) (fun _ => .inl ()) (l.map fun b => b.fnode) j () =
      if posV (BL cs l) j w = -1 then .inl () else .inr (posV (BL cs l) j w) := by
    intro l
    induction l with
    | nil => intro j _; rfl
    | cons b l ih =>
      intro j hl
      obtain ⟨c, hc⟩ := hl b (.head _)
      rw [List.map_cons, loopL]
      have e : posV (BL cs (b :: l)) j w = if (rb cs b).v = w then (j : Int) else posV (BL cs l) (j + 1) w := rfl
      rw [e]
      by_cases hw : (rb cs b).v = w
      · rw [if_pos (show b.fnode = (w : Int) by rw [hc.v, hw]), if_pos hw, if_neg (by omega)]
      · rw [if_neg (show ¬ b.fnode = (w : Int) by rw [hc.v]; omega), if_neg hw]
        exact ih (j + 1) fun x hx => hl x (.tail _ hx)
  rw [key bs 0 hall] at h
  unfold F155_0 L155l0_0
  rw [show (0 : Int) = ((0 : Nat) : Int) from rfl, h]
  by_cases e : posV (BL cs bs) 0 w = -1
  · rw [if_pos e, e]; rfl
  · rw [if_neg e]; rfl
end Go.AI
end
section
/-
  THE REFERENCE's STATE IS THE PROGRAM's: sums, flows, heads.
-/
set_option linter.unusedVariables false
set_option linter.unusedSimpArgs false
namespace Go.AI
theorem BL_drop (cs : List WaterConduit) (bs : List Branch) (i : Nat) : (BL cs bs).drop i = BL cs (bs.drop i) := by unfold BL; rw [List.map_drop]
theorem BL_get {cs : List WaterConduit} {bs : List Branch} {k : Nat} {b : Branch} (h : bs[k]? = some b) : (BL cs bs)[k]? = some (rb cs b) := by unfold BL; rw [List.getElem?_map, h]; rfl
theorem drop_get {bl : List BR} {k : Nat} {x : BR} (h : bl[k]? = some x) : bl.drop k = x :: bl.drop (k + 1) := by
  obtain ⟨hl, e⟩ := List.getElem?_eq_some_iff.1 h
  rw [List.drop_eq_getElem_cons hl, e]
theorem tp_up {M : Nat → Bool} {bl : List BR} (hc : ChB M bl) {i k : Nat} {x : BR} (hk : bl[k]? = some x) (hik : i < k) : tp (bl.drop (i + 1)) x.v = tp (bl.drop (i + 1)) x.u := by
  have e1 : bl.drop (i + 1) = (bl.drop (i + 1)).take (k - (i + 1)) ++ x :: bl.drop (k + 1) := by
    have := (List.take_append_drop (k - (i + 1)) (bl.drop (i + 1))).symm
    rw [List.drop_drop, show i + 1 + (k - (i + 1)) = k from by omega, drop_get hk] at this
    exact this
  have hck := chb_drop hc k
  rw [drop_get hk] at hck
  have h1 : tp (bl.drop (k + 1)) x.v = x.v := tp_same hck.2.2 (by unfold mkM; rw [if_pos rfl])
  have h2 : tp (bl.drop (k + 1)) x.u = x.u := tp_same hck.2.2 (mkM_mono hck.1)
  have h3 : tp (x :: bl.drop (k + 1)) x.v = x.u := by show (if _ then _ else _) = _; rw [h1, if_pos rfl]
  have h4 : tp (x :: bl.drop (k + 1)) x.u = x.u := by
    show (if _ then _ else _) = _
    rw [h2, if_neg]
    intro e
    have := hck.1
    rw [e, hck.2.1] at this; cases this
  rw [e1, tp_app, tp_app, h3, h4]
theorem tp_low {M : Nat → Bool} {bl : List BR} (hc : ChB M bl) {i : Nat} {w : Nat} (h : finM M (bl.take (i + 1)) w = true) : tp (bl.drop (i + 1)) w = w := tp_same (chb_drop hc (i + 1)) h
theorem climb {ns : List WaterNode} {cs : List WaterConduit} {bs : List Branch} {M : Nat → Bool} (hall : ∀ b ∈ bs, ∃ c, BrOk ns.length cs b c (rb cs b)) (hc : ChB M (BL cs bs)) (hb : bs.length < 100000) {i : Nat} {xi : BR} (hi : (BL cs bs)[i]? = some xi) :
    ∀ (k : Nat) (x : BR), i ≤ k → (BL cs bs)[k]? = some x → ∃ r, iter (S143l0_0 (i : Int) ns cs (bs.map fun b => b.fconduit) (bs.map fun b => b.fnode)) (k + 2) (k : Int) = some r ∧ (r = (i : Int) ↔ tp ((BL cs bs).drop (i + 1)) x.v = xi.v) := by
  obtain ⟨dv, dm⟩ := chb_dv hc
  have hout : ∀ (r : Int) (n : Nat), r ≤ (i : Int) → iter (S143l0_0 (i : Int) ns cs (bs.map fun b => b.fconduit) (bs.map fun b => b.fnode)) (n + 1) r = some r := fun r n h => iter_out (by simp [S143l0_0, h]) n
  have hmi : finM M ((BL cs bs).take (i + 1)) xi.v = true := finM_iff.2 (.inr ⟨xi, List.mem_of_getElem? (i := i) (by rw [List.getElem?_take_of_lt (by omega), hi]), rfl⟩)
  intro k
  induction k using Nat.strongRecOn with
  | ind k ih =>
    intro x hik hk
    by_cases e : k = i
    · subst e
      rw [hi] at hk; cases hk
      exact ⟨(k : Int), hout _ _ (by omega), by simp [tp_low hc hmi]⟩
    · have hlt : k < bs.length := by have := (List.getElem?_eq_some_iff.1 hk).1; simpa [BL] using this
      have hbk : bs[k]? = some bs[k] := List.getElem?_eq_getElem hlt
      obtain ⟨c, hbr⟩ := hall bs[k] (List.getElem_mem hlt)
      have hx : rb cs bs[k] = x := by have := BL_get (cs := cs) hbk; rw [hk] at this; cases this; rfl
      rw [hx] at hbr
      generalize bs[k] = b at hbk hbr
      have hs : S143l0_0 (i : Int) ns cs (bs.map fun b => b.fconduit) (bs.map fun b => b.fnode) (k : Int) = some (.inl (posV (BL cs bs) 0 x.u)) := by
        have g1 : (bs.map fun b => b.fconduit)[k]? = some b.fconduit := by rw [List.getElem?_map, hbk]; rfl
        have g2 : (bs.map fun b => b.fnode)[k]? = some b.fnode := by rw [List.getElem?_map, hbk]; rfl
        simp only [S143l0_0, if_neg (show ¬ (k : Int) ≤ (i : Int) by omega), geti_at g1]
        rw [hbr.k, geti_at hbr.hc, geti_at g2, hbr.v]
        have hne := hbr.i.ne
        rcases hbr.s with ⟨e1, e2, e3⟩ | ⟨e1, e2, e3⟩
        · rw [if_neg (by rw [e3]; omega), e3, F155_eq hall hb]; rfl
        · rw [if_pos e2, e3, F155_eq hall hb]; rfl
      have hck := chb_drop hc k
      rw [drop_get hk] at hck
      have hup := tp_up hc hk (show i < k by omega)
      rcases finM_iff.1 hck.1 with hl | ⟨y, hy, hyu⟩
      · -- a lake
        have hp : posV (BL cs bs) 0 x.u = -1 := posV_none fun z hz e => by have := dm z hz; rw [e, hl] at this; cases this
        refine ⟨-1, ?_, ?_⟩
        · rw [hp] at hs; exact iter_in hs (hout (-1) _ (by omega))
        · rw [hup, tp_low hc (finM_iff.2 (.inl hl))]
          constructor
          · intro h; omega
          · intro h
            have := dm xi (List.mem_of_getElem? hi)
            rw [← h, hl] at this; cases this
      · obtain ⟨j, hj0⟩ := List.mem_iff_getElem?.1 hy
        have hlt' := (List.getElem?_eq_some_iff.1 hj0).1
        rw [List.length_take] at hlt'
        have hj : j < k := by omega
        have hyj : (BL cs bs)[j]? = some y := by rwa [List.getElem?_take_of_lt hj] at hj0
        have hp : posV (BL cs bs) 0 x.u = (j : Int) := by rw [posV_at dv hyj hyu, Nat.zero_add]
        rw [hp] at hs
        by_cases hji : i ≤ j
        · obtain ⟨r, h1, h2⟩ := ih j hj y hji hyj
          refine ⟨r, iter_in hs (iter_mono h1 (by omega)), ?_⟩
          rw [h2, hup, hyu]
        · refine ⟨(j : Int), iter_in hs (hout _ _ (by omega)), ?_⟩
          have hmj : finM M ((BL cs bs).take (i + 1)) x.u = true := finM_iff.2 (.inr ⟨y, List.mem_of_getElem? (i := j) (by rw [List.getElem?_take_of_lt (by omega), hyj]), hyu⟩)
          rw [hup, tp_low hc hmj]
          constructor
          · intro h; omega
          · intro h
            have a1 := posV_at (i := 0) dv hyj hyu
            have a2 := posV_at (i := 0) dv hi h.symm
            rw [a1] at a2; omega
theorem F143_eq {ns : List WaterNode} {cs : List WaterConduit} {bs : List Branch} {M : Nat → Bool} (hall : ∀ b ∈ bs, ∃ c, BrOk ns.length cs b c (rb cs b)) (hc : ChB M (BL cs bs)) (hb : bs.length < 100000) {i k : Nat} {xi x : BR} (hi : (BL cs bs)[i]? = some xi) (hik : i ≤ k) (hk : (BL cs bs)[k]? = some x) :
    F143_0 (k : Int) (i : Int) ns cs (bs.map fun b => b.fconduit) (bs.map fun b => b.fnode) = some (decide (tp ((BL cs bs).drop (i + 1)) x.v = xi.v)) := by
  obtain ⟨r, h1, h2⟩ := climb hall hc hb hi k x hik hk
  have hlt : k < bs.length := by have := (List.getElem?_eq_some_iff.1 hk).1; simpa [BL] using this
  unfold F143_0 L143l0_0
  rw [iter_mono h1 (by omega)]
  simp only [Option.bind_some]
  by_cases e : r = (i : Int)
  · simp [e, h2.1 e]
  · have : ¬ tp ((BL cs bs).drop (i + 1)) x.v = xi.v := fun h => e (h2.2 h)
    simp [e, this]
theorem L114l1_eq {ns : List WaterNode} {cs : List WaterConduit} {bs : List Branch} {M : Nat → Bool} (hall : ∀ b ∈ bs, ∃ c, BrOk ns.length cs b c (rb cs b)) (hc : ChB M (BL cs bs)) (hin : AllB (fun b _ => In ns.length b) (BL cs bs)) (hb : bs.length ≤ 1000)
    (D : List Int) (hD : D.length = ns.length) (hn : nrm ns.length (vec D) ≤ 500000) {i : Nat} {xi : BR} (hi : (BL cs bs)[i]? = some xi) (p q r s : List Int) :
    L114l1_0 (i : Int) ns cs p q (bs.map fun b => b.fconduit) (bs.map fun b => b.fnode) D r s (0, (i : Int)) = some (zD ((BL cs bs).drop (i + 1)) (vec D) xi.v) := by
  have hil : i < bs.length := by have := (List.getElem?_eq_some_iff.1 hi).1; simpa [BL] using this
  have h := iter_list (step := S114l1_0 (i : Int) ns cs p q (bs.map fun b => b.fconduit) (bs.map fun b => b.fnode) D r s) (fun k (a : Int) => (a, (k : Int))) bs
    (fun _ b a => (.inl (a + D.getD (rb cs b).v 0 * unitV (tp ((BL cs bs).drop (i + 1)) (rb cs b).v) xi.v) : Int ⊕ Int)) (fun a => a) (fun k a => i ≤ k ∧ ab a ≤ 500000 * (k : Int))
    (fun a _ => by simp [S114l1_0]) (fun k b a hx hk ha => by
      obtain ⟨ha1, ha2⟩ := ha
      obtain ⟨c, hbr⟩ := hall b (List.mem_of_getElem? hx)
      have g2 : (bs.map fun b => b.fnode)[k]? = some b.fnode := by rw [List.getElem?_map, hx]; rfl
      have hv := hbr.i.v
      have hd : ab (D.getD (rb cs b).v 0) ≤ 500000 := Int.le_trans (ab_nrm (D := vec D) hv) hn
      have hd' := ab_ge (D.getD (rb cs b).v 0)
      have ha' := ab_ge a
      refine ⟨?_, fun a' h => ?_⟩
      · simp only [S114l1_0, List.length_map, if_neg (show ¬ ((bs.length : Int) ≤ (k : Int)) by omega), F143_eq hall hc (by omega) hi ha1 (BL_get hx), Option.bind_some, geti_at g2]
        rw [hbr.v, geti_n (by omega), aw_ok (n := (k : Int) + 1) (by omega) (by omega), aw_ok (n := a + D.getD (rb cs b).v 0) (by omega) (by omega)]
        unfold unitV
        by_cases e : tp ((BL cs bs).drop (i + 1)) (rb cs b).v = xi.v
        · have e' : xi.v = tp ((BL cs bs).drop (i + 1)) (rb cs b).v := e.symm
          simp [-List.getD_eq_getElem?_getD, e]
        · have e' : ¬ xi.v = tp ((BL cs bs).drop (i + 1)) (rb cs b).v := fun x => e x.symm
          simp [-List.getD_eq_getElem?_getD, e, e']
      · cases h
        refine ⟨by omega, ?_⟩
        unfold unitV
        split
        · rw [Int.mul_one]; exact ab_le (by omega) (by omega)
        · rw [Int.mul_zero]; exact ab_le (by omega) (by omega)) (bs.length - i) i 0 (by omega) ⟨Nat.le_refl _, by rw [show ab 0 = 0 from rfl]; omega⟩
  have key : ∀ (l : List Branch) (j : Nat) (a : Int), loopL (fun (_ : Nat) b a => (.inl (a + D.getD (rb cs b).v 0 * unitV (tp ((BL cs bs).drop (i + 1)) (rb cs b).v) xi.v) : Int ⊕ Int)) (fun a => a) l j a =
      a + sumB (fun x _ => vec D x.v * unitV (tp ((BL cs bs).drop (i + 1)) x.v) xi.v) (BL cs l) := by
    intro l
    induction l with
    | nil => intro j a; simp [loopL, BL, sumB]
    | cons b l ih =>
      intro j a
      rw [loopL]
      simp only [ih]
      show _ = a + (vec D (rb cs b).v * unitV (tp ((BL cs bs).drop (i + 1)) (rb cs b).v) xi.v + sumB _ (BL cs l))
      unfold vec; omega
  rw [key, ← BL_drop, drop_get hi, Int.zero_add] at h
  have hin' := allB_drop hin i
  have hc' := chb_drop hc i
  rw [drop_get hi] at hin' hc'
  rw [sub_sum (vec D) hin' hc'] at h
  exact iter_mono h (by omega)
/-! the flows -/
def fwQ (D : V) : List BR → List Int → List Int
  | [], Q => Q
  | b :: t, Q => fwQ D t (Q.set b.k (b.s * zD t D b.v))
theorem fwQ_len (D : V) : ∀ (bl : List BR) (Q : List Int), (fwQ D bl Q).length = Q.length := by
  intro bl
  induction bl with
  | nil => intro Q; rfl
  | cons b t ih => intro Q; show (fwQ D t _).length = _; rw [ih, List.length_set]
theorem fwQ_off {D : V} : ∀ {bl : List BR} {Q : List Int} {k : Nat}, (∀ b ∈ bl, b.k < Q.length) → (∀ b ∈ bl, b.k ≠ k) → (fwQ D bl Q).getD k 0 = Q.getD k 0 := by
  intro bl
  induction bl with
  | nil => intro Q k _ _; rfl
  | cons b t ih =>
    intro Q k hl h
    show (fwQ D t _).getD k 0 = _
    rw [ih (fun x hx => by rw [List.length_set]; exact hl x (.tail _ hx)) fun x hx => h x (.tail _ hx), getD_set _ (hl b (.head _)), if_neg (fun e => h b (.head _) e.symm)]
theorem fwQ_at {D : V} : ∀ {bl : List BR} {Q : List Int}, (∀ b ∈ bl, b.k < Q.length) → AllB (fun x t => ∀ y ∈ t, y.k ≠ x.k) bl → AllB (fun b t => (fwQ D bl Q).getD b.k 0 = b.s * zD t D b.v) bl := by
  intro bl
  induction bl with
  | nil => intro Q _ _; trivial
  | cons b t ih =>
    intro Q hl hd
    have hl' : ∀ x ∈ t, x.k < (Q.set b.k (b.s * zD t D b.v)).length := fun x hx => by rw [List.length_set]; exact hl x (.tail _ hx)
    refine ⟨?_, ih hl' hd.2⟩
    show (fwQ D t _).getD b.k 0 = b.s * zD t D b.v
    rw [fwQ_off hl' hd.1, getD_set _ (hl b (.head _)), if_pos rfl]
theorem list_ext {l m : List Int} (h : l.length = m.length) (g : ∀ k, l.getD k 0 = m.getD k 0) : l = m := by
  apply List.ext_getElem h
  intro k h1 h2
  have := g k
  rw [List.getD_eq_getElem?_getD, List.getD_eq_getElem?_getD, List.getElem?_eq_getElem h1, List.getElem?_eq_getElem h2] at this
  exact this
section
variable {ns : List WaterNode} {cs : List WaterConduit} {cl c : Int}
theorem fwQ_st (h : Form ns cs cl) (hc : ab c ≤ 200000) : fwQ (vec (stD ns cs cl c)) (BL cs (grown ns cs).1) (stQ0 cs cl c) = stQ ns cs cl c := by
  have st := (st_ok h.ok h.closing.ok hc 0 [] []).1
  have lenQ0 := stQ0_len cs cl c
  have hk : ∀ b ∈ BL cs (grown ns cs).1, b.k < (stQ0 cs cl c).length := by
    intro b hb
    obtain ⟨d, hd, rfl⟩ := List.mem_map.1 hb
    obtain ⟨e, he⟩ := h.ok.branches d hd
    have := (List.getElem?_eq_some_iff.1 he.hc).1
    omega
  apply list_ext
  · rw [fwQ_len, st.lq, lenQ0]
  · intro k
    by_cases hin : ∃ b ∈ BL cs (grown ns cs).1, b.k = k
    · obtain ⟨b, hb, rfl⟩ := hin
      have hA : AllB (fun b _ => (fwQ (vec (stD ns cs cl c)) (BL cs (grown ns cs).1) (stQ0 cs cl c)).getD b.k 0 = (stQ ns cs cl c).getD b.k 0) (BL cs (grown ns cs).1) :=
        ((fwQ_at hk h.ok.dist).and st.qb).mono fun b t g => by rw [g.1, g.2]
      exact AllB.all hA b hb
    · have hoff : ∀ b ∈ BL cs (grown ns cs).1, b.k ≠ k := fun b hb e => hin ⟨b, hb, e⟩
      rw [fwQ_off hk hoff]
      unfold stQ
      rw [bkQ_off hk hoff]
theorem L114l2_eq (h : Form ns cs cl) (hc : ab c ≤ 200000) (p q r : List Int) :
    L114l2_0 ns cs p q ((grown ns cs).1.map fun b => b.fconduit) ((grown ns cs).1.map fun b => b.fnode) (stD ns cs cl c) r (0, stQ0 cs cl c) = some (stQ ns cs cl c) := by
  have T := h.ok.tok
  have hall := h.ok.branches
  have hlen := grown_len h.ok.net.ends
  have hn1 := h.ok.net.n1
  have lenQ0 := stQ0_len cs cl c
  have lenD := stD_len ns cs cl c
  have hnr := stD_nrm h.ok.net h.closing.ok hc
  have h1 := iter_list0 (step := S114l2_0 ns cs p q ((grown ns cs).1.map fun b => b.fconduit) ((grown ns cs).1.map fun b => b.fnode) (stD ns cs cl c) r) (fun i (a : List Int) => ((i : Int), a)) (grown ns cs).1
    (fun i b a => (.inl (a.set (rb cs b).k ((rb cs b).s * zD ((BL cs (grown ns cs).1).drop (i + 1)) (vec (stD ns cs cl c)) (rb cs b).v)) : List Int ⊕ List Int)) (fun a => a) (fun _ a => a.length = cs.length)
    (fun a _ => by simp [S114l2_0]) (fun i b a hx hi ha => by
      refine ⟨?_, fun a' h => by cases h; simp [ha]⟩
      obtain ⟨d, hbr⟩ := hall b (List.mem_of_getElem? hx)
      have g1 : ((grown ns cs).1.map fun b => b.fconduit)[i]? = some b.fconduit := by rw [List.getElem?_map, hx]; rfl
      have g2 : ((grown ns cs).1.map fun b => b.fnode)[i]? = some b.fnode := by rw [List.getElem?_map, hx]; rfl
      have hbi := BL_get (cs := cs) hx
      have lk := (List.getElem?_eq_some_iff.1 hbr.hc).1
      have hin' := allB_drop T.ins (i + 1)
      have zb := zD_bound (D := vec (stD ns cs cl c)) hin' hbr.i.v
      have zb' := ab_ge (zD ((BL cs (grown ns cs).1).drop (i + 1)) (vec (stD ns cs cl c)) (rb cs b).v)
      have zb2 : ab (zD ((BL cs (grown ns cs).1).drop (i + 1)) (vec (stD ns cs cl c)) (rb cs b).v) ≤ nrm ns.length (vec (stD ns cs cl c)) := zb
      simp only [S114l2_0, List.length_map, if_neg (show ¬ (((grown ns cs).1.length : Int) ≤ (i : Int)) by omega), L114l1_eq hall T.ch T.ins (by omega) _ lenD hnr hbi, Option.bind_some, geti_at g1]
      rw [hbr.k, geti_at hbr.hc, geti_at g2, hbr.v, aw_ok (n := (i : Int) + 1) (by omega) (by omega)]
      simp only [geti_n (show (rb cs b).k < a.length by omega)]
      have hne := hbr.i.ne
      rcases hbr.s with ⟨e1, e2, e3⟩ | ⟨e1, e2, e3⟩
      · rw [if_pos e2, e1, Int.one_mul]; simp
      · rw [if_neg (by rw [e3]; omega), e1, aw_ok (n := 0 - zD ((BL cs (grown ns cs).1).drop (i + 1)) (vec (stD ns cs cl c)) (rb cs b).v) (by omega) (by omega), Int.zero_sub, Int.neg_mul, Int.one_mul]; simp) (by omega) (stQ0 cs cl c) lenQ0
  have key : ∀ (l : List Branch) (i : Nat) (a : List Int), (grown ns cs).1.drop i = l → loopL (fun i b a => (.inl (a.set (rb cs b).k ((rb cs b).s * zD ((BL cs (grown ns cs).1).drop (i + 1)) (vec (stD ns cs cl c)) (rb cs b).v)) : List Int ⊕ List Int)) (fun a => a) l i a = fwQ (vec (stD ns cs cl c)) (BL cs l) a := by
    intro l
    induction l with
    | nil => intro i a _; rfl
    | cons b l ih =>
      intro i a hd
      have hd' : (grown ns cs).1.drop (i + 1) = l := by
        have := congrArg (List.drop 1) hd
        simpa [List.drop_drop] using this
      rw [loopL]
      simp only
      rw [ih (i + 1) _ hd', BL_drop, hd']; rfl
  rw [key (grown ns cs).1 0 _ List.drop_zero, fwQ_st h hc] at h1
  exact h1
theorem L114l3_eq (ok : FormOk ns cs) (p q r s Q : List Int) : L114l3_0 ns cs p q r s Q (0, List.replicate ns.length 0) = some (hds ns) := by
  have hn := ok.net.n1
  have h := iter_list0 (step := S114l3_0 ns cs p q r s Q) (fun i (a : List Int) => ((i : Int), a)) ns
    (fun i x a => (.inl (a.set i (1000 * x.fHead)) : List Int ⊕ List Int)) (fun a => a) (fun i a => a.length = ns.length ∧ a.drop i = List.replicate (ns.length - i) 0)
    (fun a _ => by simp [S114l3_0]) (fun i x a hx hi ha => by
      obtain ⟨ha1, ha2⟩ := ha
      have hh := hds_bound ok.net i
      unfold hds at hh
      rw [map_getD _ hx] at hh
      refine ⟨?_, fun a' h => ?_⟩
      · simp only [S114l3_0, if_neg (show ¬ ((ns.length : Int) ≤ (i : Int)) by omega), geti_at hx]
        rw [aw_ok (n := (i : Int) + 1) (by omega) (by omega), geti_n (by omega), aw_ok (n := 1000 * x.fHead) (by omega) (by omega)]
        have hx0 := ok.net.nodes x (List.mem_of_getElem? hx)
        cases hl : x.fLake
        · have hz : a[i]? = some 0 := by
            have := congrArg (fun l : List Int => l[0]?) ha2
            simp only [List.getElem?_drop, Nat.add_zero] at this
            rw [this, List.getElem?_replicate_of_lt (by omega)]
          have : a.set i (1000 * x.fHead) = a := by
            rw [(hx0.junc hl).2]
            apply List.ext_getElem?
            intro j
            by_cases e : i = j
            · subst e; rw [List.getElem?_set_self (by omega), hz]; rfl
            · rw [List.getElem?_set_ne e]
          simp [this]
        · simp
      · cases h
        refine ⟨by simp [ha1], ?_⟩
        rw [List.drop_set_of_lt (by omega)]
        have := congrArg (List.drop 1) ha2
        rw [List.drop_drop, List.drop_replicate] at this
        rw [this, Nat.sub_sub]) (by omega) (List.replicate ns.length 0) ⟨by simp, by simp⟩
  have := fill_loop (fun x : WaterNode => 1000 * x.fHead) ns [] (List.replicate ns.length 0) (by simp)
  simp only [List.nil_append, List.length_nil] at this
  rw [this] at h
  exact h
theorem L114l4_eq (h : Form ns cs cl) (hc : ab c ≤ 200000) (p q : List Int) :
    L114l4_0 ns cs p q ((grown ns cs).1.map fun b => b.fconduit) ((grown ns cs).1.map fun b => b.fnode) (stQ ns cs cl c) (0, hds ns) = some (stH ns cs cl c) := by
  have hall := h.ok.branches
  have hlen := grown_len h.ok.net.ends
  have hn1 := h.ok.net.n1
  have st := (st_ok h.ok h.closing.ok hc 0 [] []).1
  have hcs : ∀ c ∈ cs, 0 ≤ c.fResist ∧ c.fResist ≤ 1000 := fun d hd => by have := h.ok.net.conds d hd; exact ⟨this.r0, this.r1⟩
  have h1 := iter_list0 (step := S114l4_0 ns cs p q ((grown ns cs).1.map fun b => b.fconduit) ((grown ns cs).1.map fun b => b.fnode) (stQ ns cs cl c)) (fun i (a : List Int) => ((i : Int), a)) (grown ns cs).1
    (fun _ b a => (.inl (a.set (rb cs b).v (a.getD (rb cs b).u 0 - lossI (rb cs b).r ((rb cs b).s * (stQ ns cs cl c).getD (rb cs b).k 0))) : List Int ⊕ List Int)) (fun a => a)
    (fun i a => a.length = ns.length ∧ ∀ w, ab (a.getD w 0) ≤ 1000000000 + 250000000000000 * (i : Int))
    (fun a _ => by simp [S114l4_0]) (fun i b a hx hi ha => by
      obtain ⟨ha1, ha2⟩ := ha
      obtain ⟨d, hbr⟩ := hall b (List.mem_of_getElem? hx)
      have g1 : ((grown ns cs).1.map fun b => b.fconduit)[i]? = some b.fconduit := by rw [List.getElem?_map, hx]; rfl
      have g2 : ((grown ns cs).1.map fun b => b.fnode)[i]? = some b.fnode := by rw [List.getElem?_map, hx]; rfl
      obtain ⟨r0, r1⟩ := hcs d (List.mem_of_getElem? hbr.hc)
      have lu := hbr.i.u
      have lv := hbr.i.v
      have hne := hbr.i.ne
      have lk := (List.getElem?_eq_some_iff.1 hbr.hc).1
      have lq := st.lq
      have qq := st.qq (rb cs b).k
      have gu := ha2 (rb cs b).u
      have gu' := ab_ge (a.getD (rb cs b).u 0)
      have lb := loss_bound r0 r1 qq
      have lb' := ab_ge (lossI d.fResist ((stQ ns cs cl c).getD (rb cs b).k 0))
      have hbound : ab (a.getD (rb cs b).u 0 - lossI (rb cs b).r ((rb cs b).s * (stQ ns cs cl c).getD (rb cs b).k 0)) ≤ 1000000000 + 250000000000000 * ((i + 1 : Nat) : Int) := by
        rw [hbr.r]
        rcases hbr.s with ⟨e1, _⟩ | ⟨e1, _⟩
        · rw [e1, Int.one_mul]; exact ab_le (by omega) (by omega)
        · rw [e1, Int.neg_mul, Int.one_mul, loss_opp]; exact ab_le (by omega) (by omega)
      refine ⟨?_, fun a' h => ?_⟩
      · simp only [S114l4_0, List.length_map, if_neg (show ¬ (((grown ns cs).1.length : Int) ≤ (i : Int)) by omega), geti_at g1]
        rw [hbr.k, geti_at hbr.hc, geti_at g2, hbr.v, aw_ok (n := (i : Int) + 1) (by omega) (by omega)]
        rcases hbr.s with ⟨e1, e2, e3⟩ | ⟨e1, e2, e3⟩
        · rw [if_pos e2, e3, e2, geti_n (m := a) (by omega), geti_n (m := stQ ns cs cl c) (by omega), F22_eq, lossV_eq r0 r1 (by omega)]
          simp only [Option.bind_some]
          rw [geti_n (m := a) (by omega), aw_ok (n := a.getD (rb cs b).u 0 - lossI d.fResist ((stQ ns cs cl c).getD (rb cs b).k 0)) (by omega) (by omega), hbr.r, e1, Int.one_mul]
          simp
        · rw [if_neg (by rw [e3]; omega), e3, e2, geti_n (m := a) (by omega), geti_n (m := stQ ns cs cl c) (by omega), F22_eq, lossV_eq r0 r1 (by omega)]
          simp only [Option.bind_some]
          rw [geti_n (m := a) (by omega), aw_ok (n := a.getD (rb cs b).u 0 + lossI d.fResist ((stQ ns cs cl c).getD (rb cs b).k 0)) (by omega) (by omega), hbr.r, e1, Int.neg_mul, Int.one_mul, loss_opp, Int.sub_neg]
          simp
      · cases h
        refine ⟨by rw [List.length_set, ha1], fun w => ?_⟩
        rw [getD_set _ (by omega)]
        split
        · exact hbound
        · have := ha2 w; omega) (by omega) (hds ns) ⟨by simp [hds], fun w => by have := hds_bound h.ok.net w; have : ab ((hds ns).getD w 0) ≤ 1000000000 := ab_le (by omega) (by omega); omega⟩
  have key : ∀ (bs : List Branch) (i : Nat) (a : List Int), loopL (fun (_ : Nat) (b : Branch) (a : List Int) => (.inl (a.set (rb cs b).v (a.getD (rb cs b).u 0 - lossI (rb cs b).r ((rb cs b).s * (stQ ns cs cl c).getD (rb cs b).k 0))) : List Int ⊕ List Int)) (fun a => a) bs i a = fwH (stQ ns cs cl c) (BL cs bs) a := by
    intro bs
    induction bs with
    | nil => intro i a; rfl
    | cons b bs ih => intro i a; rw [loopL]; exact ih _ _
  rw [key] at h1
  exact h1
end
end Go.AI
end
section
/-
  THE REFERENCE's CIRCULATION AND STEADY STATE; THE PLAIN LAW OF WaterFlows.
-/
set_option linter.unusedVariables false
set_option linter.unusedSimpArgs false
namespace Go.AI
theorem L114l0_eq (ns : List WaterNode) (cs : List WaterConduit) (hn : ns.length < 100000) (c cl : Int) (x y t u : List Int) : L114l0_0 c cl ns cs x y t u (0, []) = some (drw ns) := by
  have h := iter_list0 (step := S114l0_0 c cl ns cs x y t u) (fun i (a : List Int) => ((i : Int), a)) ns
    (fun _ x a => (.inl (a ++ [(fun x : WaterNode => x.fDraw) x]) : List Int ⊕ List Int)) (fun a => a) (fun i a => a.length = i)
    (fun a _ => by simp [S114l0_0]) (fun i x a hx hi ha => by
      refine ⟨?_, fun a' h => by cases h; simp [ha]⟩
      simp only [S114l0_0, if_neg (show ¬ ((ns.length : Int) ≤ (i : Int)) by omega), geti_at hx]
      rw [room_le (by omega), aw_ok (n := (i : Int) + 1) (by omega) (by omega)]
      simp) (by omega) [] rfl
  rw [app_loop, List.nil_append] at h
  exact h
section
variable {ns : List WaterNode} {cs : List WaterConduit} {cl : Int}
theorem F97_form (h : Form ns cs cl) : F97_0 ns cs = some (cl, 0) := by
  have hn := h.ok.net.n1; have hc := h.ok.net.c1
  rw [F97_eq h.ok.net.ends (by omega) (by omega), h.e, h.cl]; simp
theorem F137_form (h : Form ns cs cl) : F137_0 ns cs = some (true, (grown ns cs).1.map (fun b => b.fconduit), (grown ns cs).1.map (fun b => b.fnode)) := by
  have hn := h.ok.net.n1; have hc := h.ok.net.c1
  rw [F137_eq h.ok.net.ends (by omega) (by omega), h.ok.gap]; simp
theorem F114_form (h : Form ns cs cl) {c : Int} (hc : ab c ≤ 200000) : F114_0 c ns cs = some (stQ ns cs cl c, stH ns cs cl c) := by
  have hn := h.ok.net.n1
  have hcn := h.ok.net.c1
  have hg := ab_ge c
  unfold F114_0
  rw [F137_form h, F97_form h]
  simp only [bind3_some, bind2_some]
  rw [L114l0_eq ns cs (by omega), Option.bind_some, inx_nat (show cs.length < 140737488355329 by omega)]
  simp only [Option.bind_some]
  rw [room_le (by omega), inx_nat (show ns.length < 140737488355329 by omega)]
  simp only [Option.bind_some]
  rw [room_le (by omega)]
  by_cases h0 : 0 ≤ cl
  · obtain ⟨k, x, hk, hx, hoff⟩ := h.cond h0
    have hcx := h.ok.net.conds x (List.mem_of_getElem? hx)
    have h1 := hcx.f0; have h2 := hcx.f1; have h3 := hcx.t0; have h4 := hcx.t1; have h5 := hcx.ne
    have hne : to x ≠ fr x := by unfold fr to; omega
    have lk := (List.getElem?_eq_some_iff.1 hx).1
    have l : (drw ns).length = ns.length := by simp [drw]
    have bf := drw_bound h.ok.net (fr x)
    have bt := drw_bound h.ok.net (to x)
    have bf' := ab_ge ((drw ns).getD (fr x) 0)
    have bt' := ab_ge ((drw ns).getD (to x) 0)
    rw [if_pos h0, hk, geti_at hx, geti_n (m := List.replicate cs.length (0 : Int)) (by simpa using lk), geti_z h1 (by omega), show x.fFrom.toNat = fr x from rfl, geti_z h3 (by rw [List.length_set]; omega), show x.fTo.toNat = to x from rfl]
    rw [getD_set _ (by unfold fr; omega), if_neg hne, aw_ok (n := (drw ns).getD (fr x) 0 + c) (by omega) (by omega), aw_ok (n := (drw ns).getD (to x) 0 - c) (by omega) (by omega)]
    have eD : ((drw ns).set (fr x) ((drw ns).getD (fr x) 0 + c)).set (to x) ((drw ns).getD (to x) 0 - c) = stD ns cs (k : Int) c := by
      unfold stD; rw [if_pos (by omega)]; simp only [Int.toNat_natCast, hx]
    have eQ : (List.replicate cs.length (0 : Int)).set k c = stQ0 cs (k : Int) c := by
      unfold stQ0; rw [if_pos (by omega), Int.toNat_natCast]
    rw [eD, eQ]
    rw [hk] at h
    rw [L114l2_eq h hc, Option.bind_some, L114l3_eq h.ok, Option.bind_some, L114l4_eq h hc]; rfl
  · rw [if_neg h0]
    have eD : drw ns = stD ns cs cl c := by unfold stD; rw [if_neg h0]
    have eQ : List.replicate cs.length (0 : Int) = stQ0 cs cl c := by unfold stQ0; rw [if_neg h0]
    rw [eQ, eD, L114l2_eq h hc, Option.bind_some, L114l3_eq h.ok, Option.bind_some, L114l4_eq h hc]; rfl
theorem F112_form (h : Form ns cs cl) {k : Nat} {x : WaterConduit} (hk : cl = k) (hx : cs[k]? = some x) (hoff : ∀ b ∈ BL cs (grown ns cs).1, b.k ≠ k) {c : Int} (hc : ab c ≤ 200000) : F112_0 c ns cs = some (gapF ns cs x c) := by
  have hcx := h.ok.net.conds x (List.mem_of_getElem? hx)
  have h1 := hcx.f0; have h2 := hcx.f1; have h3 := hcx.t0; have h4 := hcx.t1
  have st := (st_ok h.ok h.closing.ok hc 0 [] []).1
  have b1 := loss_bound hcx.r0 hcx.r1 hc
  have b1' := ab_ge (lossI x.fResist c)
  have b2 := st.hb (fr x)
  have b2' := ab_ge ((stH ns cs cl c).getD (fr x) 0)
  have b3 := st.hb (to x)
  have b3' := ab_ge ((stH ns cs cl c).getD (to x) 0)
  have lh := st.lh
  have hgs := gap_st h.ok hx hoff hc
  rw [← hk] at hgs
  unfold F112_0
  rw [F97_form h]
  simp only [bind2_some]
  rw [hk, geti_at hx, F114_form h hc]
  simp only [bind2_some, F22_eq, Option.bind_some]
  rw [lossV_eq hcx.r0 hcx.r1 (by omega), geti_z h1 (by omega), geti_z h3 (by omega), show x.fFrom.toNat = fr x from rfl, show x.fTo.toNat = to x from rfl]
  rw [aw_ok (n := (stH ns cs cl c).getD (fr x) 0 - (stH ns cs cl c).getD (to x) 0) (by omega) (by omega), hgs, aw_ok (by rw [← hgs]; omega) (by rw [← hgs]; omega)]
theorem floor2 {a : Int} (h : ab a ≤ 1000000) : F113_0 a 2 = some (a / 2) := by
  have g := ab_ge a
  unfold F113_0
  rw [if_neg (by decide)]
  by_cases p : 0 ≤ a
  · rw [Int.tdiv_eq_ediv_of_nonneg p, Int.tmod_eq_emod_of_nonneg p, if_pos (by omega), aw_ok (by omega) (by omega)]
  · obtain ⟨b, rfl⟩ : ∃ b, a = -b := ⟨-a, by omega⟩
    rw [Int.neg_tdiv, Int.neg_tmod, Int.tdiv_eq_ediv_of_nonneg (by omega), Int.tmod_eq_emod_of_nonneg (by omega)]
    by_cases e : b % 2 = 0
    · rw [if_pos (by omega), aw_ok (by omega) (by omega)]; congr 1; omega
    · rw [if_neg (by omega), aw_ok (n := -(b / 2)) (by omega) (by omega), aw_ok (by omega) (by omega)]; congr 1; omega
theorem F53_form (h : Form ns cs cl) : (flatN ns cs cl = true ∧ F53_0 ns cs = some (0, 0, 11)) ∨ (flatN ns cs cl = false ∧ ∃ lo hi, F53_0 ns cs = some (lo, hi, 0) ∧ CircN ns cs cl lo hi) := by
  unfold F53_0
  rw [F97_form h]
  simp only [bind2_some]
  by_cases h0 : 0 ≤ cl
  · obtain ⟨k, x, hk, hx, hoff⟩ := h.cond h0
    have hG := fun {c : Int} (hc : ab c ≤ 200000) => F112_form h hk hx hoff hc
    rw [if_pos h0, hG ab_M.1, hG ab_M.2, flatN_at hk hx]
    simp only [Option.bind_some]
    cases hf : flatC ns cs x
    · right
      refine ⟨rfl, ?_⟩
      have hne : ¬ gapF ns cs x (-200000) = gapF ns cs x 200000 := fun e => by unfold flatC at hf; rw [decide_eq_true e] at hf; cases hf
      rw [if_neg hne]
      obtain ⟨r, hr, a1, a2, a3, a4⟩ := least_iter (step := S53l0_0 ns cs) (p := fun c => decide (0 ≤ gapF ns cs x c)) (lo := -200000) (hi := 200000) (by omega) (by omega) (by omega)
        (fun a b h => by simp [S53l0_0, h]) (fun a b b1 b2 b3 => by
          have hm : (b - a) / 2 ≤ b - a := by omega
          have hm0 : 0 ≤ (b - a) / 2 := by omega
          have hm2 : a + (b - a) / 2 < b := by omega
          have e : (a + b) / 2 = a + (b - a) / 2 := by omega
          simp only [S53l0_0, if_neg (show ¬ b ≤ a by omega)]
          rw [aw_ok (n := a + b) (by omega) (by omega), floor2 (ab_le (by omega) (by omega)), e]
          simp only [Option.bind_some]
          rw [hG (ab_le (by omega) (by omega)), aw_ok (n := a + (b - a) / 2 + 1) (by omega) (by omega)]
          simp only [Option.bind_some]
          by_cases hp : 0 ≤ gapF ns cs x (a + (b - a) / 2) <;> simp [hp])
      have hc := least_circ h hk hx hf a1 a2 (fun e => by simpa using a3 e) (fun e => by simpa using a4 e)
      refine ⟨if gapF ns cs x r = 0 then r else r - 1, r, ?_, .inr ⟨k, x, hk, hx, hf, hc⟩⟩
      unfold L53l0_0
      rw [hr]
      simp only [Option.bind_some]
      rw [hG (ab_le (by omega) (by omega)), aw_ok (n := r - 1) (by omega) (by omega)]
      simp only [Option.bind_some]
      by_cases e : gapF ns cs x r = 0 <;> simp [e]
    · left
      have he : gapF ns cs x (-200000) = gapF ns cs x 200000 := by unfold flatC at hf; exact of_decide_eq_true hf
      rw [if_pos he]; exact ⟨rfl, rfl⟩
  · right
    rw [if_neg h0]
    refine ⟨by unfold flatN; rw [if_neg h0], 0, 0, rfl, .inl ⟨by omega, rfl, rfl⟩⟩
/-! the reference's ranges -/
theorem L54l0_eq (x y : List Range) (a p b q : List Int) (z : List Range) (h : a.length = b.length) (hl : a.length < 100000) : L54l0_0 ns cs x y a p b q z (0, []) = some (rngI b a 0) := by
  have h1 := iter_list0 (step := S54l0_0 ns cs x y a p b q z) (fun i (l : List Range) => ((i : Int), l)) a (bodyR b) (fun l => l) (fun i l => l.length = i)
    (fun l _ => by simp [S54l0_0]) (fun i x l hx hi hl => by
      refine ⟨?_, fun a' h => by cases h; simp [hl]⟩
      simp only [S54l0_0, if_neg (show ¬ ((a.length : Int) ≤ (i : Int)) by omega), geti_at hx]
      rw [geti_n (by omega), room_le (by omega), aw_ok (n := (i : Int) + 1) (by omega) (by omega)]
      simp [bodyR]) (by omega) [] rfl
  rw [rng_loop, List.nil_append] at h1
  exact h1
theorem L54l1_eq (x y : List Range) (p a q b : List Int) (z : List Range) (h : a.length = b.length) (hl : a.length < 100000) : L54l1_0 ns cs x y p a q b z (0, []) = some (rngI b a 0) := by
  have h1 := iter_list0 (step := S54l1_0 ns cs x y p a q b z) (fun i (l : List Range) => ((i : Int), l)) a (bodyR b) (fun l => l) (fun i l => l.length = i)
    (fun l _ => by simp [S54l1_0]) (fun i x l hx hi hl => by
      refine ⟨?_, fun a' h => by cases h; simp [hl]⟩
      simp only [S54l1_0, if_neg (show ¬ ((a.length : Int) ≤ (i : Int)) by omega), geti_at hx]
      rw [geti_n (by omega), room_le (by omega), aw_ok (n := (i : Int) + 1) (by omega) (by omega)]
      simp [bodyR]) (by omega) [] rfl
  rw [rng_loop, List.nil_append] at h1
  exact h1
theorem F54_form (h : Form ns cs cl) {lo hi : Int} (r1 : ab lo ≤ 200000) (r2 : ab hi ≤ 200000) : F54_0 lo hi ns cs = some (stdQ ns cs cl lo hi, stdH ns cs cl lo hi) := by
  have s1 := (st_ok h.ok h.closing.ok r1 0 [] []).1
  have s2 := (st_ok h.ok h.closing.ok r2 0 [] []).1
  have n1 := h.ok.net.n1
  have c1 := h.ok.net.c1
  have q1 := s1.lq; have q2 := s2.lq; have k1 := s1.lh; have k2 := s2.lh
  unfold F54_0
  rw [F114_form h r1, F114_form h r2]
  simp only [bind2_some]
  rw [L54l0_eq _ _ _ _ _ _ _ (by omega) (by omega), Option.bind_some, L54l1_eq _ _ _ _ _ _ _ (by omega) (by omega), Option.bind_some]
  rfl
end
structure NoForm (ns : List WaterNode) (cs : List WaterConduit) (e : Int) : Prop where
  ne : e ≠ 0
  o : F106_0 ns cs = some (.inr e) ∨ ∃ a, F106_0 ns cs = some (.inl (a, e, (grown ns cs).1))
  t : F99_0 ns cs = some (.inr e) ∨ ∃ a, F99_0 ns cs = some (.inl (a, e, (grown ns cs).1))
theorem no_form {ns : List WaterNode} {cs : List WaterConduit} (hf : FewN ns cs) (h : ¬ ((checkNet ns cs).2 = 0 ∧ formE ns cs = 0)) : NoForm ns cs (if (checkNet ns cs).2 = 0 then formE ns cs else (checkNet ns cs).2) := by
  by_cases hd : (checkNet ns cs).2 = 0
  · have he : formE ns cs ≠ 0 := fun e => h ⟨hd, e⟩
    obtain ⟨a, ha⟩ := F99_bad hf hd
    rw [if_pos hd]
    refine ⟨he, .inr ⟨a, ?_⟩, .inr ⟨a, ha⟩⟩
    unfold F106_0; rw [ha]; simp [he]
  · rw [if_neg hd]
    refine ⟨hd, .inl ?_, .inl (F99_no hf hd)⟩
    unfold F106_0; rw [F99_no hf hd]; simp [hd]
end Go.AI
end
section
/-
  A NET WITH ANOTHER DRAW; ANSWERS FOR A HEAD; THE PLAIN LAW OF WaterHeads.
-/
set_option linter.unusedVariables false
set_option linter.unusedSimpArgs false
namespace Go.AI
def nsD (ns : List WaterNode) (j : Nat) (x : WaterNode) (d : Int) : List WaterNode := ns.set j { x with fDraw := d }
section
variable {ns : List WaterNode} {cs : List WaterConduit} {cl : Int} {j : Nat} {x : WaterNode} {d : Int}
theorem nsD_len : (nsD ns j x d).length = ns.length := by simp [nsD]
theorem nsD_get (hx : ns[j]? = some x) : (nsD ns j x d)[j]? = some { x with fDraw := d } := by
  unfold nsD; rw [List.getElem?_set_self (List.getElem?_eq_some_iff.1 hx).1]
theorem nsD_map {α : Type} (f : WaterNode → α) (hx : ns[j]? = some x) (hf : f { x with fDraw := d } = f x) : (nsD ns j x d).map f = ns.map f := by
  unfold nsD
  rw [List.map_set, hf]
  apply List.ext_getElem?
  intro i
  by_cases e : j = i
  · subst e
    rw [List.getElem?_set_self (by simpa using (List.getElem?_eq_some_iff.1 hx).1), List.getElem?_map, hx]; rfl
  · rw [List.getElem?_set_ne e]
theorem nsD_lakes (hx : ns[j]? = some x) : lakes (nsD ns j x d) = lakes ns := nsD_map _ hx rfl
theorem nsD_hds (hx : ns[j]? = some x) : hds (nsD ns j x d) = hds ns := nsD_map _ hx rfl
theorem nsD_grown (hx : ns[j]? = some x) : grown (nsD ns j x d) cs = grown ns cs := by unfold grown; rw [nsD_len, nsD_lakes hx]
theorem nsD_ok (hx : ns[j]? = some x) (hl : x.fLake = false) (hd : ab d ≤ 10000) (h : NetOk ns cs) : NetOk (nsD ns j x d) cs := by
  have g := ab_ge d
  refine ⟨by rw [nsD_len]; exact h.n0, by rw [nsD_len]; exact h.n1, h.c0, h.c1, fun y hy => ?_, fun c hc => by rw [nsD_len]; exact h.conds c hc⟩
  unfold nsD at hy
  rcases List.mem_or_eq_of_mem_set hy with hm | rfl
  · exact h.nodes y hm
  · have := h.nodes x (List.mem_of_getElem? hx)
    exact ⟨fun e => (by rw [show ({ x with fDraw := d } : WaterNode).fLake = x.fLake from rfl, hl] at e; cases e), fun _ => ⟨(by constructor <;> simp only <;> omega), (this.junc hl).2⟩⟩
theorem nsD_form (hx : ns[j]? = some x) (hl : x.fLake = false) (hd : ab d ≤ 10000) (h : Form ns cs cl) : Form (nsD ns j x d) cs cl :=
  ⟨⟨nsD_ok hx hl hd h.ok.net, by rw [nsD_grown hx]; exact h.ok.gap⟩, by rw [nsD_grown hx]; exact h.cl⟩
theorem nsD_tnet (hx : ns[j]? = some x) : tnet (nsD ns j x d) cs = tnet ns cs := by unfold tnet; rw [nsD_len, nsD_grown hx, nsD_lakes hx, nsD_hds hx]
theorem nsD_flat (hx : ns[j]? = some x) (hl : x.fLake = false) (hd : ab d ≤ 10000) (h : Form ns cs cl) : flatN (nsD ns j x d) cs cl = flatN ns cs cl := by
  by_cases h0 : 0 ≤ cl
  · obtain ⟨k, y, hk, hy, _⟩ := h.cond h0
    rw [flatN_at hk hy, flatN_at hk hy]
    have a := flat_iff (nsD_form hx hl hd h).ok hy
    have b := flat_iff h.ok hy
    rw [nsD_tnet hx] at a
    cases p : flatC (nsD ns j x d) cs y <;> cases q : flatC ns cs y
    · rfl
    · rw [b.1 q |> a.2] at p; cases p
    · rw [a.1 p |> b.2] at q; cases q
    · rfl
  · unfold flatN; rw [if_neg h0, if_neg h0]
end
/-! answers -/
def ansV (r : Range) (limit : Int) : Int := if limit ≤ r.fLo then 2 else if limit ≤ r.fHi then 1 else 0
theorem F125_eq (r : Range) (limit : Int) : F125_0 r.fLo r.fHi limit = some (ansV r limit) := by unfold F125_0 ansV; split <;> (try split) <;> rfl
section
variable {ns : List WaterNode} {cs : List WaterConduit} {cl : Int}
theorem stdH_len (h : Form ns cs cl) {lo hi : Int} (hc : CircN ns cs cl lo hi) : (stdH ns cs cl lo hi).length = ns.length := by
  have s1 := (st_ok h.ok h.closing.ok hc.range.1 0 [] []).1
  unfold stdH; rw [rngI_len, s1.lh]
theorem answer_eq (h : Form ns cs cl) (hf : flatN ns cs cl = false) {node : Nat} (hn : node < ns.length) (limit : Int) :
    ∃ (lo hi : Int) (r : Range), CircN ns cs cl lo hi ∧ F110_0 cl ns cs (grown ns cs).1 = some (stdQ ns cs cl lo hi, stdH ns cs cl lo hi) ∧ (stdH ns cs cl lo hi)[node]? = some r ∧ F65_0 (node : Int) limit ns cs = some (ansV r limit) := by
  obtain ⟨lo, hi, h7, hc⟩ := F107_eq h hf
  obtain ⟨r1, r2, _, _⟩ := hc.range
  have hl := stdH_len h hc
  have hr : (stdH ns cs cl lo hi)[node]? = some (stdH ns cs cl lo hi)[node] := List.getElem?_eq_getElem (by omega)
  refine ⟨lo, hi, (stdH ns cs cl lo hi)[node], hc, F110_form h h7 hc, hr, ?_⟩
  rcases F53_form h with ⟨e, _⟩ | ⟨_, lo', hi', e53, hc'⟩
  · rw [hf] at e; cases e
  · obtain ⟨rfl, rfl⟩ := hc.unique h hc'
    unfold F65_0
    rw [e53]
    simp only [bind3_some, F54_form h r1 r2, bind2_some, geti_at hr]
    unfold ansV; split <;> (try split) <;> rfl
theorem most_loop (hfew : FewN ns cs) (h : Form ns cs cl) (hf : flatN ns cs cl = false) {j : Nat} {x : WaterNode} (hx : ns[j]? = some x) (hl : x.fLake = false) (hd : -10000 ≤ x.fDraw) (hd2 : x.fDraw ≤ 9900) (limit : Int) (a : List WaterNode) (p1 : ByteArray) (p2 : Bool) (p3 : Int) :
    ∀ (m : Nat) (nx : List WaterNode), m ≤ 100 → (nx = ns ∨ ∃ d, nx = nsD ns j x d) →
      ∃ r, iter (S62l0_0 (j : Int) limit a cs cl (grown ns cs).1 p1 p2 p3 x.fDraw) (m + 2) ((m : Int), nx) = some r ∧ iter (S64l0_0 (j : Int) limit ns cs) (m + 2) (m : Int) = some r ∧
        ((∃ k : Nat, r = .inl (k : Int) ∧ k ≤ m ∧ F65_0 (j : Int) limit (nsD ns j x (x.fDraw + k)) cs = some 2 ∧ ∀ i : Nat, k < i → i ≤ m → F65_0 (j : Int) limit (nsD ns j x (x.fDraw + i)) cs ≠ some 2) ∨ r = .inr ()) := by
  have hjl := (List.getElem?_eq_some_iff.1 hx).1
  -- one round
  have hround : ∀ (m : Nat) (nx : List WaterNode), m ≤ 100 → (nx = ns ∨ ∃ d, nx = nsD ns j x d) → ∃ v, F65_0 (j : Int) limit (nsD ns j x (x.fDraw + m)) cs = some v ∧
      S62l0_0 (j : Int) limit a cs cl (grown ns cs).1 p1 p2 p3 x.fDraw ((m : Int), nx) = some (if v = 2 then .inr (.inl (m : Int)) else .inl ((m : Int) - 1, nsD ns j x (x.fDraw + m))) ∧
      S64l0_0 (j : Int) limit ns cs (m : Int) = some (if v = 2 then .inr (.inl (m : Int)) else .inl ((m : Int) - 1)) := by
    intro m nx hm hnx
    have hab : ab (x.fDraw + (m : Int)) ≤ 10000 := ab_le (by omega) (by omega)
    have hF := nsD_form (d := x.fDraw + (m : Int)) hx hl hab h
    have hfl : flatN (nsD ns j x (x.fDraw + (m : Int))) cs cl = false := by rw [nsD_flat hx hl hab h, hf]
    obtain ⟨lo, hi, r, hc, h110, hr, h65⟩ := answer_eq hF hfl (node := j) (by rw [nsD_len]; exact hjl) limit
    rw [nsD_grown hx] at h110
    refine ⟨ansV r limit, h65, ?_, ?_⟩
    · have hget : ∃ y, nx[j]? = some y ∧ nx.set j ({ y with fDraw := x.fDraw + (m : Int) } : WaterNode) = nsD ns j x (x.fDraw + (m : Int)) := by
        rcases hnx with rfl | ⟨d, rfl⟩
        · exact ⟨x, hx, rfl⟩
        · refine ⟨_, nsD_get hx, ?_⟩
          unfold nsD; rw [List.set_set]
      obtain ⟨y, hy, hset⟩ := hget
      simp only [S62l0_0, if_pos (show (0 : Int) ≤ (m : Int) by omega), geti_at hy]
      rw [aw_ok (n := x.fDraw + (m : Int)) (by omega) (by omega), hset, h110]
      simp only [bind2_some, geti_at hr, F125_eq, Option.bind_some]
      rw [aw_ok (n := (m : Int) - 1) (by omega) (by omega)]
      split <;> rfl
    · simp only [S64l0_0, if_pos (show (0 : Int) ≤ (m : Int) by omega), F17_eq ns cs hfew, Option.bind_some, geti_at hx]
      rw [aw_ok (n := x.fDraw + (m : Int)) (by omega) (by omega)]
      have e : ns.set j ({ x with fDraw := x.fDraw + (m : Int) } : WaterNode) = nsD ns j x (x.fDraw + (m : Int)) := rfl
      rw [e, h65]
      simp only [Option.bind_some]
      rw [aw_ok (n := (m : Int) - 1) (by omega) (by omega)]
      split <;> rfl
  intro m
  induction m with
  | zero =>
    intro nx hm hnx
    obtain ⟨v, h65, h1, h2⟩ := hround 0 nx hm hnx
    by_cases hv : v = 2
    · rw [if_pos hv] at h1 h2
      exact ⟨.inl ((0 : Nat) : Int), iter_out h1 _, iter_out h2 _, .inl ⟨0, rfl, Nat.le_refl _, by rw [h65, hv], fun i a b => by omega⟩⟩
    · rw [if_neg hv] at h1 h2
      refine ⟨.inr (), iter_in h1 (iter_out ?_ 0), iter_in h2 (iter_out ?_ 0), .inr rfl⟩
      · simp [S62l0_0]
      · simp [S64l0_0]
  | succ m ih =>
    intro nx hm hnx
    obtain ⟨v, h65, h1, h2⟩ := hround (m + 1) nx hm hnx
    by_cases hv : v = 2
    · rw [if_pos hv] at h1 h2
      exact ⟨.inl ((m + 1 : Nat) : Int), iter_out h1 _, iter_out h2 _, .inl ⟨m + 1, rfl, Nat.le_refl _, by rw [h65, hv], fun i a b => by omega⟩⟩
    · rw [if_neg hv, show ((m + 1 : Nat) : Int) - 1 = (m : Int) from by omega] at h1 h2
      obtain ⟨r, i1, i2, i3⟩ := ih _ (by omega) (.inr ⟨_, rfl⟩)
      refine ⟨r, iter_in h1 i1, iter_in h2 i2, ?_⟩
      rcases i3 with ⟨k, e1, e2, e3, e4⟩ | e
      · refine .inl ⟨k, e1, by omega, e3, fun i a b => ?_⟩
        by_cases q : i = m + 1
        · rw [q, h65]; intro e; cases e; exact hv rfl
        · exact e4 i a (by omega)
      · exact .inr e
def nodeErrV (n : Nat) (node : Int) : Int := if 0 ≤ node ∧ node ≤ (n : Int) - 1 then 0 else 6
theorem F88_eq (node : Int) (hn : ns.length < 100000) : F88_0 node ns cs = some (nodeErrV ns.length node) := by
  unfold F88_0 nodeErrV
  rw [F74_eq, aw_ok (by omega) (by omega)]
  simp only [Option.bind_some, F72_eq]
  by_cases a : 0 ≤ node <;> by_cases b : node ≤ (ns.length : Int) - 1 <;> simp [a, b]
theorem F33_eq (node : Int) (hn : ns.length < 100000) : F33_0 node ns cs = some (nodeErrV ns.length node) := by
  unfold F33_0 nodeErrV
  rw [F20_eq, aw_ok (by omega) (by omega)]
  simp only [Option.bind_some]
  by_cases a : 0 ≤ node <;> by_cases b : node ≤ (ns.length : Int) - 1 <;> simp [a, b]
def limE (limit : Int) : Int := if 0 ≤ limit ∧ limit ≤ 1000000000 then 0 else 2
theorem F124_form (hd : (checkNet ns cs).2 = 0) (hf : FewN ns cs) (h : Form ns cs cl) (node limit : Int) :
    F124_0 node limit ns cs = some (.inl (cl, firstNZ [if flatN ns cs cl = true then 11 else 0, nodeErrV ns.length node, limE limit], (grown ns cs).1)) := by
  have hn := hf.n
  unfold F124_0; rw [F106_form hd hf h]
  simp only [Option.bind_some, F88_eq node (show ns.length < 100000 by omega), f71_3, F72_eq, F74_eq]
  unfold limE
  by_cases a : 0 ≤ limit <;> by_cases b : limit ≤ 1000000000 <;> simp [a, b]
theorem F88_none (node : Int) : ∃ e, F88_0 node ([] : List WaterNode) ([] : List WaterConduit) = some e := ⟨_, F88_eq node (by simp)⟩
theorem F124_no {e : Int} (h : NoForm ns cs e) (hn : ns.length < 100000) (node limit : Int) : (F124_0 node limit ns cs = some (.inr e)) ∨ ∃ a, F124_0 node limit ns cs = some (.inl (a, e, (grown ns cs).1)) := by
  have hne := h.ne
  unfold F124_0
  rcases h.o with g | ⟨a, g⟩
  · left; rw [g]
    obtain ⟨z, hz⟩ := F88_none node
    simp [hz, F74_eq, F72_eq, f71_3, firstNZ, hne]
  · right; refine ⟨a, ?_⟩
    rw [g]; simp [F88_eq node hn, F74_eq, F72_eq, f71_3, firstNZ, hne]
end
theorem plainWaterHeads (node limit : Int) (ns : List WaterNode) (cs : List WaterConduit) : F11_0 node limit ns cs = some true := by
  unfold F11_0
  rcases F15_spec ns cs with h | ⟨h, hf⟩
  · rw [h]; rfl
  · have hn := hf.n
    have hn' : ns.length < 100000 := by omega
    rw [h]
    simp only [Option.bind_some, if_true, F17_eq ns cs hf]
    by_cases hd : (checkNet ns cs).2 = 0 ∧ formE ns cs = 0
    · obtain ⟨cl, F⟩ := form_of hd.1 hd.2
      have f124 := F124_form hd.1 hf F node limit
      rcases F53_form F with ⟨hfl, e53⟩ | ⟨hfl, lo, hi, e53, hc⟩
      · have e63 : F63_0 node limit ns cs = some 11 := by unfold F63_0; rw [F38_few hf]; simp [hd.1, hd.2, e53]
        have e61 : F61_0 node limit ns cs = some (0, 11) := by unfold F61_0; rw [f124, hfl]; simp [firstNZ]
        have e62 : F62_0 node limit ns cs = some (0, 11) := by unfold F62_0; rw [f124, hfl]; simp [firstNZ]
        rw [e61, e62, e63]; simp
      · rw [hfl, if_neg (show ¬ (false = true) by decide)] at f124
        by_cases hnode : 0 ≤ node ∧ node ≤ (ns.length : Int) - 1
        · have en : nodeErrV ns.length node = 0 := if_pos hnode
          by_cases hlim : 0 ≤ limit ∧ limit ≤ 1000000000
          · have el : limE limit = 0 := if_pos hlim
            rw [en, el] at f124
            obtain ⟨j, rfl⟩ : ∃ j : Nat, node = j := ⟨node.toNat, by omega⟩
            have hj : j < ns.length := by omega
            have hx : ns[j]? = some ns[j] := List.getElem?_eq_getElem hj
            generalize ns[j] = x at hx
            have e63 : F63_0 (j : Int) limit ns cs = some 0 := by
              unfold F63_0; rw [F38_few hf]; simp [hd.1, hd.2, e53, F33_eq (cs := cs) (j : Int) hn', en, F20_eq, hlim.1, hlim.2]
            obtain ⟨lo', hi', r, hc', h110, hr, h65⟩ := answer_eq F hfl hj limit
            have e61 : F61_0 (j : Int) limit ns cs = some (ansV r limit, 0) := by
              unfold F61_0; rw [f124]; simp [firstNZ, h110, geti_at hr, F125_eq]
            have e6264 : ∃ m e, F62_0 (j : Int) limit ns cs = some (m, e) ∧ F64_0 (j : Int) limit ns cs = some (m, e) := by
              have hxo := F.ok.net.nodes x (List.mem_of_getElem? hx)
              unfold F62_0 F64_0
              rw [f124]
              simp only [Option.bind_some, firstNZ, if_true, geti_at hx, F72_eq, f71_2]
              cases hl : x.fLake
              · by_cases hdr : x.fDraw ≤ 9900
                · obtain ⟨r', g1, g2, g3⟩ := most_loop hf F hfl hx hl (by have := (hxo.junc hl).1; omega) hdr limit ns x.fName false x.fHead 100 ns (by omega) (.inl rfl)
                  simp only [hdr, decide_true, if_true, Bool.not_false, F126_0]
                  rw [if_neg (by omega), room_le (by omega)]
                  simp only [Option.bind_some]
                  unfold L62l0_0 L64l0_0
                  have g1' := iter_mono g1 (show 102 ≤ 1000000 by omega)
                  have g2' := iter_mono g2 (show 102 ≤ 1000000 by omega)
                  rw [show ((100 : Nat) : Int) = (100 : Int) from rfl] at g1' g2'
                  rw [g1', g2']
                  rcases g3 with ⟨k, rfl, _⟩ | rfl
                  · exact ⟨_, _, rfl, rfl⟩
                  · exact ⟨_, _, rfl, rfl⟩
                · exact ⟨0, 2, by simp [hdr], by simp [hdr]⟩
              · exact ⟨0, 15, by simp, by simp⟩
            obtain ⟨m, e, e62, e64⟩ := e6264
            rw [e61, e62, e63, e64, h65]; simp
          · have el : limE limit = 2 := if_neg hlim
            rw [en, el] at f124
            have hl2 : (decide (0 ≤ limit) && decide (limit ≤ 1000000000)) = false := by
              by_cases a : 0 ≤ limit <;> by_cases b : limit ≤ 1000000000 <;> simp [a, b]
              exact hlim ⟨a, b⟩
            have e63 : F63_0 node limit ns cs = some 2 := by unfold F63_0; rw [F38_few hf]; simp [hd.1, hd.2, e53, F33_eq (cs := cs) node hn', en, F20_eq, hl2]
            have e61 : F61_0 node limit ns cs = some (0, 2) := by unfold F61_0; rw [f124]; simp [firstNZ]
            have e62 : F62_0 node limit ns cs = some (0, 2) := by unfold F62_0; rw [f124]; simp [firstNZ]
            rw [e61, e62, e63]; simp
        · have en : nodeErrV ns.length node = 6 := if_neg hnode
          rw [en] at f124
          have e63 : F63_0 node limit ns cs = some 6 := by unfold F63_0; rw [F38_few hf]; simp [hd.1, hd.2, e53, F33_eq (cs := cs) node hn', en]
          have e61 : F61_0 node limit ns cs = some (0, 6) := by unfold F61_0; rw [f124]; simp [firstNZ]
          have e62 : F62_0 node limit ns cs = some (0, 6) := by unfold F62_0; rw [f124]; simp [firstNZ]
          rw [e61, e62, e63]; simp
    · have N := no_form hf hd
      have hne := N.ne
      have e63 : F63_0 node limit ns cs = some (if (checkNet ns cs).2 = 0 then formE ns cs else (checkNet ns cs).2) := by
        unfold F63_0; rw [F38_few hf]; simp only [Option.bind_some, if_neg hne]
      generalize (if (checkNet ns cs).2 = 0 then formE ns cs else (checkNet ns cs).2) = e at N hne e63
      have e61 : F61_0 node limit ns cs = some (0, e) := by
        unfold F61_0; rcases F124_no N hn' node limit with g | ⟨a, g⟩ <;> rw [g] <;> simp [hne]
      have e62 : F62_0 node limit ns cs = some (0, e) := by
        unfold F62_0; rcases F124_no N hn' node limit with g | ⟨a, g⟩ <;> rw [g] <;> simp [hne]
      rw [e61, e62, e63]; simp [hne]
end Go.AI
end
