import Derived.Test.YtfglifekecijjaaGPlGap
section
/-
  THE CLOSING CONDUIT; WHAT THE PROGRAM's FUNCTIONS OF A NET OF A RIGHT FORM RETURN.
-/
set_option linter.unusedVariables false
set_option linter.unusedSimpArgs false
namespace Go.AI
def Opens (bs : List Branch) (cs : List WaterConduit) (i : Nat) (P : Nat → Prop) : Prop := ∀ (k : Nat) (c : WaterConduit), cs[k]? = some c → c.fOpen = true → hasK bs ((i + k : Nat) : Int) = true ∨ P (i + k)
theorem close_loop {bs : List Branch} : ∀ (cs : List WaterConduit) (i : Nat) (a r : Int), loopL (bodyCl bs) (fun a => (.inl a : Int ⊕ Int)) cs i a = .inl r →
    (r = a ∧ Opens bs cs i fun _ => False) ∨ (a < 0 ∧ ∃ (k : Nat) (c : WaterConduit), r = ((i + k : Nat) : Int) ∧ cs[k]? = some c ∧ c.fOpen = true ∧ hasK bs ((i + k : Nat) : Int) = false ∧ Opens bs cs i fun j => j = i + k) := by
  intro cs
  induction cs with
  | nil => intro i a r h; cases h; left; exact ⟨rfl, fun k c h => by simp at h⟩
  | cons d cs ih =>
    intro i a r h
    rw [loopL] at h
    have hskip : (d.fOpen = true → hasK bs (i : Int) = true) → loopL (bodyCl bs) (fun a => (.inl a : Int ⊕ Int)) cs (i + 1) a = .inl r →
        (r = a ∧ Opens bs (d :: cs) i fun _ => False) ∨ (a < 0 ∧ ∃ (k : Nat) (c : WaterConduit), r = ((i + k : Nat) : Int) ∧ (d :: cs)[k]? = some c ∧ c.fOpen = true ∧ hasK bs ((i + k : Nat) : Int) = false ∧ Opens bs (d :: cs) i fun j => j = i + k) := by
      intro hd h
      rcases ih (i + 1) a r h with ⟨h1, h2⟩ | ⟨h1, k, c, h2, h3, h4, h5, h6⟩
      · left
        refine ⟨h1, fun k c hk ho => ?_⟩
        cases k with
        | zero => simp at hk; subst hk; left; simpa using hd ho
        | succ k => have := h2 k c (by simpa using hk) ho; rwa [show i + (k + 1) = i + 1 + k from by omega]
      · right
        refine ⟨h1, k + 1, c, by rw [h2]; congr 1; omega, by simpa using h3, h4, by rwa [show i + (k + 1) = i + 1 + k from by omega], fun j e hj ho => ?_⟩
        cases j with
        | zero => simp at hj; subst hj; left; simpa using hd ho
        | succ j =>
          rcases h6 j e (by simpa using hj) ho with g | g
          · left; rwa [show i + (j + 1) = i + 1 + j from by omega]
          · right; omega
    unfold bodyCl at h
    cases o : d.fOpen
    · rw [o] at h; simp only [Bool.false_eq_true, if_false] at h
      exact hskip (fun e => by rw [o] at e; cases e) h
    · cases hk : hasK bs (i : Int)
      · by_cases ha : 0 ≤ a
        · rw [o, hk] at h; simp only [if_true, Bool.false_eq_true, if_false, ha] at h; cases h
        · rw [o, hk] at h; simp only [if_true, Bool.false_eq_true, if_false, ha] at h
          have h' : loopL (bodyCl bs) (fun a => (.inl a : Int ⊕ Int)) cs (i + 1) (i : Int) = .inl r := h
          rcases ih (i + 1) (i : Int) r h' with ⟨h1, h2⟩ | ⟨h1, _⟩
          · right
            refine ⟨by omega, 0, d, by simpa using h1, rfl, o, by simpa using hk, fun j e hj ho => ?_⟩
            cases j with
            | zero => right; rfl
            | succ j =>
              rcases h2 j e (by simpa using hj) ho with g | g
              · left; rwa [show i + (j + 1) = i + 1 + j from by omega]
              · exact absurd g id
          · omega
      · rw [o, hk] at h; simp only [if_true] at h
        exact hskip (fun _ => hk) h
theorem hasK_iff {n : Nat} {cs : List WaterConduit} {bs : List Branch} (hall : ∀ b ∈ bs, ∃ c, BrOk n cs b c (rb cs b)) (k : Nat) : hasK bs (k : Int) = true ↔ ∃ x ∈ BL cs bs, x.k = k := by
  unfold hasK BL
  rw [List.any_eq_true]
  constructor
  · rintro ⟨b, hb, he⟩
    obtain ⟨c, hc⟩ := hall b hb
    refine ⟨rb cs b, List.mem_map.2 ⟨b, hb, rfl⟩, ?_⟩
    have := of_decide_eq_true he
    have := hc.k
    omega
  · rintro ⟨x, hx, he⟩
    obtain ⟨b, hb, rfl⟩ := List.mem_map.1 hx
    obtain ⟨c, hc⟩ := hall b hb
    exact ⟨b, hb, decide_eq_true (by have := hc.k; omega)⟩
structure Form (ns : List WaterNode) (cs : List WaterConduit) (cl : Int) : Prop where
  ok : FormOk ns cs
  cl : closeL (grown ns cs).1 cs = .inl cl
structure Closing (ns : List WaterNode) (cs : List WaterConduit) (cl : Int) : Prop where
  ok : ClOk ns cs cl
  ge : -1 ≤ cl
  op : ∀ (k : Nat) (c : WaterConduit), cs[k]? = some c → c.fOpen = true → (∃ x ∈ BL cs (grown ns cs).1, x.k = k) ∨ cl = k
  cop : ∀ (k : Nat) (c : WaterConduit), cl = k → cs[k]? = some c → c.fOpen = true
theorem Form.closing {ns : List WaterNode} {cs : List WaterConduit} {cl : Int} (h : Form ns cs cl) : Closing ns cs cl := by
  have hall := h.ok.branches
  rcases close_loop cs 0 (-1) cl h.cl with ⟨h1, h2⟩ | ⟨_, k, c, h2, h3, h4, h5, h6⟩
  · refine ⟨.inl (by omega), by omega, fun k c hk ho => ?_, fun k c e _ => by omega⟩
    rcases h2 k c hk ho with g | g
    · left; exact (hasK_iff hall k).1 (by simpa using g)
    · exact absurd g id
  · simp only [Nat.zero_add] at h2 h5 h6
    refine ⟨.inr ⟨k, c, h2, h3, fun b hb e => ?_⟩, by omega, fun j d hj ho => ?_, fun j d e hj => ?_⟩
    · have := (hasK_iff hall k).2 ⟨b, hb, e⟩
      rw [h5] at this; cases this
    · rcases h6 j d hj ho with g | g
      · left; exact (hasK_iff hall j).1 (by simpa using g)
      · right; rw [h2]; congr 1; omega
    · have : j = k := by omega
      subst this
      rw [h3] at hj; cases hj; exact h4
/-! the program's functions -/
theorem F87_few {ns : List WaterNode} {cs : List WaterConduit} (hf : FewN ns cs) : F87_0 ns cs = some (checkNet ns cs).2 := by unfold F87_0; rw [F16_few hf]; rfl
theorem F32_few {ns : List WaterNode} {cs : List WaterConduit} (hf : FewN ns cs) : F32_0 ns cs = some (checkNet ns cs).2 := by unfold F32_0; rw [F19_few hf]; rfl
theorem F38_few {ns : List WaterNode} {cs : List WaterConduit} (hf : FewN ns cs) : F38_0 ns cs = some (if (checkNet ns cs).2 = 0 then formE ns cs else (checkNet ns cs).2) := by
  have hn := hf.n; have hc := hf.c
  unfold F38_0
  rw [F32_few hf]
  simp only [Option.bind_some]
  by_cases h : (checkNet ns cs).2 = 0
  · rw [if_pos h, if_pos h, F97_eq (netOk h).ends (by omega) (by omega)]; rfl
  · rw [if_neg h, if_neg h]
theorem form_of {ns : List WaterNode} {cs : List WaterConduit} (h0 : (checkNet ns cs).2 = 0) (h1 : formE ns cs = 0) : ∃ cl, Form ns cs cl := by
  unfold formE at h1
  by_cases g : falses (grown ns cs).2 = 0
  · rw [if_pos g] at h1
    cases hc : closeL (grown ns cs).1 cs with
    | inl a => exact ⟨a, ⟨⟨netOk h0, g⟩, hc⟩⟩
    | inr a => rw [hc] at h1; cases h1
  · rw [if_neg g] at h1; cases h1
theorem Form.e {ns : List WaterNode} {cs : List WaterConduit} {cl : Int} (h : Form ns cs cl) : formE ns cs = 0 := by
  unfold formE; rw [if_pos h.ok.gap, h.cl]
theorem F138_form {ns : List WaterNode} {cs : List WaterConduit} {cl : Int} (h : Form ns cs cl) : F138_0 ns cs = some (cl, 0, (grown ns cs).1) := by
  have hn := h.ok.net.n1; have hc := h.ok.net.c1
  obtain ⟨a, h1, h2⟩ := F138_eq h.ok.net.ends (by omega) (by omega)
  have := h2 h.e
  rw [h.cl] at this; cases this
  rw [h1, h.e]
theorem F99_form {ns : List WaterNode} {cs : List WaterConduit} {cl : Int} (hd : (checkNet ns cs).2 = 0) (hf : FewN ns cs) (h : Form ns cs cl) : F99_0 ns cs = some (.inl (cl, 0, (grown ns cs).1)) := by
  unfold F99_0; rw [F87_few hf, hd]; simp only [Option.bind_some, if_true]; rw [F138_form h]; rfl
theorem f71_2 (a b : Int) : F71_0 [a, b] = some (firstNZ [a, b]) := F71_eq _ (show ([_, _] : List Int).length < 1000000 by simp)
theorem f71_4 (a b c d : Int) : F71_0 [a, b, c, d] = some (firstNZ [a, b, c, d]) := F71_eq _ (show ([_, _, _, _] : List Int).length < 1000000 by simp)
def circE (c : Int) : Int := if -200000 ≤ c ∧ c ≤ 200000 then 0 else 2
theorem F100_eq (c : Int) : F100_0 c = some (circE c) := by
  unfold F100_0 circE; rw [F73_eq, neg_200000]; simp only [Option.bind_some, F72_eq]
  by_cases a : -200000 ≤ c <;> by_cases b : c ≤ 200000 <;> simp [a, b]
theorem circE_ok {c : Int} (h : circE c = 0) : ab c ≤ 200000 := by
  unfold circE at h
  by_cases a : -200000 ≤ c ∧ c ≤ 200000
  · exact ab_le (by omega) (by omega)
  · rw [if_neg a] at h; cases h
theorem circE_of {c : Int} (h : ab c ≤ 200000) : circE c = 0 := by unfold circE; have := ab_ge c; rw [if_pos (by omega)]
section
variable {ns : List WaterNode} {cs : List WaterConduit} {cl : Int}
theorem F98_form (hd : (checkNet ns cs).2 = 0) (hf : FewN ns cs) (h : Form ns cs cl) : F98_0 ns cs = some (.inl (cl, if 0 ≤ cl then 0 else 12, (grown ns cs).1)) := by
  unfold F98_0; rw [F99_form hd hf h]
  simp only [Option.bind_some, F72_eq, f71_2]
  by_cases a : 0 ≤ cl <;> simp [a, firstNZ]
theorem F39_form (hd : (checkNet ns cs).2 = 0) (hf : FewN ns cs) (h : Form ns cs cl) : F39_0 ns cs = some (if 0 ≤ cl then (cl, 0) else (0, 12)) := by
  unfold F39_0; rw [F98_form hd hf h]
  by_cases a : 0 ≤ cl <;> simp [a]
theorem F42_form (hd : (checkNet ns cs).2 = 0) (hf : FewN ns cs) (h : Form ns cs cl) {k : Nat} {x : WaterConduit} (hk : cl = k) (hx : cs[k]? = some x) {c : Int} (hc : ab c ≤ 200000) : F42_0 c ns cs = some (gapF ns cs x c, 0) := by
  have hoff : ∀ b ∈ BL cs (grown ns cs).1, b.k ≠ k := by
    rcases h.closing.ok with g | ⟨j, y, g1, g2, g3⟩
    · omega
    · have : j = k := by omega
      subst this; exact g3
  unfold F42_0; rw [F98_form hd hf h]
  simp only [Option.bind_some, F100_eq, circE_of hc, if_pos (show 0 ≤ cl by omega), f71_2]
  rw [hk, F102_eq h.ok hx hoff hc]
  simp [firstNZ]
end
end Go.AI
end
section
/-
  NO WATER IS LOST: what arrives at a junction is what leaves it and what is drawn; THE PLAIN LAW OF WaterKept.
-/
set_option linter.unusedVariables false
set_option linter.unusedSimpArgs false
namespace Go.AI
/-! the law's loops -/
end Go.AI
end
section
/-
  THE CIRCULATION; THE STEADY STATE; THE PLAIN LAW OF WaterTwoSigns.
-/
set_option linter.unusedVariables false
set_option linter.unusedSimpArgs false
namespace Go.AI
structure Circ (g : Int → Int) (lo hi : Int) : Prop where
  ge : -200000 < hi
  le : hi ≤ 200000
  pos : 0 ≤ g hi
  neg : g (hi - 1) < 0
  eq : g hi = 0 → lo = hi
  ne : g hi ≠ 0 → lo = hi - 1
theorem Circ.lo_or {g : Int → Int} {lo hi : Int} (h : Circ g lo hi) : (lo = hi ∧ g hi = 0) ∨ (lo = hi - 1 ∧ 0 < g hi) := by
  have := h.pos
  by_cases e : g hi = 0
  · exact .inl ⟨h.eq e, e⟩
  · exact .inr ⟨h.ne e, by omega⟩
section
variable {ns : List WaterNode} {cs : List WaterConduit} {cl : Int}
theorem Form.cond (h : Form ns cs cl) (h0 : 0 ≤ cl) : ∃ (k : Nat) (x : WaterConduit), cl = k ∧ cs[k]? = some x ∧ (∀ b ∈ BL cs (grown ns cs).1, b.k ≠ k) := by
  rcases h.closing.ok with g | g
  · omega
  · exact g
def flatC (ns : List WaterNode) (cs : List WaterConduit) (x : WaterConduit) : Bool := decide (gapF ns cs x (-200000) = gapF ns cs x 200000)
theorem ab_M : ab (-200000) ≤ 200000 ∧ ab 200000 ≤ 200000 := by decide
theorem flat_iff (h : FormOk ns cs) {k : Nat} {x : WaterConduit} (hx : cs[k]? = some x) : flatC ns cs x = true ↔ Flat (tnet ns cs) (fr x) (to x) x.fResist := by
  have hc := h.net.conds x (List.mem_of_getElem? hx)
  unfold flatC
  rw [decide_eq_true_eq]
  constructor
  · intro e; exact flat_of h.tok (P := vec (drw ns)) hc.r0 (c := -200000) (c' := 200000) (by omega) (by show gapF ns cs x 200000 ≤ gapF ns cs x (-200000); omega)
  · intro e; exact flat_gap e _ _
theorem gap_strict (h : FormOk ns cs) {k : Nat} {x : WaterConduit} (hx : cs[k]? = some x) (hf : flatC ns cs x = false) : ∀ a b, a < b → gapF ns cs x a < gapF ns cs x b := by
  intro a b hab
  have hc := h.net.conds x (List.mem_of_getElem? hx)
  exact gap_lt h.tok hc.r0 (fun e => by rw [(flat_iff h hx).2 e] at hf; cases hf) hab
theorem gap_sgn (h : FormOk ns cs) {k : Nat} {x : WaterConduit} (hx : cs[k]? = some x) (hf : flatC ns cs x = false) : gapF ns cs x (-200000) < 0 ∧ 0 < gapF ns cs x 200000 := by
  have hc := h.net.conds x (List.mem_of_getElem? hx)
  have h1 := hc.f0; have h2 := hc.f1; have h3 := hc.t0; have h4 := hc.t1
  exact gap_signs h.tok (show fr x < ns.length by unfold fr; omega) (show to x < ns.length by unfold to; omega) hc.r0 (nrm_drw h.net) (fun e => by rw [(flat_iff h hx).2 e] at hf; cases hf)
def flatN (ns : List WaterNode) (cs : List WaterConduit) (cl : Int) : Bool := if 0 ≤ cl then match cs[cl.toNat]? with
  | some x => flatC ns cs x
  | none => false
  else false
theorem flatN_at {k : Nat} {x : WaterConduit} (hk : cl = k) (hx : cs[k]? = some x) : flatN ns cs cl = flatC ns cs x := by
  unfold flatN; rw [hk, if_pos (by omega), Int.toNat_natCast, hx]
theorem F108_eq (h : Form ns cs cl) : F108_0 cl ns cs (grown ns cs).1 = some (flatN ns cs cl) := by
  unfold F108_0
  by_cases h0 : 0 ≤ cl
  · obtain ⟨k, x, hk, hx, hoff⟩ := h.cond h0
    rw [if_pos h0, flatN_at hk hx, hk, F102_eq h.ok hx hoff ab_M.1, F102_eq h.ok hx hoff ab_M.2]; rfl
  · rw [if_neg h0]; unfold flatN; rw [if_neg h0]
def CircN (ns : List WaterNode) (cs : List WaterConduit) (cl lo hi : Int) : Prop := (cl < 0 ∧ lo = 0 ∧ hi = 0) ∨ ∃ (k : Nat) (x : WaterConduit), cl = k ∧ cs[k]? = some x ∧ flatC ns cs x = false ∧ Circ (gapF ns cs x) lo hi
theorem least_circ (h : Form ns cs cl) {k : Nat} {x : WaterConduit} (hk : cl = k) (hx : cs[k]? = some x) (hf : flatC ns cs x = false) {r : Int} (h1 : -200000 ≤ r) (h2 : r ≤ 200000) (h3 : r < 200000 → 0 ≤ gapF ns cs x r) (h4 : -200000 < r → gapF ns cs x (r - 1) < 0) :
    Circ (gapF ns cs x) (if gapF ns cs x r = 0 then r else r - 1) r := by
  obtain ⟨s1, s2⟩ := gap_sgn h.ok hx hf
  have hp : 0 ≤ gapF ns cs x r := by
    by_cases e : r < 200000
    · exact h3 e
    · rw [show r = 200000 from by omega]; omega
  have hg : -200000 < r := by
    by_cases e : r = -200000
    · rw [e] at hp; omega
    · omega
  refine ⟨hg, h2, hp, h4 hg, fun e => by rw [if_pos e], fun e => by rw [if_neg e]⟩
theorem F107_eq (h : Form ns cs cl) (hf : flatN ns cs cl = false) : ∃ lo hi, F107_0 cl ns cs (grown ns cs).1 = some (lo, hi) ∧ CircN ns cs cl lo hi := by
  by_cases h0 : 0 ≤ cl
  · obtain ⟨k, x, hk, hx, hoff⟩ := h.cond h0
    rw [flatN_at hk hx] at hf
    obtain ⟨r, hr, a1, a2, a3, a4⟩ := least_iter (step := S84l0_3 cl ns cs (grown ns cs).1) (p := fun c => decide (0 ≤ gapF ns cs x c)) (lo := -200000) (hi := 200000) (by omega) (by omega) (by omega)
      (fun a b h => by simp [S84l0_3, h]) (fun a b b1 b2 b3 => by
        simp only [S84l0_3, if_neg (show ¬ b ≤ a by omega)]
        rw [half_mid (by omega) (by omega) b2]
        have hm : (b - a) / 2 ≤ b - a := by omega
        have hm0 : 0 ≤ (b - a) / 2 := by omega
        have hm2 : a + (b - a) / 2 < b := by omega
        unfold F141_0
        rw [hk, F102_eq h.ok hx hoff (ab_le (by omega) (by omega)), aw_ok (n := a + (b - a) / 2 + 1) (by omega) (by omega)]
        simp only [Option.bind_some]
        by_cases hp : 0 ≤ gapF ns cs x (a + (b - a) / 2) <;> simp [hp])
    have hc := least_circ h hk hx hf a1 a2 (fun e => by simpa using a3 e) (fun e => by simpa using a4 e)
    refine ⟨if gapF ns cs x r = 0 then r else r - 1, r, ?_, .inr ⟨k, x, hk, hx, hf, hc⟩⟩
    unfold F107_0 F84_3 L84l0_3
    rw [if_pos h0, hr]
    simp only [Option.bind_some]
    rw [hk, F102_eq h.ok hx hoff (ab_le (by omega) (by omega)), aw_ok (n := r - 1) (by omega) (by omega)]
    simp only [Option.bind_some]
    by_cases e : gapF ns cs x r = 0 <;> simp [e]
  · exact ⟨0, 0, by unfold F107_0; rw [if_neg h0], .inl ⟨by omega, rfl, rfl⟩⟩
theorem CircN.range {lo hi : Int} (h : CircN ns cs cl lo hi) : ab lo ≤ 200000 ∧ ab hi ≤ 200000 ∧ lo ≤ hi ∧ hi ≤ lo + 1 := by
  rcases h with ⟨_, rfl, rfl⟩ | ⟨k, x, _, _, _, hc⟩
  · decide
  · have h1 := hc.ge
    have h2 := hc.le
    rcases hc.lo_or with ⟨e, _⟩ | ⟨e, _⟩
    · exact ⟨ab_le (by omega) (by omega), ab_le (by omega) (by omega), by omega, by omega⟩
    · exact ⟨ab_le (by omega) (by omega), ab_le (by omega) (by omega), by omega, by omega⟩
theorem F106_form (hd : (checkNet ns cs).2 = 0) (hf : FewN ns cs) (h : Form ns cs cl) : F106_0 ns cs = some (.inl (cl, if flatN ns cs cl = true then 11 else 0, (grown ns cs).1)) := by
  unfold F106_0; rw [F99_form hd hf h]
  simp only [Option.bind_some, if_true, F108_eq h, F72_eq]
  cases flatN ns cs cl <;> rfl
theorem F48_form (hd : (checkNet ns cs).2 = 0) (hf : FewN ns cs) (h : Form ns cs cl) : (flatN ns cs cl = true ∧ F48_0 ns cs = some (0, 0, 11)) ∨ (flatN ns cs cl = false ∧ ∃ lo hi, F48_0 ns cs = some (lo, hi, 0) ∧ F107_0 cl ns cs (grown ns cs).1 = some (lo, hi) ∧ CircN ns cs cl lo hi) := by
  cases hfl : flatN ns cs cl
  · right
    obtain ⟨lo, hi, h1, h2⟩ := F107_eq h hfl
    refine ⟨rfl, lo, hi, ?_, h1, h2⟩
    unfold F48_0; rw [F106_form hd hf h, hfl]
    simp [h1]
  · left
    refine ⟨rfl, ?_⟩
    unfold F48_0; rw [F106_form hd hf h, hfl]
    simp
theorem F109_eq (h : Form ns cs cl) (hf : flatN ns cs cl = false) {lo hi a b : Int} (hc : CircN ns cs cl lo hi) (ha : ab a ≤ 200000) (hb : ab b ≤ 200000) : F109_0 cl a b ns cs (grown ns cs).1 = some (decide (a = lo) && decide (b = hi)) := by
  have ga := ab_ge a
  have gb := ab_ge b
  unfold F109_0
  rcases hc with ⟨h1, rfl, rfl⟩ | ⟨k, x, hk, hx, hfl, hc⟩
  · rw [if_neg (by omega)]
  · obtain ⟨k', x', hk', hx', hoff⟩ := h.cond (by omega)
    have : k' = k := by omega
    subst this
    rw [hx] at hx'; cases hx'
    have hs := gap_strict h.ok hx hfl
    rw [if_pos (by omega), hk, F102_eq h.ok hx hoff ha, F102_eq h.ok hx hoff hb, aw_ok (n := a + 1) (by omega) (by omega)]
    simp only [Option.bind_some]
    have cneg := hc.neg
    have cpos := hc.pos
    -- where the gap is below 0, and where it is not
    have below : ∀ c, gapF ns cs x c < 0 → c < hi := fun c h => by
      by_cases e : c < hi
      · exact e
      · by_cases e2 : hi = c
        · rw [← e2] at h; omega
        · have := hs hi c (by omega); omega
    have above : ∀ c, 0 ≤ gapF ns cs x c → hi ≤ c := fun c h => by
      by_cases e : hi ≤ c
      · exact e
      · by_cases e2 : c = hi - 1
        · rw [e2] at h; omega
        · have := hs c (hi - 1) (by omega); omega
    by_cases e : a = b
    · rw [if_pos e]
      subst e
      rcases hc.lo_or with ⟨c1, c2⟩ | ⟨c1, c2⟩
      · by_cases z : gapF ns cs x a = 0
        · have : a = hi := by
            have := above a (by omega)
            by_cases q : a = hi
            · exact q
            · have := hs hi a (by omega); omega
          simp [c1, this, c2]
        · have : ¬ a = hi := fun q => z (by rw [q]; exact c2)
          simp [z, this]
      · by_cases z : gapF ns cs x a = 0
        · have := above a (by omega)
          by_cases q : a = hi
          · rw [q] at z; omega
          · have := hs hi a (by omega); omega
        · have : ¬ (a = lo ∧ a = hi) := fun q => by omega
          simp [z]; omega
    · rw [if_neg e]
      rcases hc.lo_or with ⟨c1, c2⟩ | ⟨c1, c2⟩
      · have hno : (decide (a = lo) && decide (b = hi)) = false := by simp; omega
        rw [hno]
        by_cases s : b = a + 1
        · rw [if_pos s]
          by_cases p : 0 ≤ gapF ns cs x a
          · rw [if_pos p]
          · rw [if_neg p]
            have := below a (by omega)
            by_cases q : gapF ns cs x b ≤ 0
            · simp [q]
            · have h1 : hi ≤ b := above b (by omega)
              have : b = hi := by omega
              rw [this] at q; omega
        · rw [if_neg s]
      · by_cases s : b = a + 1
        · rw [if_pos s]
          by_cases p : 0 ≤ gapF ns cs x a
          · rw [if_pos p]
            have := above a p
            simp; omega
          · rw [if_neg p]
            have := below a (by omega)
            by_cases q : gapF ns cs x b ≤ 0
            · have : ¬ b = hi := fun e => by rw [e] at q; omega
              simp [q, this]
            · have := above b (by omega)
              have e1 : b = hi := by omega
              have e2 : a = lo := by omega
              simp [q, e1, e2]; omega
        · rw [if_neg s]
          simp; omega
def chkE (ns : List WaterNode) (cs : List WaterConduit) (cl a b lo hi : Int) : Int :=
  if circE a = 0 then if circE b = 0 then if a ≤ b then if flatN ns cs cl = true then 11 else if a = lo ∧ b = hi then 0 else 19 else 9 else 2 else 2
theorem circE_or (c : Int) : circE c = 0 ∨ circE c = 2 := by unfold circE; split <;> simp
theorem F109_some (h : Form ns cs cl) {a b : Int} (ha : ab a ≤ 200000) (hb : ab b ≤ 200000) : ∃ t, F109_0 cl a b ns cs (grown ns cs).1 = some t := by
  have ga := ab_ge a
  have gb := ab_ge b
  unfold F109_0
  by_cases h0 : 0 ≤ cl
  · obtain ⟨k, x, hk, hx, hoff⟩ := h.cond h0
    rw [if_pos h0, hk, F102_eq h.ok hx hoff ha, F102_eq h.ok hx hoff hb]
    simp only [Option.bind_some]
    split
    · exact ⟨_, rfl⟩
    · split
      · split <;> exact ⟨_, rfl⟩
      · exact ⟨_, rfl⟩
  · rw [if_neg h0]; exact ⟨_, rfl⟩
theorem F49_form (hd : (checkNet ns cs).2 = 0) (hf : FewN ns cs) (h : Form ns cs cl) {lo hi : Int} (hc : flatN ns cs cl = false → CircN ns cs cl lo hi) (a b : Int) : F49_0 a b ns cs = some (chkE ns cs cl a b lo hi) := by
  unfold F49_0; rw [F99_form hd hf h]
  simp only [Option.bind_some, F100_eq, F72_eq, f71_4, f71_2, F108_eq h]
  unfold chkE
  by_cases ea : circE a = 0
  · by_cases eb : circE b = 0
    · by_cases hle : a ≤ b
      · cases hfl : flatN ns cs cl
        · simp only [ea, eb, hle, decide_true, if_true, firstNZ, F109_eq h hfl (hc hfl) (circE_ok ea) (circE_ok eb), Option.bind_some]
          by_cases e1 : a = lo <;> by_cases e2 : b = hi <;> simp [e1, e2]
        · obtain ⟨t, ht⟩ := F109_some h (circE_ok ea) (circE_ok eb)
          simp [ea, eb, hle, firstNZ, ht]
      · simp [ea, eb, hle, firstNZ]
    · have := circE_or b
      have : circE b = 2 := by omega
      simp [ea, this, firstNZ]
  · have := circE_or a
    have : circE a = 2 := by omega
    simp [this, firstNZ]
/-! ### ranges -/
def rngI (b : List Int) : List Int → Nat → List Range
  | [], _ => []
  | x :: a, i => ⟨min x (b.getD i 0), max x (b.getD i 0)⟩ :: rngI b a (i + 1)
theorem rngI_len (b : List Int) : ∀ (a : List Int) (i : Nat), (rngI b a i).length = a.length := by
  intro a
  induction a with
  | nil => intro i; rfl
  | cons x a ih => intro i; simp [rngI, ih]
theorem rngI_get (b : List Int) : ∀ (a : List Int) (i j : Nat), (rngI b a i)[j]? = (a[j]?).map fun x => (⟨min x (b.getD (i + j) 0), max x (b.getD (i + j) 0)⟩ : Range) := by
  intro a
  induction a with
  | nil => intro i j; simp [rngI]
  | cons x a ih =>
    intro i j
    cases j with
    | zero => simp [rngI]
    | succ j => simp only [rngI, List.getElem?_cons_succ, ih]; rw [show i + 1 + j = i + (j + 1) from by omega]
def bodyR (b : List Int) (i : Nat) (x : Int) (l : List Range) : List Range ⊕ List Range := .inl (l ++ [⟨min x (b.getD i 0), max x (b.getD i 0)⟩])
theorem rng_loop (b : List Int) : ∀ (a : List Int) (i : Nat) (l : List Range), loopL (bodyR b) (fun l => l) a i l = l ++ rngI b a i := by
  intro a
  induction a with
  | nil => intro i l; simp [loopL, rngI]
  | cons x a ih =>
    intro i l
    rw [loopL]
    show loopL (bodyR b) (fun l => l) a (i + 1) _ = _
    rw [ih]; simp [rngI]
theorem F142_eq {a b : List Int} (h : a.length = b.length) (hl : a.length < 100000) : F142_0 a b = some (rngI b a 0) := by
  have h1 := iter_list0 (step := S142l0_0 (a.length : Int) a b) (fun i (l : List Range) => ((i : Int), l)) a (bodyR b) (fun l => l) (fun i l => l.length = i)
    (fun l _ => by simp [S142l0_0]) (fun i x l hx hi hl => by
      refine ⟨?_, fun a' h => by cases h; simp [hl]⟩
      simp only [S142l0_0, if_neg (show ¬ ((a.length : Int) ≤ (i : Int)) by omega), geti_at hx]
      rw [geti_n (by omega), room_le (by omega), aw_ok (n := (i : Int) + 1) (by omega) (by omega)]
      simp [bodyR]) (by omega) [] rfl
  rw [rng_loop, List.nil_append] at h1
  unfold F142_0 L142l0_0
  rw [show (0, ([] : List Range)) = (((0 : Nat) : Int), ([] : List Range)) from rfl, h1]; rfl
def stdQ (ns : List WaterNode) (cs : List WaterConduit) (cl lo hi : Int) : List Range := rngI (stQ ns cs cl hi) (stQ ns cs cl lo) 0
def stdH (ns : List WaterNode) (cs : List WaterConduit) (cl lo hi : Int) : List Range := rngI (stH ns cs cl hi) (stH ns cs cl lo) 0
theorem F110_form (h : Form ns cs cl) {lo hi : Int} (h7 : F107_0 cl ns cs (grown ns cs).1 = some (lo, hi)) (hc : CircN ns cs cl lo hi) : F110_0 cl ns cs (grown ns cs).1 = some (stdQ ns cs cl lo hi, stdH ns cs cl lo hi) := by
  obtain ⟨r1, r2, _, _⟩ := hc.range
  have s1 := (st_ok h.ok h.closing.ok r1 0 [] []).1
  have s2 := (st_ok h.ok h.closing.ok r2 0 [] []).1
  have n1 := h.ok.net.n1
  have c1 := h.ok.net.c1
  have q1 := s1.lq; have q2 := s2.lq; have k1 := s1.lh; have k2 := s2.lh
  unfold F110_0
  rw [h7]
  simp only [bind2_some, F101_eq h.ok h.closing.ok r1, F101_eq h.ok h.closing.ok r2]
  rw [F142_eq (by omega) (by omega), F142_eq (by omega) (by omega)]
  rfl
theorem F50_form (hd : (checkNet ns cs).2 = 0) (hf : FewN ns cs) (h : Form ns cs cl) (hfl : flatN ns cs cl = false) {lo hi : Int} (h7 : F107_0 cl ns cs (grown ns cs).1 = some (lo, hi)) (hc : CircN ns cs cl lo hi) :
    F50_0 ns cs = some (0, stdQ ns cs cl lo hi, stdH ns cs cl lo hi) := by
  unfold F50_0; rw [F106_form hd hf h, hfl]
  simp [F110_form h h7 hc]
theorem flow_near (h : Form ns cs cl) {lo hi : Int} (hlo : ab lo ≤ 200000) (hhi : ab hi ≤ 200000) (h1 : lo ≤ hi) (h2 : hi ≤ lo + 1) (k : Nat) : ab ((stQ ns cs cl hi).getD k 0 - (stQ ns cs cl lo).getD k 0) ≤ 1 := by
  have s1 := (st_ok h.ok h.closing.ok hlo 0 [] []).1
  have s2 := (st_ok h.ok h.closing.ok hhi 0 [] []).1
  have T := h.ok.tok
  by_cases hin : ∃ b ∈ BL cs (grown ns cs).1, b.k = k
  · obtain ⟨b, hb, rfl⟩ := hin
    have hs : ∀ b ∈ BL cs (grown ns cs).1, b.s = 1 ∨ b.s = -1 := by
      intro b hb
      obtain ⟨d, hd, rfl⟩ := List.mem_map.1 hb
      obtain ⟨e, he⟩ := h.ok.branches d hd
      rcases he.s with ⟨g, _⟩ | ⟨g, _⟩
      · exact .inl g
      · exact .inr g
    have hA : AllB (fun b _ => ab ((stQ ns cs cl hi).getD b.k 0 - (stQ ns cs cl lo).getD b.k 0) ≤ 1) (BL cs (grown ns cs).1) := by
      rcases h.closing.ok with g | ⟨j, x, rfl, hx, _⟩
      · have e : ∀ c, stD ns cs cl c = drw ns := fun c => by unfold stD; rw [if_neg (by omega)]
        have q1 := s1.qb
        have q2 := s2.qb
        rw [e] at q1 q2
        exact (q1.and q2).mono fun b t g => by rw [g.1, g.2, Int.sub_self]; decide
      · have q1 := s1.qb
        have q2 := s2.qb
        rw [stD_vec h.ok.net hx] at q1 q2
        have d1 := dn_eq T (vec (drw ns)) (fr x) (to x) lo
        have d2 := dn_eq T (vec (drw ns)) (fr x) (to x) hi
        exact (((q1.and q2).and (d1.and d2)).and (AllB.mem hs)).mono fun b t g => by
          obtain ⟨⟨⟨g1, g2⟩, g3, g4⟩, g5⟩ := g
          rw [g1, g2, g3, g4]
          rcases g5 with e | e <;> rw [e] <;> rcases eB_or (fr x) (to x) t b with e' | e' | e' <;> rw [e'] <;> exact ab_le (by omega) (by omega)
    exact AllB.all hA b hb
  · have hoff : ∀ b ∈ BL cs (grown ns cs).1, b.k ≠ k := fun b hb e => hin ⟨b, hb, e⟩
    by_cases e : cl = (k : Int)
    · rw [s1.qc k e, s2.qc k e]; exact ab_le (by omega) (by omega)
    · rw [s1.q0 k hoff e, s2.q0 k hoff e]; decide
theorem L10_eq (h : Form ns cs cl) {lo hi : Int} (hlo : ab lo ≤ 200000) (hhi : ab hi ≤ 200000) (h1 : lo ≤ hi) (h2 : hi ≤ lo + 1) (x y : Int) (z : List Range) : L10l0_0 ns cs x y (stdQ ns cs cl lo hi) z 0 = some (.inl ()) := by
  have s1 := (st_ok h.ok h.closing.ok hlo 0 [] []).1
  have s2 := (st_ok h.ok h.closing.ok hhi 0 [] []).1
  have lq := s1.lq
  have hcn := h.ok.net.c1
  have ll : (stdQ ns cs cl lo hi).length = cs.length := by unfold stdQ; rw [rngI_len, lq]
  have hh := iter_list0 (step := S10l0_0 ns cs x y (stdQ ns cs cl lo hi) z) (fun i (_ : Unit) => (i : Int)) (stdQ ns cs cl lo hi)
    (fun _ _ _ => (.inl () : Unit ⊕ (Unit ⊕ Unit))) (fun _ => .inl ()) (fun _ _ => True)
    (fun a _ => by simp [S10l0_0]) (fun i r a hx hi' _ => by
      refine ⟨?_, fun _ _ => trivial⟩
      have hx2 := hx
      unfold stdQ at hx2
      rw [rngI_get, Nat.zero_add] at hx2
      have hq : (stQ ns cs cl lo)[i]? = some ((stQ ns cs cl lo).getD i 0) := by
        rw [List.getD_eq_getElem?_getD, List.getElem?_eq_getElem (show i < (stQ ns cs cl lo).length by omega)]; rfl
      rw [hq] at hx2
      simp only [Option.map_some, Option.some.injEq] at hx2
      have n := flow_near h hlo hhi h1 h2 i
      have n' := ab_ge ((stQ ns cs cl hi).getD i 0 - (stQ ns cs cl lo).getD i 0)
      have q1 := s1.qq i
      have q1' := ab_ge ((stQ ns cs cl lo).getD i 0)
      have q2 := s2.qq i
      have q2' := ab_ge ((stQ ns cs cl hi).getD i 0)
      generalize (stQ ns cs cl lo).getD i 0 = p at *
      generalize (stQ ns cs cl hi).getD i 0 = q at *
      have r1 : r.fLo = min p q := by rw [← hx2]
      have r2 : r.fHi = max p q := by rw [← hx2]
      have m1 : -1000000 ≤ min p q ∧ min p q ≤ 1000000 := by omega
      have m2 : min p q ≤ max p q ∧ max p q ≤ min p q + 1 := by omega
      simp only [S10l0_0, if_neg (show ¬ (((stdQ ns cs cl lo hi).length : Int) ≤ (i : Int)) by omega), geti_at hx, F20_eq, Option.bind_some, r1, r2]
      rw [aw_ok (n := min p q + 1) (by omega) (by omega), aw_ok (n := (i : Int) + 1) (by omega) (by omega)]
      simp [m1.1, m1.2, m2.1, m2.2]) (by omega) () trivial
  have key : ∀ (l : List Range) (i : Nat), (loopL (fun (_ : Nat) (_ : Range) (_ : Unit) => (.inl () : Unit ⊕ (Unit ⊕ Unit))) (fun _ => .inl ()) l i ()) = .inl () := by
    intro l
    induction l with
    | nil => intro i; rfl
    | cons x l ih => intro i; rw [loopL]; simp only [ih]
  rw [key] at hh
  exact hh
end
theorem plainWaterTwoSigns (a b : Int) (ns : List WaterNode) (cs : List WaterConduit) : F10_0 a b ns cs = some true := by
  unfold F10_0
  rcases F15_spec ns cs with h | ⟨h, hf⟩
  · rw [h]; rfl
  · rw [h]
    simp only [Option.bind_some, if_true, F38_few hf, F17_eq ns cs hf]
    by_cases hd : (checkNet ns cs).2 = 0
    · by_cases he : formE ns cs = 0
      · obtain ⟨cl, F⟩ := form_of hd he
        simp only [hd, he, if_true]
        rcases F48_form hd hf F with ⟨hfl, e48⟩ | ⟨hfl, lo, hi, e48, e107, hc⟩
        · rw [e48]; simp
        · obtain ⟨r1, r2, r3, r4⟩ := hc.range
          have g1 := ab_ge lo
          have g2 := ab_ge hi
          have e49 := F49_form hd hf F (lo := lo) (hi := hi) (fun _ => hc)
          have c0 : chkE ns cs cl lo hi lo hi = 0 := by unfold chkE; simp [circE_of r1, circE_of r2, r3, hfl]
          have s1 := (st_ok F.ok F.closing.ok r1 0 [] []).1
          have lq : (stdQ ns cs cl lo hi).length = cs.length := by unfold stdQ; rw [rngI_len, s1.lq]
          have lh : (stdH ns cs cl lo hi).length = ns.length := by unfold stdH; rw [rngI_len, s1.lh]
          simp only [e48, bind3_some, F20_eq, Option.bind_some, e49, c0, F50_form hd hf F hfl e107 hc, lq, lh, L10_eq F r1 r2 r3 r4, F39_form hd hf F, if_true]
          rw [aw_ok (n := lo + 1) (by omega) (by omega)]
          rw [show (decide (-200000 ≤ lo) && decide (lo ≤ 200000)) = true from by simp; omega, show (decide (lo ≤ hi) && decide (hi ≤ lo + 1)) = true from by simp; omega]
          have hbeq : ((decide (chkE ns cs cl a b lo hi = 0)) == ((decide (a = lo)) && (decide (b = hi)))) = true := by
            by_cases e : a = lo ∧ b = hi
            · rw [e.1, e.2, c0]; simp
            · have hne : ¬ chkE ns cs cl a b lo hi = 0 := by
                unfold chkE
                split
                · split
                  · split
                    · split
                      · omega
                      · omega
                    · omega
                  · omega
                · omega
              have hno : (decide (a = lo) && decide (b = hi)) = false := by
                by_cases q : a = lo
                · have : ¬ b = hi := fun x => e ⟨q, x⟩
                  simp [this]
                · simp [q]
              rw [hno]; simp [hne]
          rw [hbeq]
          simp only [if_true]
          rcases hc with ⟨h1, rfl, rfl⟩ | ⟨k, x, hk, hx, hflc, hc⟩
          · rw [if_neg (show ¬ 0 ≤ cl by omega)]; simp
          · rw [if_pos (show 0 ≤ cl by omega)]
            simp only [bind2_some, F42_form hd hf F hk hx r1, F42_form hd hf F hk hx r2, if_true]
            have p := hc.pos
            have q := hc.neg
            rcases hc.lo_or with ⟨e, z⟩ | ⟨e, z⟩
            · rw [e]; simp [z]
            · have n : gapF ns cs x lo < 0 := by rw [e]; exact q
              rw [if_pos (by omega), if_pos p, if_neg (by omega), if_neg (by omega)]
              simp; omega
      · simp [hd, he]
    · simp [hd]
end Go.AI
end
