/-
  REGIONS: in their text's order, or in any order.
-/
import Derived.Test.YtcghmpalmedkiaaLAiDrawC
set_option linter.unusedVariables false
set_option linter.unusedSimpArgs false
namespace Go.AI
def backOk : List Oper → Nat → Bool
  | [], _ => true
  | o :: os, i => (edges o).all (fun j => decide (j < i)) && backOk os (i + 1)
noncomputable def pairsFrom (bs : List Nat) (i : Nat) (x : AOper) : List AOper → Nat → Bool
  | [], _ => true
  | y :: ys, j => (isBef bs i j || (apartD x y && compat i x y)) && pairsFrom bs i x ys (j + 1)
noncomputable def pairsOk (bs : List Nat) : List AOper → Nat → Bool
  | [], _ => true
  | x :: xs, i => pairsFrom bs i x xs (i + 1) && pairsOk bs xs (i + 1)
def qkOk (l : List AOper) : Bool := l.all fun x => !x.q || (decide (1 ≤ x.op.kind) && decide (x.op.kind ≤ 4))
noncomputable def drawOk (P : Program) (N : Nat) (ops : Array Oper) (l : List AOper) : Bool :=
  opersOk P N ops l ops.toList && backOk ops.toList 0 && pairsOk (befs ops.toList) l 0 && qkOk l
section
variable {C : ACode → Code → Nat → Prop} {P : Program} {p : Ex} {N : Nat}
theorem opersOk_spec {ops : Array Oper} {l : List AOper} {os : List Oper} (h : opersOk P N ops l os = true) : os.length = l.length ∧ ∀ (i : Nat) x o, l[i]? = some x → os[i]? = some o → operOk P N ops x o = true := by
  induction l generalizing os with
  | nil => cases os with
    | nil => exact ⟨rfl, fun i x o h => by simp at h⟩
    | cons _ _ => cases h
  | cons y l ih => cases os with
    | nil => cases h
    | cons o os =>
      unfold opersOk at h
      simp only [Bool.and_eq_true] at h
      obtain ⟨h1, h2⟩ := ih h.2
      refine ⟨by simp [h1], fun i x o' hx ho => ?_⟩
      cases i with
      | zero => simp at hx ho; subst hx; subst ho; exact h.1
      | succ i => exact h2 i x o' (by simpa using hx) (by simpa using ho)
theorem backOk_spec {os : List Oper} {b : Nat} (h : backOk os b = true) : ∀ (i : Nat) o, os[i]? = some o → ∀ j ∈ edges o, j < b + i := by
  induction os generalizing b with
  | nil => intro i o h; simp at h
  | cons o os ih =>
    unfold backOk at h
    simp only [Bool.and_eq_true, List.all_eq_true, decide_eq_true_eq] at h
    intro i o' ho j hj
    cases i with
    | zero => simp at ho; subst ho; exact h.1 j hj
    | succ i => have := ih h.2 i o' (by simpa using ho) j hj; omega
theorem pairsFrom_spec {bs : List Nat} {i : Nat} {x : AOper} {l : List AOper} {b : Nat} (h : pairsFrom bs i x l b = true) : ∀ (j : Nat) y, l[j]? = some y → isBef bs i (b + j) = true ∨ (apartD x y = true ∧ compat i x y = true) := by
  induction l generalizing b with
  | nil => intro j y h; simp at h
  | cons z l ih =>
    unfold pairsFrom at h
    simp only [Bool.and_eq_true, Bool.or_eq_true] at h
    intro j y hy
    cases j with
    | zero => simp at hy; subst hy; simpa using h.1
    | succ j => have := ih h.2 j y (by simpa using hy); rwa [show b + (j + 1) = b + 1 + j from by omega]
theorem pairsOk_spec {bs : List Nat} {l : List AOper} {b : Nat} (h : pairsOk bs l b = true) : ∀ (i j : Nat) x y, i < j → l[i]? = some x → l[j]? = some y → isBef bs (b + i) (b + j) = true ∨ (apartD x y = true ∧ compat (b + i) x y = true) := by
  induction l generalizing b with
  | nil => intro i j x y _ h; simp at h
  | cons z l ih =>
    unfold pairsOk at h
    simp only [Bool.and_eq_true] at h
    intro i j x y hij hx hy
    cases j with
    | zero => omega
    | succ j =>
      cases i with
      | zero =>
        simp at hx; subst hx
        have := pairsFrom_spec h.1 j y (by simpa using hy)
        rwa [show b + (j + 1) = b + 1 + j from by omega, Nat.add_zero]
      | succ i =>
        have := ih h.2 i j x y (by omega) (by simpa using hx) (by simpa using hy)
        rwa [show b + (j + 1) = b + 1 + j from by omega, show b + (i + 1) = b + 1 + i from by omega]
def cntF : List Bool → Nat
  | [] => 0
  | b :: l => (if b then 0 else 1) + cntF l
theorem cntF_set {l : List Bool} {i : Nat} (h : l[i]? = some false) : cntF (l.set i true) + 1 = cntF l := by
  induction l generalizing i with
  | nil => simp at h
  | cons b l ih =>
    cases i with
    | zero => simp at h; subst h; simp [cntF]; omega
    | succ i => have := ih (i := i) (by simpa using h); simp [cntF]; omega
theorem cntF_zero {l : List Bool} (h : cntF l = 0) (i : Nat) (hi : i < l.length) : l[i]? = some true := by
  induction l generalizing i with
  | nil => simp at hi
  | cons b l ih =>
    simp only [cntF] at h
    cases b with
    | false => simp at h
    | true =>
      cases i with
      | zero => rfl
      | succ i => simpa using ih (by simpa using h) i (by simpa using hi)
theorem getD_lt {a : Array Bool} {i : Nat} (h : i < a.size) (d : Bool) : a.getD i d = a[i] := by simp [Array.getD, h]
theorem SR.drawn {ρ : Rho} {H : Heap} {w : World} (hs : SR C ρ H w) (n : Nat) : SR C ρ H { w with drawn := n } :=
  ⟨hs.n, fun a => (hs.obj a).keep (Ext.refl ρ) (.refl ρ a) fun _ => rfl, hs.apart⟩
theorem Step.drawn {k n : Nat} {ρ : Rho} {H : Heap} {w : World} (hs : SR C ρ H w) : Step C k ρ H w ρ H { w with drawn := n } :=
  ⟨fun _ _ => rfl, fun _ _ _ => rfl, fun _ _ _ _ => rfl, fun _ _ h => h, hs.drawn n, rfl, rfl, rfl, Nat.le_refl _, fun _ _ _ => rfl, fun a ha => .inr ⟨a, ha, rfl⟩, fun a ha => by
    rcases Nat.lt_or_ge a.base k with h | h
    · exact .inl ⟨h, ha, rfl⟩
    · exact .inr (.inr ⟨a, .inr ⟨h, ha⟩, rfl⟩)⟩
theorem heap_ext {H K : Heap} (hl : H.length = K.length) (h : ∀ c, hget H c = hget K c) : H = K := by
  apply List.ext_getElem hl
  intro i h1 h2
  have := h i
  rw [hget_eq, hget_eq, List.getElem?_eq_getElem h1, List.getElem?_eq_getElem h2] at this
  exact this
theorem draw_sound {ops : Array Oper} {l : List AOper} {ro : Option Nat} {id k : Nat} {ρ : Rho} {e e' : Env} {H H' : Heap} {a : Act} {w : World} {Q : Exit → Act → World → Prop} (hp : CallsOK C P p) (hm : P.follows .mixedOrders = true)
    (hok : drawOk P N ops l = true) (hs : SR C ρ H w) (he : ER ρ N e a.tmps) (hk : k ≤ H.length) (hrun : aopsD p l [] e H = some (e', H'))
    (hQ : ∀ a' w' ρ', Step C k ρ H w ρ' H' w' → ER ρ' N e' a'.tmps → a'.defers = a.defers → H.length ≤ H'.length → Q .normal a' w') : (Code.region id ops true).wpIn (Fr ro) 0 P Q a w := by
  unfold drawOk at hok
  simp only [Bool.and_eq_true] at hok
  obtain ⟨⟨⟨h1, h2⟩, h3⟩, h4⟩ := hok
  obtain ⟨E, HH, V, G, R, e0, H0, eN, HN, hstep⟩ := trace_of hrun
  obtain ⟨hlen, hopk⟩ := opersOk_spec h1
  have c : Ctx C P p N ops l E HH V G R := ⟨hp, by simpa using hlen, fun i x o hx ho => hopk i x o hx (by simpa using ho), fun i o ho j hj => by have := backOk_spec h2 i o (by simpa using ho) j hj; omega,
    fun i j x y hij hx hy => by have := pairsOk_spec h3 i j x y hij hx hy; simpa using this,
    fun i x hx hq => by
      unfold qkOk at h4
      have := List.all_eq_true.1 h4 x (List.mem_of_getElem? hx)
      simpa [hq] using this,
    fun i x hx => by simpa using hstep i x hx⟩
  have hs0 := hs.drawn (w.drawn + 1)
  subst e0 H0 eN HN
  have htext := c.text hs0 he
  have hmono : ∀ j, j < l.length → (HH j).length ≤ (HH (j + 1)).length := fun j hj => by
    obtain ⟨_, _, _, _, _, h⟩ := htext l.length (Nat.le_refl _); exact h j hj
  have hwf : ∀ i, i ≤ l.length → (∀ d, WFo (HH i).length (hget (HH i) d)) ∧ ∀ t, WFv (HH i).length (eget (E i) t) := fun i hi => by
    obtain ⟨ρi, wi, ti, h5, h6, _⟩ := htext i hi
    exact ⟨fun d => by rw [← h5.n]; exact (h5.obj (.p d)).wf, fun t => by rw [← h5.n]; exact (h6.2 t).wf⟩
  have hM : (HH 0).length ≤ (HH l.length).length := mono_le hmono (Nat.zero_le _) (Nat.le_refl _)
  refine wpIn_region_any hm ?_
  have fin : ∀ listed a' w', Inv C N ops l E HH V G k ρ w a.defers listed a' w' → (∀ i, i < l.length → listed.getD i false = true) → Q .normal a' w' := fun listed a' w' inv hall => by
    obtain ⟨K, ρ', hKl, hst, hKc, htm, _⟩ := inv.heap
    have hK : K = HH l.length := heap_ext hKl fun d => by
      rw [hKc d]; exact c.cont_text (Nat.le_refl _) fun j hj _ => ⟨fun _ => hall j hj, fun _ => hj⟩
    subst hK
    refine hQ a' w' ρ' hst ⟨inv.tmps, fun t => ?_⟩ inv.defers hM
    rw [← c.tmp_text (S := fun j => listed.getD j false) (Nat.le_refl _) fun j hj _ => ⟨fun _ => hall j hj, fun _ => hj⟩]
    exact htm t
  have key : ∀ fuel listed a' w', cntF listed.toList ≤ fuel → Inv C N ops l E HH V G k ρ w a.defers listed a' w' → wpAnyIn (Fr ro) 0 P .any ops Q fuel listed a' w' := by
    intro fuel
    induction fuel with
    | zero =>
      intro listed a' w' hc inv
      have hall : ∀ i, i < l.length → listed.getD i false = true := fun i hi => by
        have := cntF_zero (by omega : cntF listed.toList = 0) i (by simpa [inv.size] using hi)
        have hi' : i < listed.size := by rw [inv.size]; exact hi
        rw [getD_lt hi']; simpa [hi'] using this
      refine ⟨List.eq_nil_iff_forall_not_mem.2 fun i hi => ?_, fin listed a' w' inv hall⟩
      obtain ⟨h5, o, ho, _⟩ := mem_ready.1 hi
      have hil : i < l.length := by rw [← c.size]; exact (Array.getElem?_eq_some_iff.1 ho).1
      have hi' : i < listed.size := by rw [inv.size]; exact hil
      have h6 := hall i hil
      rw [getD_lt hi'] at h5 h6; rw [h5] at h6; cases h6
    | succ fuel ih =>
      intro listed a' w' hc inv
      refine ⟨fun hnil => fin listed a' w' inv ?_, fun i hi => ?_⟩
      · intro i
        induction i using Nat.strongRecOn with
        | _ i ihi =>
          intro hi
          cases hg : listed.getD i false with
          | true => rfl
          | false =>
            have hi' : i < listed.size := by rw [inv.size]; exact hi
            have hio : i < ops.size := by rw [c.size]; exact hi
            have : i ∈ Region.ready .any ops listed := mem_ready.2 ⟨by rw [getD_lt hi'] at hg ⊢; exact hg, ops[i], Array.getElem?_eq_getElem hio, fun ed hed hb => by
              have hlt := c.back i _ (Array.getElem?_eq_getElem hio) ed.on (List.mem_map.2 ⟨ed, List.mem_filter.2 ⟨by simpa using hed, hb⟩, rfl⟩)
              exact ihi ed.on hlt (by omega)⟩
            rw [hnil] at this; cases this
      · obtain ⟨h5, o, ho, _⟩ := mem_ready.1 hi
        have hil : i < l.length := by rw [← c.size]; exact (Array.getElem?_eq_some_iff.1 ho).1
        have hi' : i < listed.size := by rw [inv.size]; exact hil
        refine c.one hk hmono hwf inv hi fun a1 w1 inv1 => ih _ a1 w1 ?_ inv1
        have := cntF_set (l := listed.toList) (i := i) (by rw [getD_lt hi'] at h5; simpa [hi'] using h5)
        rw [Array.toList_setIfInBounds]; omega
  refine key _ _ _ _ ?_ ⟨by simp [c.size], fun i o ho hS j hj => ?_, rfl, he.1, padH (HH 0) (HH l.length).length, ρ.pad (HH l.length).length, padH_length hM, (Step.drawn hs).trans ((pad_step hs0 hM).mono hk), fun d => ?_, fun t => ?_, fun i hi _ d hd1 hd2 => ?_⟩
  · have : ∀ n, cntF (List.replicate n false) = n := fun n => by
      induction n with
      | zero => rfl
      | succ n ih => simp [List.replicate_succ, cntF, ih]; omega
    simp [this]
  · exfalso
    have : (Array.replicate ops.size false).getD i false = true := hS
    simp [Array.getD] at this
  · rw [padH_get]
    exact (lastw_none fun j hj => by simp [Array.getD]).symm
  · have : tmpS l E V (fun j => (Array.replicate ops.size false).getD j false) t = eget (E 0) t := lastw_none fun j hj => by simp [Array.getD]
    rw [this]
    exact (he.2 t).ext (pad_ext (by rw [hs.n]; exact hM))
  · show (if d < ρ.n then ρ.g (.p d) else _).ok = false
    have := mono_le hmono (i := 0) (j := i) (Nat.zero_le _) (by omega)
    rw [if_neg (by rw [hs.n]; omega)]; rfl
theorem text_sound {ops : Array Oper} {ro : Option Nat} {Q : Exit → Act → World → Prop} (hp : CallsOK C P p) : ∀ {l : List AOper} {os : List Oper} {i : Nat} {ρ : Rho} {e e' : Env} {H H' : Heap} {a : Act} {w : World},
    opersOk P N ops l os = true → ops.toList.drop i = os → SR C ρ H w → ER ρ N e a.tmps → aops p l e H = some (e', H') →
    (∀ a' w' ρ', Step C H.length ρ H w ρ' H' w' → ER ρ' N e' a'.tmps → a'.defers = a.defers → H.length ≤ H'.length → Q .normal a' w') → wpOpsIn (Fr ro) 0 P ops Q (List.range' i os.length) a w := by
  intro l
  induction l with
  | nil =>
    intro os i ρ e e' H H' a w hok hdrop hs he hrun hQ
    cases os with
    | cons _ _ => cases hok
    | nil => cases hrun; exact hQ a w ρ (Step.refl hs) he rfl (Nat.le_refl _)
  | cons x l ih =>
    intro os i ρ e e' H H' a w hok hdrop hs he hrun hQ
    cases os with
    | nil => cases hok
    | cons o os =>
      unfold opersOk at hok
      simp only [Bool.and_eq_true] at hok
      obtain ⟨hd, hg, hop⟩ := operOk_spec hok.1
      have hoi : ops[i]? = some o := by
        have : (ops.toList.drop i)[0]? = some o := by rw [hdrop]; rfl
        simpa using this
      have hdrop' : ops.toList.drop (i + 1) = os := by
        rw [← List.drop_drop, hdrop]; rfl
      obtain ⟨g, hgw, hrun⟩ := ob_eq (h := hrun)
      rw [List.length_cons, List.range'_succ]
      show (match ops[i]? with | none => _ | some o => _)
      rw [hoi]
      simp only []
      rw [wanted_run hg (fun t _ => he.2 t) hgw]
      cases g with
      | false =>
        simp only [Bool.false_eq_true, if_false]
        exact ⟨fun _ _ => trivial, ih hok.2 hdrop' hs (ER.putD he hd (.tup [] [] .nil)) hrun fun a' w' ρ' h1 h2 h3 h4 => hQ a' w' ρ' h1 h2 (h3.trans (by cases o.dst <;> rfl)) h4⟩
      | true =>
        simp only [if_true]
        obtain ⟨r, hr, hrun⟩ := ob_eq (h := hrun)
        refine oper_sound hp hs he hop (by exact hr) fun y ρ1 w1 h1 h2 h3 => ?_
        refine ih hok.2 hdrop' h2.sr (ER.putD (he.ext (h2.ext hs h3)) hd h1) hrun fun a' w' ρ' h4 h5 h6 h7 => ?_
        exact hQ a' w' ρ' (h2.trans (h4.mono h3)) h5 (h6.trans (by cases o.dst <;> rfl)) (Nat.le_trans h3 h7)
end
end Go.AI
