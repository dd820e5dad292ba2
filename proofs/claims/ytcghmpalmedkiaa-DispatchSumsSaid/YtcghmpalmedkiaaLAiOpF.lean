/-
  OPERATIONS, ONE BY ONE (sixth part): slice expressions, len, min and max, maps.
-/
import Derived.Test.YtcghmpalmedkiaaLAiOpE
set_option linter.unusedVariables false
set_option linter.unusedSimpArgs false
namespace Go.AI
section
variable {C : ACode → Code → Nat → Prop} {P : Program} {ρ : Rho} {H : Heap} {w : World} {N : Nat} {e : Env} {a : Act}
def OV (ρ : Rho) (x : Option AVal) (y : Option Value) : Prop := (x = none ∧ y = none) ∨ ∃ v z, x = some v ∧ y = some z ∧ VR ρ v z
theorem isZ_bnd {x : Option AVal} (h : isZ x = true) : bnd x 0 0 = some 0 := by
  cases x with
  | none => rfl
  | some v =>
    have h : (Option.rec false (fun p => ieq p.2 0) (asInt v) : Bool) = true := h
    show ob (asInt v) (fun p => inx p.2 1) = some 0
    cases hi : asInt v with
    | none => rw [hi] at h; cases h
    | some p =>
      rw [hi] at h
      have h0 : ieq p.2 0 = true := h
      rw [ieq_eq] at h0
      have h0 : p.2 = 0 := by simpa using h0
      show inx p.2 1 = some 0
      rw [h0]; rfl
theorem slice_run {t : TypeId} {sz : Nat} {x v : AVal} {X : Value} {lo hi mx : Option AVal} {lo' hi' mx' : Option Value} (ht : sliceTy P t sz = true)
    (hx : VR ρ x X) (hlo : OV ρ lo lo') (hhi : OV ρ hi hi') (hmx : OV ρ mx mx') (h : aslice sz x lo hi mx = some v) :
    ∃ y, (Instr.sliceAt t X lo' hi' mx').run P w = .ok y w ∧ VR ρ v y := by
  have hmxs : isSome' mx = mx.isSome := isSome'_eq mx
  have hhis : isSome' hi = hi.isSome := isSome'_eq hi
  unfold aslice at h
  unfold sliceTy at ht
  cases hsl : asSl x with
  | some s =>
    rw [hsl] at h
    obtain ⟨m, hm, h⟩ := ob_eq h
    obtain ⟨hh, hhh, h⟩ := ob_eq h
    obtain ⟨i, hii, h⟩ := ob_eq h
    obtain ⟨hb, h⟩ := ite'_some h
    cases h
    rw [hmxs, hhis] at hb
    simp at hb
    obtain ⟨hsz0, hsz, hnb⟩ := hb
    rw [asSl_some hsl] at hx
    cases hx with | slice _ _ _ _ _ _ A cap' hn g1 g2 g3 g4 g5 =>
    obtain ⟨m', hr, b1, b2, b3, b4, b5, b6, b7⟩ := bounds_run (P := P) (w := w) (isS := true) (l := s.len) hlo hhi hmx g1 hm hhh hii (by
      rintro ⟨h1, h2⟩; rcases hnb with rfl | h
      · cases h1
      · rw [h] at h2; cases h2)
    split at ht
    · rename_i el hu
      simp at ht
      obtain ⟨it, hit, hs1⟩ := sizeIs_run ht.1
      have e1 : P.elem t = el := by simp [Program.elem, hu]
      refine ⟨sliced A i hh m' sz, ?_, ?_⟩
      · rw [run_sliceAt_slice w t _ _ _ _ (by rw [e1]; exact hu), run_slice_any w t A s.len cap' (by rw [e1]; exact hu), hr]
        simp [Result.andThen, e1, run_sizeOf' hit, hs1]
      · have hle : hh ≤ m' := by
          cases hi with
          | none =>
            have := b7 rfl
            cases mx with
            | none => have := b3 rfl; omega
            | some _ => rcases hnb with h | h <;> cases h
          | some _ => have := b6 rfl; omega
        unfold sliced
        rw [hsz]
        refine VR.slice s.a _ _ _ _ _ _ _ hn (by show m - i ≤ m' - i; omega) (fun hex => ?_) (fun hpos => ?_) (fun hown => ?_) (by show hh - i ≤ m' - i; omega)
        · show m' - i = m - i
          rw [hmxs] at hex
          cases hmn : mx with
          | none =>
            rw [hmn] at hex
            have := (b3 hmn); have := g2 hex; omega
          | some _ => rw [b4 (by rw [hmn]; rfl)]
        · have hA := g3 (by omega)
          rw [if_neg (by omega), hA]
          simp [add_none, Nat.add_assoc]
        · have h4 := g4 hown
          show s.off + i * s.sz + (m' - i) * s.sz ≤ _
          have h5 : (i + (m' - i)) * s.sz ≤ cap' * s.sz := Nat.mul_le_mul_right _ (by omega)
          rw [Nat.add_mul] at h5
          omega
    · simp at ht; subst ht; cases hsz0
    · cases ht
  | none =>
    rw [hsl] at h
    cases hst : asStr x with
    | some s =>
      rw [hst] at h
      obtain ⟨hb, h⟩ := ite'_some h
      obtain ⟨hh, hhh, h⟩ := ob_eq h
      obtain ⟨i, hii, h⟩ := ob_eq h
      cases h
      rw [hmxs] at hb
      simp at hb
      obtain ⟨hsz0, hmn⟩ := hb
      subst hmn
      rcases hmx with ⟨_, rfl⟩ | ⟨_, _, h, _⟩
      rotate_left
      · cases h
      rw [asStr_some hst] at hx
      cases hx
      obtain ⟨m', hr, b1, b2, b3, b4, b5, b6, b7⟩ := bounds_run (P := P) (w := w) (isS := false) (l := s.size) (cap := s.size) (cap' := s.size) (mx := none) (mx' := none) hlo hhi (.inl ⟨rfl, rfl⟩) (Nat.le_refl _) rfl hhh hii (by simp)
      split at ht
      · simp at ht; omega
      · rename_i hu
        refine ⟨_, ?_, .str _⟩
        rw [run_sliceAt_string w t _ _ _ _ hu]
        simp [Instr.slice, run_underlying hu, hr, Result.andThen]
      · cases ht
    | none =>
      rw [hst] at h
      obtain ⟨hb, h⟩ := ite'_some h
      cases h
      rw [hmxs, hhis] at hb
      simp at hb
      obtain ⟨hsz0, hnl, hzl, hzh, hzm, hnb⟩ := hb
      rw [isNilS_true hnl] at hx
      cases hx
      obtain ⟨m', hr, b1, b2, b3, b4, b5, b6, b7⟩ := bounds_run (P := P) (w := w) (isS := true) (l := 0) (cap := 0) (cap' := 0) hlo hhi hmx (Nat.le_refl _) (isZ_bnd hzm) (isZ_bnd hzh) (isZ_bnd hzl) (by
        rintro ⟨h1, h2⟩; rcases hnb with rfl | h
        · cases h1
        · rw [h] at h2; cases h2)
      split at ht
      · rename_i el hu
        simp at ht
        obtain ⟨it, hit, hs1⟩ := sizeIs_run ht.1
        have e1 : P.elem t = el := by simp [Program.elem, hu]
        refine ⟨.slice none 0 0, ?_, .nilSlice⟩
        rw [run_sliceAt_slice w t _ _ _ _ (by rw [e1]; exact hu), run_slice_any w t _ 0 0 (by rw [e1]; exact hu), hr]
        have : m' = 0 := by omega
        subst this
        simp [Result.andThen, e1, run_sizeOf' hit, sliced]
      · simp at ht; subst ht; cases hsz0
      · cases ht
theorem op_slice {t : TypeId} {sz : Nat} {x : Opnd} {y : Operand} {lo hi mx : Option Opnd} {lo' hi' mx' : Option Operand} (hs : SR C ρ H w) (he : ER ρ N e a.tmps) (ht : sliceTy P t sz = true) (h1 : opndOk x y = true)
    (h2 : oopOk lo lo' = true) (h3 : oopOk hi hi' = true) (h4 : oopOk mx mx' = true) {v : AVal} {H' : Heap} (hr : oSlice sz x lo hi mx e H = some (v, H')) :
    OpRun C P (do pure (.value (← Instr.sliceAt t (a.eval y) (lo'.map a.eval) (hi'.map a.eval) (mx'.map a.eval)))) ρ H w v H' := by
  obtain ⟨u, hu, hr⟩ := ob_eq hr
  cases hr
  have ov : ∀ {x : Option Opnd} {x' : Option Operand}, oopOk x x' = true → OV ρ (oev e x) (x'.map a.eval) := fun h => by
    rcases oev_VR (ρ := ρ) (e := e) (a := a) (N := N) he h with ⟨h1, h2⟩ | h
    · exact .inl ⟨h1, by rw [h2]; rfl⟩
    · exact .inr h
  obtain ⟨z, hz, hv⟩ := slice_run (P := P) (w := w) ht (opnd_VR h1 he) (ov h2) (ov h3) (ov h4) hu
  exact .pure hs (val_run hz) hv
theorem op_len {str : Bool} {t ty : TypeId} {x : Opnd} {y : Operand} (hs : SR C ρ H w) (he : ER ρ N e a.tmps) (ht : lenTy P t str = true) (h1 : opndOk x y = true) {v : AVal} {H' : Heap} (hr : oLen str x e H = some (v, H')) :
    ∃ z, (Builtin.len_ #[t] ty #[a.eval y]).run P w = .ok z w ∧ VR ρ v z ∧ H' = H := by
  obtain ⟨n, hn, hr⟩ := ob_eq hr
  cases hr
  have hx := opnd_VR h1 he (ρ := ρ)
  generalize a.eval y = q at hx
  unfold lenTy at ht
  unfold lenOf at hn
  refine ⟨goInt n, ?_, .int _ _, rfl⟩
  split at ht
  · rename_i hu
    subst ht
    obtain ⟨s, hst, hn⟩ := ob_eq hn
    cases hn
    rw [asStr_some hst] at hx; cases hx
    simp [Builtin.len_, run_underlying hu]
  · rename_i el hu
    simp at ht; subst ht
    cases hsl : asSl (x.ev e) with
    | some s =>
      simp only [ite'_false, hsl] at hn
      cases hn
      rw [asSl_some hsl] at hx; cases hx
      simp [Builtin.len_, run_underlying hu]
    | none =>
      simp only [ite'_false, hsl] at hn
      obtain ⟨hb, hn⟩ := ite'_some hn
      cases hn
      rw [isNilS_true hb] at hx; cases hx
      simp [Builtin.len_, run_underlying hu]
  · cases ht
theorem minmaxL_run {mx : Bool} {xs : List AVal} {ys : List Value} {x v : AVal} {y : Value} (h : minmaxL mx xs x = some v) (hx : VR ρ x y) (hs : VRL ρ xs ys) :
    ∃ z, (ys.foldlM (if mx then Builtin.max2 else Builtin.min2) y).run P w = .ok z w ∧ VR ρ v z := by
  induction xs generalizing x y ys with
  | nil => cases hs; cases h; exact ⟨y, rfl, hx⟩
  | cons u us ih =>
    cases hs with | cons _ u' _ us' h1 h2 =>
    obtain ⟨m, hm, h⟩ := ob_eq (h : ob (minmax2 mx x u) (minmaxL mx us) = some v)
    obtain ⟨z, hz, hv⟩ := minmax2_run (P := P) (w := w) hm hx h1
    obtain ⟨z', hz', hv'⟩ := ih h hv h2
    refine ⟨z', ?_, hv'⟩
    simp only [List.foldlM_cons, Sem.run_bind]
    cases mx <;> simp at hz hz' ⊢ <;> simp [hz, hz']
end
end Go.AI
