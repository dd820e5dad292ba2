/-
  OPERATIONS, ONE BY ONE (fifth part): equality, slice expressions, len, min and max.
-/
import Derived.Test.YtcghmpalmedkiaaLAiOpD
set_option linter.unusedVariables false
set_option linter.unusedSimpArgs false
namespace Go.AI
section
variable {C : ACode → Code → Nat → Prop} {P : Program} {ρ : Rho} {H : Heap} {w : World} {N : Nat} {e : Env} {a : Act}
theorem eqI_val {x y : AVal} {X Y : Value} {b : Bool} (h : eqI x y = some b) (hx : VR ρ x X) (hy : VR ρ y Y) : ∃ k m n, X = .int k m ∧ Y = .int k n ∧ b = (m == n) := by
  obtain ⟨p, hp, h⟩ := ob_eq h
  obtain ⟨q, hq, h⟩ := ob_eq h
  obtain ⟨hk, h⟩ := ite'_some h
  rw [asInt_some hp] at hx; rw [asInt_some hq] at hy
  cases hx; cases hy; cases h
  have hk : p.1 = q.1 := by simpa using hk
  refine ⟨p.1, p.2, q.2, rfl, by rw [hk], ?_⟩
  rw [ieq_eq, Bool.eq_iff_iff]; simp
theorem eqB_val {x y : AVal} {X Y : Value} {b : Bool} (h : eqB x y = some b) (hx : VR ρ x X) (hy : VR ρ y Y) : ∃ m n, X = .bool m ∧ Y = .bool n ∧ b = (m == n) := by
  obtain ⟨p, hp, h⟩ := ob_eq h
  obtain ⟨q, hq, h⟩ := ob_eq h
  rw [asBool_some hp] at hx; rw [asBool_some hq] at hy
  cases hx; cases hy; cases h
  exact ⟨p, q, rfl, rfl, beqB_eq p q⟩
theorem eqS_val {x y : AVal} {X Y : Value} {b : Bool} (h : eqS x y = some b) (hx : VR ρ x X) (hy : VR ρ y Y) : ∃ m n, X = .string m ∧ Y = .string n ∧ b = decide (m = n) := by
  obtain ⟨p, hp, h⟩ := ob_eq h
  obtain ⟨q, hq, h⟩ := ob_eq h
  rw [asStr_some hp] at hx; rw [asStr_some hq] at hy
  cases hx; cases hy; cases h
  exact ⟨p, q, rfl, rfl, strEq_iff p q⟩
theorem flatFields_run {xs ys : List Value} (d : Nat) {fs : List Field} {i : Nat} {ks : List Nat} {cs ds : List AVal} {b : Bool} (hf : flatFields P fs i ks = true)
    (hx : VRL ρ cs (xs.drop i)) (hy : VRL ρ ds (ys.drop i)) (h : eqFs ks cs ds = some b) : (Op.eqFields (d + 1) xs.toArray ys.toArray fs).run P w = .ok b w := by
  induction fs generalizing i ks cs ds with
  | nil => cases ks with
    | nil =>
      obtain ⟨_, h⟩ := ite'_some h
      cases h; rfl
    | cons _ _ => cases hf
  | cons f fs ih => cases ks with
    | nil => cases hf
    | cons k ks =>
      simp [flatFields] at hf
      obtain ⟨⟨⟨⟨hnm, hoff⟩, hsz⟩, hk⟩, hf⟩ := hf
      cases cs with
      | nil => cases h
      | cons c cs => cases ds with
        | nil => cases h
        | cons dd ds =>
          have h' : (ob (eq1 k c dd) fun t => ite' t (eqFs ks cs ds) (some false)) = some b := h
          obtain ⟨t, ht, h'⟩ := ob_eq h'
          obtain ⟨it, hi, hs1⟩ := sizeIs_run hsz
          -- the parts
          generalize hX : xs.drop i = XS at hx
          generalize hY : ys.drop i = YS at hy
          cases hx with | cons _ X _ XS' hxc hxs =>
          cases hy with | cons _ Y _ YS' hyc hys =>
          have gX : xs[i]? = some X := by
            have := congrArg (·[0]?) hX; simpa using this
          have gY : ys[i]? = some Y := by
            have := congrArg (·[0]?) hY; simpa using this
          have dX : XS' = xs.drop (i + 1) := by
            have := congrArg List.tail hX; simpa using this.symm
          have dY : YS' = ys.drop (i + 1) := by
            have := congrArg List.tail hY; simpa using this.symm
          subst dX dY
          have pe : ∀ (zs : List Value) (Z : Value), zs[i]? = some Z → (match P.underlying f.type with | some (.int _) | some .bool | some .string => true | _ => false) = true → (part f.type zs.toArray f.offset).run P w = .ok Z w := by
            intro zs Z hz hu
            have hagg : (isAgg f.type).run P w = .ok false w := by
              cases hd : P.underlying f.type with
              | none => rw [hd] at hu; cases hu
              | some u =>
                rw [hd] at hu
                simp only [isAgg, Sem.run_bind, run_underlying hd, Result.andThen_ok]
                cases u <;> first | rfl | cases hu
            simp [part, hagg, hoff, hz]
          have hu : (match P.underlying f.type with | some (.int _) | some .bool | some .string => true | _ => false) = true := by
            split at hk <;> first | exact absurd hk Bool.false_ne_true | (rename_i hd; simp [hd])
          have heq : (Op.equalIn (d + 1) f.type X Y).run P w = .ok t w := by
            split at hk
            · rename_i k0 hd
              have hk := eq_of_beq hk; subst hk
              obtain ⟨k', m, n, rfl, rfl, rfl⟩ := eqI_val ht hxc hyc
              exact run_equalIn_int w d f.type k' k0 m n hd
            · rename_i hd
              have hk := eq_of_beq hk; subst hk
              obtain ⟨m, n, rfl, rfl, rfl⟩ := eqB_val ht hxc hyc
              exact run_equalIn_bool' w d f.type m n hd
            · rename_i hd
              have hk := eq_of_beq hk; subst hk
              obtain ⟨m, n, rfl, rfl, rfl⟩ := eqS_val ht hxc hyc
              rw [run_equalIn_string w d f.type m n hd, byteArray_toList]
            · cases hk
          simp only [Op.eqFields]
          rw [if_pos hnm]
          simp only [Sem.run_bind, pe xs X gX hu, pe ys Y gY hu, heq, Result.andThen_ok]
          cases t with
          | false => simp at h'; subst h'; rfl
          | true => simp at h'; simpa using ih hf hxs hys h'
theorem equalIn_nils (d : Nat) {t el : TypeId} (hu : P.underlying t = some (.slice el)) (l c l' c' : Nat) : (Op.equalIn (d + 1) t (.slice none l c) (.slice none l' c')).run P w = .ok true w := by
  simp only [Op.equalIn, Sem.run_bind, run_underlying hu, Result.andThen_ok]; rfl
theorem equalIn_some_nil (d : Nat) {t el : TypeId} (hu : P.underlying t = some (.slice el)) (A : Addr) (l c l' c' : Nat) : (Op.equalIn (d + 1) t (.slice (some A) l c) (.slice none l' c')).run P w = .ok false w := by
  simp only [Op.equalIn, Sem.run_bind, run_underlying hu, Result.andThen_ok]; rfl
theorem eqv_run {op : BinOp} {ne : Bool} {t : TypeId} {kd : List Nat} {x y : AVal} {X Y : Value} {b : Bool} (hop : (match op with | .eql => !ne | .neq => ne | _ => false) = true) (ht : eqType P t kd = true)
    (h : eqv kd x y = some b) (hx : VR ρ x X) (hy : VR ρ y Y) (U V : Operand) :
    (do eqGuard op t U V X Y; binOp op t X Y).run P w = .ok (.bool (ite' ne (notB b) b)) w := by
  have key : ∀ {b' : Bool}, (eqGuard op t U V X Y).run P w = .ok () w → (Op.equal t X Y).run P w = .ok b' w → (∀ k m n, ¬ (X = .int k m ∧ Y = .int k n)) → (∀ m n, ¬ (X = .string m ∧ Y = .string n)) →
      (∀ p, X ≠ .pointer p) → (∀ k m, X ≠ .int k m) → (∀ k m, X ≠ .float k m) → (∀ k m n, X ≠ .complex k m n) → (∀ m, X ≠ .string m) →
      (do eqGuard op t U V X Y; binOp op t X Y).run P w = .ok (.bool (ite' ne (notB b') b')) w := by
    intro b' hg heq _ _ _ h1 h2 h3 h4
    simp only [Sem.run_bind, hg, Result.andThen_ok]
    cases op <;> simp at hop
    · subst hop
      cases X <;> first | exact absurd rfl (h1 _ _) | exact absurd rfl (h2 _ _) | exact absurd rfl (h3 _ _ _) | exact absurd rfl (h4 _) | simp [binOp, heq]
    · subst hop
      cases X <;> first | exact absurd rfl (h1 _ _) | exact absurd rfl (h2 _ _) | exact absurd rfl (h3 _ _ _) | exact absurd rfl (h4 _) | simp [binOp, heq]
  unfold eqType at ht
  split at ht
  · rename_i hu
    simp at ht; subst ht
    obtain ⟨m, n, rfl, rfl, rfl⟩ := eqB_val (b := b) h hx hy
    refine key (by simp [eqGuard_at_bool]) (run_equalIn_bool' w _ t m n hu) ?_ ?_ ?_ ?_ ?_ ?_ ?_ <;> intros <;> simp
  · rename_i el hu
    simp at ht; subst ht
    have h : eqN x y = some b := h
    obtain ⟨hn, h⟩ := ite'_some h
    rw [isNilS_true hn] at hy
    cases hy
    cases hxn : isNilS x with
    | true =>
      rw [hxn] at h; cases h
      rw [isNilS_true hxn] at hx; cases hx
      refine key (by rw [eqGuard_at_slice]; rfl) (equalIn_nils 9999 hu _ _ _ _) ?_ ?_ ?_ ?_ ?_ ?_ ?_ <;> intros <;> simp
    | false =>
      rw [hxn] at h
      obtain ⟨s, hs, h⟩ := ob_eq h
      obtain ⟨hl, h⟩ := ite'_none h
      cases h
      rw [asSl_some hs] at hx
      cases hx with | slice _ _ _ _ _ _ A cap' hn g1 g2 g3 g4 g5 =>
      have hl : 0 < cap' := by
        rcases Nat.eq_zero_or_pos cap' with h0 | h0
        · have h1 : s.len = 0 := by omega
          have h2 : s.cap = 0 := by omega
          rw [h1, h2] at hl; cases hl
        · exact h0
      have hA := g3 hl
      subst hA
      refine key (by rw [eqGuard_at_slice]; rfl) (equalIn_some_nil 9999 hu _ _ _ _ _) ?_ ?_ ?_ ?_ ?_ ?_ ?_ <;> intros <;> simp
  · rename_i fs hu
    simp at ht
    obtain ⟨⟨⟨hf, hst⟩, hgd⟩, hkd⟩ := ht
    cases kd with
    | nil => cases hkd
    | cons k ks =>
      simp at hkd
      have h : ite' (Nat.beq k 0) (eqB x y) (ite' (Nat.beq k 9) (eqN x y) (ob (asAgg x) fun cs => ob (asAgg y) fun ds => eqFs (k :: ks) cs ds)) = some b := h
      have e0 : Nat.beq k 0 = false := by cases hb : Nat.beq k 0 with | false => rfl | true => exact absurd (Nat.eq_of_beq_eq_true hb) hkd.1
      have e9 : Nat.beq k 9 = false := by cases hb : Nat.beq k 9 with | false => rfl | true => exact absurd (Nat.eq_of_beq_eq_true hb) hkd.2
      rw [e0, e9] at h
      obtain ⟨cs, hcs, h⟩ := ob_eq h
      obtain ⟨ds, hds, h⟩ := ob_eq h
      rw [asAgg_some hcs] at hx; rw [asAgg_some hds] at hy
      cases hx with | agg _ xs hxl =>
      cases hy with | agg _ ys hyl =>
      have hfo : P.fieldsOf t = fs := by simp [Program.fieldsOf, hu]
      have hrun := flatFields_run (P := P) (w := w) (xs := xs) (ys := ys) 9998 hf (by simpa using hxl) (by simpa using hyl) h
      refine key (run_eqGuard_agg w op t U V _ _ hgd) ?_ ?_ ?_ ?_ ?_ ?_ ?_ ?_ <;> try (intros; simp)
      rw [Op.equal, Op.maxDepth, run_equalIn_struct w 9999 t _ _ (by rw [hfo]; exact hu) hst, hfo]; exact hrun
  · cases ht
theorem op_eq {op : BinOp} {ne : Bool} {t : TypeId} {kd : List Nat} {x y : Opnd} {x' y' : Operand} (hs : SR C ρ H w) (he : ER ρ N e a.tmps) (hop : (match op with | .eql => !ne | .neq => ne | _ => false) = true) (ht : eqType P t kd = true)
    (h1 : opndOk x x' = true) (h2 : opndOk y y' = true) {v : AVal} {H' : Heap} (hr : oEq ne kd x y e H = some (v, H')) :
    OpRun C P (do pure (.value (← (do eqGuard op t x' y' (a.eval x') (a.eval y'); binOp op t (a.eval x') (a.eval y'))))) ρ H w v H' := by
  obtain ⟨b, hb, hr⟩ := ob_eq hr
  cases hr
  exact .pure hs (val_run (eqv_run hop ht hb (opnd_VR h1 he) (opnd_VR h2 he) x' y')) (.bool _)
theorem oev_VR {x : Option Opnd} {x' : Option Operand} (he : ER ρ N e a.tmps) (h : oopOk x x' = true) :
    (oev e x = none ∧ x' = none) ∨ ∃ v z, oev e x = some v ∧ x'.map a.eval = some z ∧ VR ρ v z := by
  cases x with
  | none => cases x' with
    | none => exact .inl ⟨rfl, rfl⟩
    | some _ => cases h
  | some x => cases x' with
    | none => cases h
    | some y => exact .inr ⟨_, _, rfl, rfl, opnd_VR h he⟩
theorem bnd_run {v : AVal} {z : Value} (hv : VR ρ v z) {d top j : Nat} (h : bnd (some v) d top = some j) (top' : Nat) (ht : top ≤ top') (code : BoundsCode) :
    (Instr.sliceBound z top' code).run P w = .ok j w ∧ j ≤ top := by
  obtain ⟨p, hp, h⟩ := ob_eq h
  rw [asInt_some hp] at hv
  cases hv
  obtain ⟨h1, h2⟩ := inx_some h
  have hj : j ≤ top := by omega
  rw [run_sliceBound w p.1 p.2 top' code (by omega) (by omega), h1]
  exact ⟨by simp, hj⟩
theorem bounds_run {isS : Bool} {l cap cap' : Nat} {lo hi mx : Option AVal} {lo' hi' mx' : Option Value} {m h i : Nat}
    (hlo : (lo = none ∧ lo' = none) ∨ ∃ v z, lo = some v ∧ lo' = some z ∧ VR ρ v z) (hhi : (hi = none ∧ hi' = none) ∨ ∃ v z, hi = some v ∧ hi' = some z ∧ VR ρ v z)
    (hmx : (mx = none ∧ mx' = none) ∨ ∃ v z, mx = some v ∧ mx' = some z ∧ VR ρ v z) (hc : cap ≤ cap')
    (h1 : bnd mx cap cap = some m) (h2 : bnd hi l m = some h) (h3 : bnd lo 0 h = some i) (h4 : ¬ (mx.isSome = true ∧ hi.isSome = false)) :
    ∃ m', (Instr.sliceBounds isS l cap' lo' hi' mx').run P w = .ok (i, h, m') w ∧ m ≤ m' ∧ m' ≤ cap' ∧ (mx = none → m = cap ∧ m' = cap') ∧ (mx.isSome = true → m' = m) ∧ i ≤ h ∧ (hi.isSome = true → h ≤ m) ∧ (hi = none → h = l) := by
  rcases hmx with ⟨rfl, rfl⟩ | ⟨mv, mz, rfl, rfl, hm⟩
  · cases h1
    rcases hhi with ⟨rfl, rfl⟩ | ⟨hv, hz, rfl, rfl, hh⟩
    · cases h2
      rcases hlo with ⟨rfl, rfl⟩ | ⟨lv, lz, rfl, rfl, hl⟩
      · cases h3; exact ⟨cap', by simp [Instr.sliceBounds], hc, Nat.le_refl _, fun _ => ⟨rfl, rfl⟩, by simp, Nat.zero_le _, by simp, fun _ => rfl⟩
      · obtain ⟨hr, hj⟩ := bnd_run (P := P) (w := w) hl h3 _ (Nat.le_refl _) .sliceB
        exact ⟨cap', by simp [Instr.sliceBounds, hr], hc, Nat.le_refl _, fun _ => ⟨rfl, rfl⟩, by simp, hj, by simp, fun _ => rfl⟩
    · obtain ⟨hr2, hj2⟩ := bnd_run (P := P) (w := w) hh h2 cap' hc (if isS then .sliceAcap else .sliceAlen)
      rcases hlo with ⟨rfl, rfl⟩ | ⟨lv, lz, rfl, rfl, hl⟩
      · cases h3; exact ⟨cap', by simp [Instr.sliceBounds, hr2], hc, Nat.le_refl _, fun _ => ⟨rfl, rfl⟩, by simp, Nat.zero_le _, fun _ => hj2, by simp⟩
      · obtain ⟨hr, hj⟩ := bnd_run (P := P) (w := w) hl h3 _ (Nat.le_refl _) .sliceB
        exact ⟨cap', by simp [Instr.sliceBounds, hr2, hr], hc, Nat.le_refl _, fun _ => ⟨rfl, rfl⟩, by simp, hj, fun _ => hj2, by simp⟩
  · obtain ⟨hr1, hj1⟩ := bnd_run (P := P) (w := w) hm h1 cap' hc (if isS then .slice3Acap else .slice3Alen)
    rcases hhi with ⟨rfl, rfl⟩ | ⟨hv, hz, rfl, rfl, hh⟩
    · exact absurd ⟨rfl, rfl⟩ h4
    · obtain ⟨hr2, hj2⟩ := bnd_run (P := P) (w := w) hh h2 m (Nat.le_refl _) .slice3B
      rcases hlo with ⟨rfl, rfl⟩ | ⟨lv, lz, rfl, rfl, hl⟩
      · cases h3; exact ⟨m, by simp [Instr.sliceBounds, hr1, hr2], Nat.le_refl _, by omega, by simp, fun _ => rfl, Nat.zero_le _, fun _ => hj2, by simp⟩
      · obtain ⟨hr, hj⟩ := bnd_run (P := P) (w := w) hl h3 _ (Nat.le_refl _) .slice3C
        exact ⟨m, by simp [Instr.sliceBounds, hr1, hr2, hr], Nat.le_refl _, by omega, by simp, fun _ => rfl, hj, fun _ => hj2, by simp⟩
theorem isSome'_eq {α : Type} (x : Option α) : isSome' x = x.isSome := by cases x <;> rfl
end
end Go.AI
