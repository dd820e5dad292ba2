/-
  OPERATIONS, ONE BY ONE (seventh part): maps.
-/
import Derived.Test.YtcghmpalmedkiaaLAiOpF
set_option linter.unusedVariables false
set_option linter.unusedSimpArgs false
namespace Go.AI
section
variable {C : ACode → Code → Nat → Prop} {P : Program} {ρ : Rho} {H : Heap} {w : World} {N : Nat} {e : Env} {a : Act}
def keyDesc (str : Bool) (k : IntKind) : TypeDesc := if str then .string else .int k
theorem keyEq_run {str b : Bool} {k p : AVal} {K Q : Value} (h : keyEq str k p = some b) (hk : VR ρ k K) (hp : VR ρ p Q) (kk : IntKind) : Instr.sameNow (keyDesc str kk) K Q = some b ∧ (b = true → K = Q) := by
  cases str with
  | true =>
    obtain ⟨s, hs, h⟩ := ob_eq (h : eqS k p = some b)
    obtain ⟨t, ht, h⟩ := ob_eq h
    cases h
    rw [asStr_some hs] at hk; rw [asStr_some ht] at hp
    cases hk; cases hp
    have e1 : (s == t) = strEq s t := by
      rw [strEq_iff]
      rw [Bool.eq_iff_iff, MapKept.bytes_beq]; simp
    refine ⟨by simp [keyDesc, Instr.sameNow, e1], fun hb => ?_⟩
    rw [strEq_iff] at hb; simp at hb; rw [hb]
  | false =>
    obtain ⟨s, hs, h⟩ := ob_eq (h : eqI k p = some b)
    obtain ⟨t, ht, h⟩ := ob_eq h
    obtain ⟨hkq, h⟩ := ite'_some h
    cases h
    rw [asInt_some hs] at hk; rw [asInt_some ht] at hp
    cases hk; cases hp
    simp at hkq
    refine ⟨by simp [keyDesc, Instr.sameNow, hkq]; exact Bool.eq_iff_iff.2 (by simp), fun hb => ?_⟩
    rw [ieq_eq] at hb; simp at hb; rw [hb, hkq]
theorem findKey_cons (str : Bool) (k : AVal) (p : AVal × AVal) (es : List (AVal × AVal)) : findKey str k (p :: es) = ob (keyEq str k p.1) fun t => ite' t (some (some p.2)) (findKey str k es) := rfl
theorem find_run {str : Bool} {k : AVal} {K : Value} {es : List (AVal × AVal)} {ms : List MapEntry} (kk : IntKind) (hk : VR ρ k K) (hm : MR ρ es ms) {f : Option AVal} (h : findKey str k es = some f) (i : Nat) :
    (f = none ∧ Instr.findNow (keyDesc str kk) K ms i = some none) ∨ ∃ v j x, f = some v ∧ Instr.findNow (keyDesc str kk) K ms i = some (some (j, x)) ∧ VR ρ v x := by
  induction hm generalizing i with
  | nil => cases h; exact .inl ⟨rfl, rfl⟩
  | cons p m ps ms hp hs ih =>
    rw [findKey_cons] at h
    obtain ⟨b, hb, h⟩ := ob_eq h
    obtain ⟨h1, _⟩ := keyEq_run hb hk hp.keyR kk
    cases b with
    | true => cases h; exact .inr ⟨p.2, i, m.val, rfl, by simp [Instr.findNow, h1], hp.valR⟩
    | false =>
      rcases ih h (i + 1) with ⟨g1, g2⟩ | ⟨v, j, x, g1, g2, g3⟩
      · exact .inl ⟨g1, by simp [Instr.findNow, h1, g2]⟩
      · exact .inr ⟨v, j, x, g1, by simp [Instr.findNow, h1, g2], g3⟩
theorem putKey_cons (str : Bool) (k v : AVal) (p : AVal × AVal) (l : List (AVal × AVal)) : putKey str k v (p :: l) = ob (keyEq str k p.1) fun t => ite' t (some ((k, v) :: l)) (ob (putKey str k v l) fun es' => some (p :: es')) := rfl
theorem put_run {str : Bool} {k v : AVal} {K V : Value} {es es' : List (AVal × AVal)} {ms : List MapEntry} (kk : IntKind) (hk : VR ρ k K) (hv : VR ρ v V) (hkf : k.flat = true) (hvf : v.flat = true) (hm : MR ρ es ms) (h : putKey str k v es = some es') (i : Nat) :
    (Instr.findNow (keyDesc str kk) K ms i = some none ∧ ∀ n, MR ρ es' (ms ++ [⟨K, V, n⟩])) ∨
    ∃ j m, Instr.findNow (keyDesc str kk) K ms i = some (some (i + j, m.val)) ∧ ms[j]? = some m ∧ m.key = K ∧ MR ρ es' (ms.modify j fun e => { e with key := K, val := V }) := by
  induction hm generalizing i es' with
  | nil => cases h; exact .inl ⟨rfl, fun n => .cons _ _ _ _ ⟨hk, hv, hkf, hvf⟩ .nil⟩
  | cons p m ps ms hp hs ih =>
    rw [putKey_cons] at h
    obtain ⟨b, hb, h⟩ := ob_eq h
    obtain ⟨h1, h2⟩ := keyEq_run hb hk hp.keyR kk
    cases b with
    | true =>
      cases h
      exact .inr ⟨0, m, by simp [Instr.findNow, h1], rfl, (h2 rfl).symm, by simpa using MR.cons _ _ _ _ ⟨hk, hv, hkf, hvf⟩ hs⟩
    | false =>
      obtain ⟨es2, he2, h⟩ := ob_eq (h : ob (putKey str k v ps) _ = some es')
      cases h
      rcases ih he2 (i + 1) with ⟨g1, g2⟩ | ⟨j, m', g1, g2, g3, g4⟩
      · exact .inl ⟨by simp [Instr.findNow, h1, g1], fun n => .cons _ _ _ _ hp (g2 n)⟩
      · exact .inr ⟨j + 1, m', by simp [Instr.findNow, h1, g1]; omega, by simpa using g2, g3, by simpa using MR.cons _ _ _ _ hp g4⟩
theorem isKey_run {str : Bool} {kk : IntKind} {k : AVal} {K : Value} (h : isKey str k = true) (hk : VR ρ k K) (kt : TypeId) (hd : P.underlying kt = some (keyDesc str kk)) (b : Bool) (n : Nat) :
    (Instr.checkKey b (n + 1) kt K).run P w = .ok () w ∧ k.flat = true := by
  cases str with
  | true =>
    have h : isSome' (asStr k) = true := h
    rw [isSome'_eq] at h
    obtain ⟨s, hs⟩ := Option.isSome_iff_exists.1 h
    rw [asStr_some hs] at hk ⊢
    cases hk
    exact ⟨MapKept.run_checkKey (d := .string) (by simpa [keyDesc] using hd) (by simp [MapKept.IsKey]) b n, rfl⟩
  | false =>
    have h : isSome' (asInt k) = true := h
    rw [isSome'_eq] at h
    obtain ⟨s, hs⟩ := Option.isSome_iff_exists.1 h
    rw [asInt_some hs] at hk ⊢
    cases hk
    refine ⟨?_, rfl⟩
    unfold Instr.checkKey
    simp only [Sem.run_bind, run_underlying hd, Result.andThen]
    simp [keyDesc]
theorem keyTy_desc {k : TypeId} {str : Bool} (h : keyTy P k str = true) : ∃ kk, P.underlying k = some (keyDesc str kk) := by
  unfold keyTy at h
  split at h
  · rename_i kk hu; simp at h; subst h; exact ⟨kk, hu⟩
  · rename_i hu; subst h; exact ⟨.i64, hu⟩
  · cases h
theorem zeroOne_run {t : TypeId} {z : AVal} (h : zeroOne P t z = true) : ∃ i v, P.info? t = some i ∧ i.zero = some v ∧ VR ρ z v := by
  unfold zeroOne at h
  split at h
  · rename_i i hi
    split at h
    · exact ⟨i, _, hi, by assumption, (const1_VR h).1⟩
    · cases h
  · cases h
theorem op_look {t : TypeId} {str ok : Bool} {z : AVal} {m k : Opnd} {m' k' : Operand} (hs : SR C ρ H w) (he : ER ρ N e a.tmps) (ht : keyKind P t str z = true) (h1 : opndOk m m' = true) (h2 : opndOk k k' = true)
    {v : AVal} {H' : Heap} (hr : oLook str z m k ok e H = some (v, H')) : OpRun C P (do pure (.value (← Instr.lookup t (a.eval m') (a.eval k') ok))) ρ H w v H' := by
  obtain ⟨u, hu, hr⟩ := ob_eq hr
  cases hr
  obtain ⟨b, hb, hu⟩ := ob_eq hu
  obtain ⟨r, hrr, hu⟩ := ob_eq hu
  obtain ⟨hik, hu⟩ := ite'_some hu
  obtain ⟨f, hf, hu⟩ := ob_eq hu
  cases hu
  unfold keyKind at ht
  split at ht
  · rename_i kt el hun
    simp at ht
    obtain ⟨kk, hd⟩ := keyTy_desc ht.1
    have hm := opnd_VR h1 he (ρ := ρ)
    have hk := opnd_VR h2 he (ρ := ρ)
    rw [asMap_some hb] at hm
    generalize a.eval m' = M at hm ⊢
    generalize a.eval k' = K at hk ⊢
    cases hm with | map _ hn =>
    have hob := hs.obj (.p b)
    rw [nget_p, mapOf_some hrr] at hob
    obtain ⟨en, cl, ho, hmr⟩ := hob
    obtain ⟨hck, hkf⟩ := isKey_run (P := P) (w := w) hik hk kt hd en.isEmpty 9999
    obtain ⟨i, zv, hi, hzv, hzr⟩ := zeroOne_run (ρ := ρ) ht.2
    rcases find_run kk hk hmr hf 0 with ⟨rfl, hfn⟩ | ⟨v, j, x, rfl, hfn, hv⟩
    · refine .pure hs (x := if ok then .tuple #[zv, .bool false] else zv) (val_run ?_) ?_
      · simp [Instr.lookup, run_underlying hun, MapKept.run_getObj_map ho, hck, MapKept.run_findKey hd hfn, run_zeroValue' hi hzv]
      · cases ok
        · exact hzr
        · exact .tup _ [zv, .bool false] (.cons _ _ _ _ hzr (.cons _ _ _ _ (.bool _) .nil))
    · refine .pure hs (x := if ok then .tuple #[x, .bool true] else x) (val_run ?_) ?_
      · simp [Instr.lookup, run_underlying hun, MapKept.run_getObj_map ho, hck, MapKept.run_findKey hd hfn]
      · cases ok
        · exact hv
        · exact .tup _ [x, .bool true] (.cons _ _ _ _ hv (.cons _ _ _ _ (.bool _) .nil))
  · cases ht
theorem mapKey_run {t : TypeId} {str : Bool} (h : mapKey P t str = true) : ∃ kt el kk, P.underlying t = some (.map kt el) ∧ P.underlying kt = some (keyDesc str kk) := by
  unfold mapKey at h
  split at h
  · rename_i kt el hu
    obtain ⟨kk, hd⟩ := keyTy_desc h
    exact ⟨kt, el, kk, hu, hd⟩
  · cases h
theorem op_mupd {t : TypeId} {str : Bool} {m k x : Opnd} {m' k' x' : Operand} (hs : SR C ρ H w) (he : ER ρ N e a.tmps) (ht : mapKey P t str = true) (h1 : opndOk m m' = true) (h2 : opndOk k k' = true) (h3 : opndOk x x' = true)
    {v : AVal} {H' : Heap} (hr : oMupd str m k x e H = some (v, H')) : OpRun C P (do Instr.mapUpdate t (a.eval m') (a.eval k') (a.eval x'); pure .skip) ρ H w v H' := by
  obtain ⟨b, hb, hr⟩ := ob_eq hr
  obtain ⟨r, hrr, hr⟩ := ob_eq hr
  obtain ⟨hc, hr⟩ := ite'_some hr
  obtain ⟨es', hes, hr⟩ := ob_eq hr
  cases hr
  simp at hc
  obtain ⟨hrw, hik, hfl, hone⟩ := hc
  obtain ⟨kt, el, kk, hun, hd⟩ := mapKey_run ht
  have hm := opnd_VR h1 he (ρ := ρ)
  have hk := opnd_VR h2 he (ρ := ρ)
  have hx := opnd_VR h3 he (ρ := ρ)
  rw [asMap_some hb] at hm
  generalize a.eval m' = M at hm ⊢
  generalize a.eval k' = K at hk ⊢
  generalize a.eval x' = X at hx ⊢
  cases hm with | map _ hn =>
  have hgo := mapOf_some hrr
  have hob := hs.obj (.p b)
  rw [nget_p, hgo] at hob
  obtain ⟨en, cl, ho, hmr⟩ := hob
  obtain ⟨hck, hkf⟩ := isKey_run (P := P) (w := w) hik hk kt hd false 9999
  have hset : ∀ o', (setObj (ρ.g (.p b)).b o').run P w = .ok () { w with heap := w.heap.setIfInBounds (ρ.g (.p b)).b o' } := fun o' => MapKept.run_setObj_map o' ho
  have fin : ∀ en' cl', MR ρ es' (Array.toList en') → (Instr.mapUpdate t (.map (some (ρ.g (.p b)).b)) K X).run P w = .ok () { w with heap := w.heap.setIfInBounds (ρ.g (.p b)).b (.map en' cl') } →
      OpRun C P (do Instr.mapUpdate t (.map (some (ρ.g (.p b)).b)) K X; pure .skip) ρ H w (.tup []) (upd H b (.map true es')) := by
    intro en' cl' hmr' hrun
    refine ⟨.skip, _, undef, ρ, unit_run hrun, .inr ⟨rfl, rfl⟩, .tup [] [] .nil, ?_, by simp⟩
    rw [upd_eq]
    have hb' := MapKept.heap_set (o' := .map en' cl') ho
    refine step_setP (w' := { w with heap := w.heap.setIfInBounds (ρ.g (.p b)).b (.map en' cl') }) hs rfl rfl rfl (by simp) b (by rw [hgo]; exact hrw) (fun i hi => hb'.2 i hi) _ ⟨en', cl', hb'.1, hmr'⟩ rfl (by intro i; rw [hgo]; rfl)
  rcases put_run kk hk hx hkf hfl hmr hes 0 with ⟨hfn, hmr'⟩ | ⟨j, m', hfn, hj, hkey, hmr'⟩
  · refine fin (en.push ⟨K, X, cl⟩) (cl + 1) (by simpa using hmr' cl) ?_
    simp [Instr.mapUpdate, run_underlying hun, MapKept.run_getObj_map ho, hck, MapKept.run_findKey hd hfn, hset]
  · have hj' : en[j]? = some m' := by simpa using hj
    refine fin (en.modify j fun e => { e with key := K, val := X }) cl (by simpa using hmr') ?_
    have hstay : (Instr.keyThatStays K K).run P w = .ok K w := by
      cases str with
      | true =>
        have hik : isSome' (asStr _) = true := hik
        rw [isSome'_eq] at hik
        obtain ⟨s, hs'⟩ := Option.isSome_iff_exists.1 hik
        rw [asStr_some hs'] at hk
        cases hk
        exact MapKept.run_keyThatStays (d := .string) (by simp [MapKept.IsKey])
      | false =>
        have hik : isSome' (asInt _) = true := hik
        rw [isSome'_eq] at hik
        obtain ⟨s, hs'⟩ := Option.isSome_iff_exists.1 hik
        rw [asInt_some hs'] at hk
        cases hk
        exact MapKept.run_keyThatStays (d := .int s.1) (by simp [MapKept.IsKey])
    simp at hfn
    simp [Instr.mapUpdate, run_underlying hun, MapKept.run_getObj_map ho, hck, MapKept.run_findKey hd hfn, hj', hkey, hstay, hset]
end
end Go.AI
