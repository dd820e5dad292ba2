/-
  NO WATER IS LOST: what arrives at a junction is what leaves it and what is drawn; THE PLAIN LAW OF WaterKept.
-/
import Derived.Test.YtfglifekecijjaaEPlClose
set_option linter.unusedVariables false
set_option linter.unusedSimpArgs false
namespace Go.AI
theorem sum_support {n : Nat} : ∀ {bs : List BR} {g : V}, AllB (fun x t => ∀ y ∈ t, y.k ≠ x.k) bs → (∀ b ∈ bs, b.k < n) → (∀ k, k < n → (∀ b ∈ bs, b.k ≠ k) → g k = 0) → sumTo n g = sumB (fun b _ => g b.k) bs := by
  intro bs
  induction bs with
  | nil => intro g _ _ h; exact sumTo_zero n fun w hw => h w hw fun b hb => by cases hb
  | cons b bs ih =>
    intro g hd hk h
    have h1 := sumTo_ch1 (n := n) (f := fun k => if k = b.k then 0 else g k) (g := g) (hk b (.head _)) (fun w hw => (if_neg hw).symm)
    simp only [if_true] at h1
    have h2 := ih (g := fun k => if k = b.k then 0 else g k) hd.2 (fun x hx => hk x (.tail _ hx)) (fun k hkn hne => by
      by_cases e : k = b.k
      · simp [e]
      · simp only [e, if_false]
        exact h k hkn fun x hx => by
          cases hx with
          | head => exact fun e' => e e'.symm
          | tail _ hx => exact hne x hx)
    have h3 : sumB (fun x _ => if x.k = b.k then 0 else g x.k) bs = sumB (fun x _ => g x.k) bs :=
      sumB_congr (AllB.mem fun x hx => if_neg (hd.1 x hx))
    show sumTo n g = g b.k + sumB (fun x _ => g x.k) bs
    rw [h1, h2, h3]; omega
def arr (cs : List WaterConduit) (Q : List Int) (w : Nat) : V := fun k => match cs[k]? with
  | some c => Q.getD k 0 * (unitV (to c) w - unitV (fr c) w)
  | none => 0
theorem kept {ns : List WaterNode} {cs : List WaterConduit} {cl c : Int} (h : Form ns cs cl) (hc : ab c ≤ 200000) (h0 : c = 0 ∨ 0 ≤ cl) {w : Nat} (hw : w < ns.length) (hl : mark (lakes ns) w = false) :
    sumTo cs.length (arr cs (stQ ns cs cl c) w) = (drw ns).getD w 0 := by
  have T := h.ok.tok
  have C := h.closing
  have st := (st_ok h.ok C.ok hc 0 [] []).1
  have hall := h.ok.branches
  have hk : ∀ b ∈ BL cs (grown ns cs).1, b.k < cs.length := by
    intro b hb
    obtain ⟨d, hd, rfl⟩ := List.mem_map.1 hb
    obtain ⟨e, he⟩ := hall d hd
    exact (List.getElem?_eq_some_iff.1 he.hc).1
  -- each branch
  have hbr : AllB (fun b t => arr cs (stQ ns cs cl c) w b.k = zD t (vec (stD ns cs cl c)) b.v * (unitV w b.v - unitV w b.u)) (BL cs (grown ns cs).1) :=
    (st.qb.and (AllB.mem fun b hb => hb)).mono fun b t g => by
      obtain ⟨g1, g2⟩ := g
      obtain ⟨d, hd, hbe⟩ := List.mem_map.1 g2
      obtain ⟨e, he⟩ := hall d hd
      rw [hbe] at he
      unfold arr
      rw [he.hc]
      simp only
      rw [g1]
      have sym : ∀ a : Nat, unitV a w = unitV w a := fun a => by
        unfold unitV
        by_cases q : w = a
        · rw [if_pos q, if_pos q.symm]
        · rw [if_neg q, if_neg fun e => q e.symm]
      rcases he.s with ⟨e1, e2, e3⟩ | ⟨e1, e2, e3⟩
      · rw [e1, show to e = b.v from by unfold to; rw [e2]; simp, show fr e = b.u from by unfold fr; rw [e3]; simp, Int.one_mul, sym, sym]
      · rw [e1, show fr e = b.v from by unfold fr; rw [e2]; simp, show to e = b.u from by unfold to; rw [e3]; simp, sym, sym, Int.neg_mul, Int.one_mul, Int.neg_mul, ← Int.mul_neg]
        congr 1; omega
  have htr := transfer (n := ns.length) (unitV w) (vec (stD ns cs cl c)) T.ins
  have hun : ∀ f : V, sumTo ns.length (fun x => f x * unitV w x) = f w := fun f => by
    have := sum_unit hw f
    rw [← this]; exact sumTo_congr fun x _ => Int.mul_comm _ _
  rw [hun, hun, zD_zero T.ch (T.fin w hw) hl] at htr
  have hsum : sumB (fun b _ => arr cs (stQ ns cs cl c) w b.k) (BL cs (grown ns cs).1) = vec (stD ns cs cl c) w := by
    rw [sumB_congr hbr]
    have e : (tnet ns cs).bs = BL cs (grown ns cs).1 := rfl
    rw [e] at htr
    omega
  rcases C.ok with g | ⟨k, x, rfl, hx, hoff⟩
  · -- no closing conduit
    rw [sum_support h.ok.dist hk (fun k hkn hne => by
      unfold arr
      cases hck : cs[k]? with
      | none => rfl
      | some d => simp only; rw [st.q0 k hne (by omega)]; simp), hsum]
    unfold stD; rw [if_neg (by omega)]; rfl
  · have lk := (List.getElem?_eq_some_iff.1 hx).1
    have h1 := sumTo_ch1 (n := cs.length) (f := fun j => if j = k then 0 else arr cs (stQ ns cs (k : Int) c) w j) (g := arr cs (stQ ns cs (k : Int) c) w) lk (fun j hj => (if_neg hj).symm)
    simp only [if_true] at h1
    have h2 := sum_support (n := cs.length) (g := fun j => if j = k then 0 else arr cs (stQ ns cs (k : Int) c) w j) h.ok.dist hk (fun j hj hne => by
      by_cases e : j = k
      · simp [e]
      · simp only [e, if_false]
        unfold arr
        cases hck : cs[j]? with
        | none => rfl
        | some d => simp only; rw [st.q0 j hne (by omega)]; simp)
    have h3 : sumB (fun b _ => if b.k = k then 0 else arr cs (stQ ns cs (k : Int) c) w b.k) (BL cs (grown ns cs).1) = sumB (fun b _ => arr cs (stQ ns cs (k : Int) c) w b.k) (BL cs (grown ns cs).1) :=
      sumB_congr (AllB.mem fun b hb => if_neg (hoff b hb))
    have h4 : arr cs (stQ ns cs (k : Int) c) w k = c * (unitV (to x) w - unitV (fr x) w) := by
      unfold arr; rw [hx]; simp only; rw [st.qc k rfl]
    rw [h1, h2, h3, hsum, h4, stD_vec h.ok.net hx]
    unfold drawn xV vec
    rw [Int.mul_add, Int.mul_sub, ← Int.mul_assoc, Int.mul_neg, Int.mul_one, Int.neg_mul]; omega
theorem drop_q {ns : List WaterNode} {cs : List WaterConduit} {cl c : Int} (h : Form ns cs cl) (hc : ab c ≤ 200000) {k : Nat} {d : WaterConduit} (hd : cs[k]? = some d) (hin : ∃ b ∈ BL cs (grown ns cs).1, b.k = k) :
    (stH ns cs cl c).getD (fr d) 0 - (stH ns cs cl c).getD (to d) 0 = lossI d.fResist ((stQ ns cs cl c).getD k 0) := by
  have st := (st_ok h.ok h.closing.ok hc 0 [] []).1
  have hall := h.ok.branches
  have hA : AllB (fun b _ => ∀ e, cs[b.k]? = some e → (stH ns cs cl c).getD (fr e) 0 - (stH ns cs cl c).getD (to e) 0 = lossI e.fResist ((stQ ns cs cl c).getD b.k 0)) (BL cs (grown ns cs).1) :=
    ((st.qb.and st.hd.drop).and (AllB.mem fun b hb => hb)).mono fun b t g e he => by
      obtain ⟨⟨g1, g2⟩, g3⟩ := g
      obtain ⟨y, hy, hbe⟩ := List.mem_map.1 g3
      obtain ⟨e', he'⟩ := hall y hy
      rw [hbe] at he'
      rw [he'.hc] at he; cases he
      have g2' : (stH ns cs cl c).getD b.v 0 = (stH ns cs cl c).getD b.u 0 - lossI b.r (zD t (vec (stD ns cs cl c)) b.v) := g2
      rw [g1, ← he'.r]
      rcases he'.s with ⟨e1, e2, e3⟩ | ⟨e1, e2, e3⟩
      · rw [e1, show to e = b.v from by unfold to; rw [e2]; simp, show fr e = b.u from by unfold fr; rw [e3]; simp, Int.one_mul, g2']; omega
      · rw [e1, show fr e = b.v from by unfold fr; rw [e2]; simp, show to e = b.u from by unfold to; rw [e3]; simp, Int.neg_mul, Int.one_mul, loss_opp, g2']; omega
  obtain ⟨b, hb, rfl⟩ := hin
  exact AllB.all hA b hb d hd
/-! the law's loops -/
def leftL (Q : List Int) : List WaterConduit → Nat → List Int → List Int
  | [], _, L => L
  | c :: cs, i, L => leftL Q cs (i + 1) ((L.set (fr c) (L.getD (fr c) 0 - Q.getD i 0)).set (to c) (L.getD (to c) 0 + Q.getD i 0))
theorem leftL_len (Q : List Int) : ∀ (cs : List WaterConduit) (i : Nat) (L : List Int), (leftL Q cs i L).length = L.length := by
  intro cs
  induction cs with
  | nil => intro i L; rfl
  | cons c cs ih => intro i L; show (leftL Q cs (i + 1) _).length = _; rw [ih]; simp
theorem sumTo_shift (f : V) : ∀ n, sumTo (n + 1) f = f 0 + sumTo n (fun k => f (k + 1)) := by
  intro n
  induction n with
  | zero => simp [sumTo]
  | succ n ih => show sumTo (n + 1) f + f (n + 1) = f 0 + (sumTo n _ + f (n + 1)); rw [ih]; omega
theorem leftL_eq {n : Nat} (Q : List Int) (w : Nat) : ∀ (cs : List WaterConduit) (i : Nat) (L : List Int), L.length = n → (∀ c ∈ cs, CondOk n c) →
    (leftL Q cs i L).getD w 0 = L.getD w 0 + sumTo cs.length (fun k => match cs[k]? with | some c => Q.getD (i + k) 0 * (unitV (to c) w - unitV (fr c) w) | none => 0) := by
  intro cs
  induction cs with
  | nil => intro i L _ _; simp [leftL, sumTo]
  | cons c cs ih =>
    intro i L hL hE
    have hc := hE c (.head _)
    have h1 := hc.f0; have h2 := hc.f1; have h3 := hc.t0; have h4 := hc.t1; have h5 := hc.ne
    have hne : fr c ≠ to c := by unfold fr to; omega
    show (leftL Q cs (i + 1) _).getD w 0 = _
    rw [ih (i + 1) _ (by simp [hL]) fun x hx => hE x (.tail _ hx)]
    rw [List.length_cons, sumTo_shift]
    have e : (fun k => match cs[k]? with | some c => Q.getD (i + 1 + k) 0 * (unitV (to c) w - unitV (fr c) w) | none => 0) =
        (fun k => match (c :: cs)[k + 1]? with | some c => Q.getD (i + (k + 1)) 0 * (unitV (to c) w - unitV (fr c) w) | none => 0) := by
      funext k
      rw [show i + (k + 1) = i + 1 + k from by omega]; simp
    rw [e]
    have hset : ((L.set (fr c) (L.getD (fr c) 0 - Q.getD i 0)).set (to c) (L.getD (to c) 0 + Q.getD i 0)).getD w 0 = L.getD w 0 + Q.getD i 0 * (unitV (to c) w - unitV (fr c) w) := by
      rw [getD_set _ (by rw [List.length_set, hL]; unfold to; omega), getD_set _ (by rw [hL]; unfold fr; omega)]
      unfold unitV
      by_cases e1 : w = to c
      · have e2 : ¬ to c = fr c := fun e => hne e.symm
        subst e1; simp [e2]
      · by_cases e2 : w = fr c
        · subst e2; simp [hne]; omega
        · simp [e1, e2]
    rw [hset]
    simp
    omega
def sizeV (q : Int) : Int := max q (-q)
theorem F41_eq {q : Int} (h : ab q ≤ 1000000) : F41_0 q = some (sizeV q) := by
  have := ab_ge q
  unfold F41_0 sizeV; rw [aw_ok (n := 0 - q) (by omega) (by omega), Int.zero_sub]
theorem loss_size {r q : Int} (hr : 0 ≤ r) (hr1 : r ≤ 1000) (hq : ab q ≤ 1000000) : aw .i64 (aw .i64 (r * q) * sizeV q) = lossI r q := by
  have h1 := ab_ge q
  have e : lossV r q = aw .i64 (aw .i64 (r * q) * sizeV q) := by
    unfold lossV sizeV; rw [aw_ok (n := 0 - q) (by omega) (by omega), Int.zero_sub]
  rw [← e, lossV_eq hr hr1 hq]
theorem left_eq {ns : List WaterNode} {cs : List WaterConduit} {cl c : Int} (h : Form ns cs cl) (hc : ab c ≤ 200000) (x y : Int) :
    L6l0_0 cl c ns cs x y (stQ ns cs cl c) (stH ns cs cl c) (0, List.replicate ns.length 0) = some (.inl (leftL (stQ ns cs cl c) cs 0 (List.replicate ns.length 0))) := by
  have C := h.closing
  have st := (st_ok h.ok C.ok hc 0 [] []).1
  have hn := h.ok.net.n1
  have hcn := h.ok.net.c1
  have h1 := iter_list0 (step := S6l0_0 cl c ns cs x y (stQ ns cs cl c) (stH ns cs cl c)) (fun i (a : List Int) => ((i : Int), a)) cs
    (fun i d a => (.inl ((a.set (fr d) (a.getD (fr d) 0 - (stQ ns cs cl c).getD i 0)).set (to d) (a.getD (to d) 0 + (stQ ns cs cl c).getD i 0)) : List Int ⊕ (List Int ⊕ List Int))) (fun a => .inl a)
    (fun i a => a.length = ns.length ∧ ∀ w, ab (a.getD w 0) ≤ 500000 * (i : Int))
    (fun a _ => by simp [S6l0_0]) (fun i d a hx hi ha => by
      obtain ⟨ha1, ha2⟩ := ha
      have hd := h.ok.net.conds d (List.mem_of_getElem? hx)
      have h1 := hd.f0; have h2 := hd.f1; have h3 := hd.t0; have h4 := hd.t1; have h5 := hd.ne
      have hne : to d ≠ fr d := by unfold fr to; omega
      have lq := st.lq
      have lh := st.lh
      have q1 := st.qq i
      have q2 := ab_ge ((stQ ns cs cl c).getD i 0)
      have b1 := ha2 (fr d)
      have b2 := ab_ge (a.getD (fr d) 0)
      have b3 := ha2 (to d)
      have b4 := ab_ge (a.getD (to d) 0)
      have k1 := st.hb (fr d)
      have k2 := ab_ge ((stH ns cs cl c).getD (fr d) 0)
      have k3 := st.hb (to d)
      have k4 := ab_ge ((stH ns cs cl c).getD (to d) 0)
      refine ⟨?_, fun a' h => ?_⟩
      · simp only [S6l0_0, if_neg (show ¬ ((cs.length : Int) ≤ (i : Int)) by omega), geti_at hx]
        rw [geti_n (m := stQ ns cs cl c) (by omega)]
        simp only [F20_eq, Option.bind_some]
        rw [show (decide (-1000000 ≤ (stQ ns cs cl c).getD i 0) && decide ((stQ ns cs cl c).getD i 0 ≤ 1000000)) = true from by simp only [Bool.and_eq_true, decide_eq_true_eq]; omega]
        simp only [if_true]
        rw [aw_ok (n := (i : Int) + 1) (by omega) (by omega)]
        simp only [geti_z (m := a) h1 (by omega), geti_z (m := a) h3 (by omega), geti_z (m := stH ns cs cl c) h1 (by omega), geti_z (m := stH ns cs cl c) h3 (by omega), show d.fFrom.toNat = fr d from rfl, show d.fTo.toNat = to d from rfl]
        have hget : ((a.set (fr d) (aw .i64 (a.getD (fr d) 0 - (stQ ns cs cl c).getD i 0)))[to d]?) = some (a.getD (to d) 0) := by
          rw [List.getElem?_set_ne (fun e => hne e.symm), List.getElem?_eq_getElem (show to d < a.length by unfold to; omega), List.getD_eq_getElem?_getD, List.getElem?_eq_getElem (show to d < a.length by unfold to; omega)]; rfl
        simp only [hget, Option.bind_some]
        rw [aw_ok (n := a.getD (fr d) 0 - (stQ ns cs cl c).getD i 0) (by omega) (by omega), aw_ok (n := a.getD (to d) 0 + (stQ ns cs cl c).getD i 0) (by omega) (by omega)]
        rw [show (decide (-1152921504606846976 ≤ (stH ns cs cl c).getD (fr d) 0) && decide ((stH ns cs cl c).getD (fr d) 0 ≤ 1152921504606846976)) = true from by simp only [Bool.and_eq_true, decide_eq_true_eq]; omega]
        rw [show (decide (-1152921504606846976 ≤ (stH ns cs cl c).getD (to d) 0) && decide ((stH ns cs cl c).getD (to d) 0 ≤ 1152921504606846976)) = true from by simp only [Bool.and_eq_true, decide_eq_true_eq]; omega]
        simp only [if_true, F41_eq (show ab ((stQ ns cs cl c).getD i 0) ≤ 1000000 by omega), Option.bind_some, loss_size hd.r0 hd.r1 (show ab ((stQ ns cs cl c).getD i 0) ≤ 1000000 by omega)]
        rw [aw_ok (n := (stH ns cs cl c).getD (fr d) 0 - (stH ns cs cl c).getD (to d) 0) (by omega) (by omega)]
        by_cases hcl : (i : Int) = cl
        · have hq := st.qc i hcl.symm
          have ho := C.cop i d hcl.symm hx
          simp [-List.getD_eq_getElem?_getD, hcl, hq, ho]
        · by_cases ho : d.fOpen = true
          · rcases C.op i d hx ho with g | g
            · have := drop_q h hc hx g
              simp [-List.getD_eq_getElem?_getD, hcl, ho, this]
            · exact absurd g.symm hcl
          · have hoff : ∀ b ∈ BL cs (grown ns cs).1, b.k ≠ i := by
              intro b hb e
              obtain ⟨y, hy, rfl⟩ := List.mem_map.1 hb
              obtain ⟨e', he'⟩ := h.ok.branches y hy
              have := he'.hc
              rw [e, hx] at this; cases this
              exact ho he'.o
            have hq := st.q0 i hoff (fun e => hcl e.symm)
            simp [-List.getD_eq_getElem?_getD, hcl, ho, hq]
      · cases h
        refine ⟨by simp [ha1], fun w => ?_⟩
        rw [getD_set _ (by rw [List.length_set]; unfold to; omega), getD_set _ (by unfold fr; omega)]
        split
        · exact ab_le (by omega) (by omega)
        · split
          · exact ab_le (by omega) (by omega)
          · have := ha2 w; omega) (by omega) (List.replicate ns.length 0) ⟨by simp, fun w => by rw [getD_rep]; decide⟩
  have key : ∀ (cs' : List WaterConduit) (i : Nat) (a : List Int), loopL (fun i d a => (.inl ((a.set (fr d) (a.getD (fr d) 0 - (stQ ns cs cl c).getD i 0)).set (to d) (a.getD (to d) 0 + (stQ ns cs cl c).getD i 0)) : List Int ⊕ (List Int ⊕ List Int))) (fun a => .inl a) cs' i a = .inl (leftL (stQ ns cs cl c) cs' i a) := by
    intro cs'
    induction cs' with
    | nil => intro i a; rfl
    | cons d cs' ih => intro i a; rw [loopL]; exact ih _ _
  rw [key] at h1
  exact h1
theorem left_draw {ns : List WaterNode} {cs : List WaterConduit} {cl c : Int} (h : Form ns cs cl) (hc : ab c ≤ 200000) (h0 : c = 0 ∨ 0 ≤ cl) (x y : Int) :
    L6l1_0 cl c ns cs x y (stQ ns cs cl c) (stH ns cs cl c) (leftL (stQ ns cs cl c) cs 0 (List.replicate ns.length 0)) 0 = some (.inl ()) := by
  have st := (st_ok h.ok h.closing.ok hc 0 [] []).1
  have hn := h.ok.net.n1
  have lL := leftL_len (stQ ns cs cl c) cs 0 (List.replicate ns.length 0)
  rw [List.length_replicate] at lL
  have h1 := iter_list0 (step := S6l1_0 cl c ns cs x y (stQ ns cs cl c) (stH ns cs cl c) (leftL (stQ ns cs cl c) cs 0 (List.replicate ns.length 0))) (fun i (_ : Unit) => (i : Int)) ns
    (fun _ _ _ => (.inl () : Unit ⊕ (Unit ⊕ Unit))) (fun _ => .inl ()) (fun _ _ => True)
    (fun a _ => by simp [S6l1_0]) (fun i d a hx hi _ => by
      refine ⟨?_, fun _ _ => trivial⟩
      have lh := st.lh
      have hm : mark (lakes ns) i = d.fLake := by
        unfold mark lakes; rw [List.getD_eq_getElem?_getD, List.getElem?_map, hx]; rfl
      have hb := hds_bound h.ok.net i
      have hbe : (hds ns).getD i 0 = 1000 * d.fHead := by unfold hds; rw [map_getD _ hx]
      simp only [S6l1_0, if_neg (show ¬ ((ns.length : Int) ≤ (i : Int)) by omega), geti_at hx]
      rw [geti_n (m := stH ns cs cl c) (by omega), geti_n (m := leftL _ _ _ _) (by omega)]
      rw [aw_ok (n := (i : Int) + 1) (by omega) (by omega), aw_ok (n := 1000 * d.fHead) (by omega) (by omega)]
      cases hl : d.fLake
      · have hk := kept h hc h0 hi (by rw [hm, hl])
        have hle := leftL_eq (n := ns.length) (stQ ns cs cl c) i cs 0 (List.replicate ns.length 0) (by simp) h.ok.net.conds
        have e : (fun k => match cs[k]? with | some c' => (stQ ns cs cl c).getD (0 + k) 0 * (unitV (to c') i - unitV (fr c') i) | none => 0) = arr cs (stQ ns cs cl c) i := by
          funext k; unfold arr; rw [Nat.zero_add]
        rw [e, hk, getD_rep, Int.zero_add] at hle
        have hdr : (drw ns).getD i 0 = d.fDraw := by unfold drw; rw [map_getD _ hx]
        rw [hle, hdr]; simp
      · have hlk := st.hd.lake i (show mark (lakes ns) i = true by rw [hm, hl])
        have hlk' : (stH ns cs cl c).getD i 0 = (hds ns).getD i 0 := hlk
        rw [hlk', hbe]; simp) (by omega) () trivial
  have key : ∀ (l : List WaterNode) (i : Nat), (loopL (fun (_ : Nat) (_ : WaterNode) (_ : Unit) => (.inl () : Unit ⊕ (Unit ⊕ Unit))) (fun _ => .inl ()) l i ()) = .inl () := by
    intro l
    induction l with
    | nil => intro i; rfl
    | cons x l ih => intro i; rw [loopL]; simp only [ih]
  rw [key] at h1
  exact h1
theorem plainWaterKept (c0 c1 : Int) (ns : List WaterNode) (cs : List WaterConduit) : F6_0 c0 c1 ns cs = some true := by
  unfold F6_0
  rcases F15_spec ns cs with h | ⟨h, hf⟩
  · rw [h]; rfl
  · have hn := hf.n
    have hcn := hf.c
    rw [h]
    simp only [Option.bind_some, if_true, F38_few hf, F21_circ, F17_eq ns cs hf]
    by_cases hd : (checkNet ns cs).2 = 0
    · by_cases he : formE ns cs = 0
      · obtain ⟨cl, F⟩ := form_of hd he
        simp only [hd, he, if_true]
        by_cases e0 : circE c0 = 0
        · by_cases e1 : circE c1 = 0
          · by_cases hle : c0 ≤ c1
            · have b0 := circE_ok e0
              have b1 := circE_ok e1
              have b0' := ab_ge c0
              have C := F.closing
              simp only [e0, e1, hle, if_true, F39_form hd hf F]
              rw [inx_nat (show ns.length < 140737488355329 by omega)]
              by_cases hcl : 0 ≤ cl
              · obtain ⟨k, x, hk, hx, hoff⟩ : ∃ (k : Nat) (c : WaterConduit), cl = k ∧ cs[k]? = some c ∧ ∀ b ∈ BL cs (grown ns cs).1, b.k ≠ k := by
                  rcases C.ok with g | g
                  · omega
                  · exact g
                have st := (st_ok F.ok C.ok b0 0 [] []).1
                have lq := st.lq
                have lh := st.lh
                have lk := (List.getElem?_eq_some_iff.1 hx).1
                have hcx := F.ok.net.conds x (List.mem_of_getElem? hx)
                have g1 := hcx.f0; have g2 := hcx.f1; have g3 := hcx.t0; have g4 := hcx.t1
                have k1 := st.hb (fr x)
                have k2 := ab_ge ((stH ns cs cl c0).getD (fr x) 0)
                have k3 := st.hb (to x)
                have k4 := ab_ge ((stH ns cs cl c0).getD (to x) 0)
                have hgm : gapF ns cs x c0 ≤ gapF ns cs x c1 := gap_mono F.ok.tok hcx.r0 hle
                have hgs := gap_st F.ok hx hoff b0
                rw [← hk] at hgs
                have lb := loss_bound hcx.r0 hcx.r1 b0
                have lb' := ab_ge (lossI x.fResist c0)
                simp only [hcl, if_true, bind2_some, F40_form hd hf F b0 (.inr hcl), Option.bind_some, lq, lh, left_eq F b0, left_draw F b0 (.inr hcl), F42_form hd hf F hk hx b0, F42_form hd hf F hk hx b1, F20_eq, hgm]
                rw [room_le (by omega), aw_ok (n := (cs.length : Int) - 1) (by omega) (by omega)]
                have hin : (decide (True) && decide (cl ≤ (cs.length : Int) - 1)) = true := by simp; omega
                rw [show (decide (cl ≤ (cs.length : Int) - 1)) = true from by simp; omega]
                simp only [decide_true, Bool.and_self, if_true]
                rw [hk, geti_at hx, F41_eq (show ab c0 ≤ 1000000 by omega)]
                simp only [Option.bind_some]
                rw [← hk, geti_z (m := stH ns cs cl c0) g1 (by omega), geti_z (m := stH ns cs cl c0) g3 (by omega), loss_size hcx.r0 hcx.r1 (by omega), show x.fFrom.toNat = fr x from rfl, show x.fTo.toNat = to x from rfl]
                rw [aw_ok (n := (stH ns cs cl c0).getD (fr x) 0 - (stH ns cs cl c0).getD (to x) 0) (by omega) (by omega), hgs]
                have : gapF ns cs x c0 = aw .i64 (gapF ns cs x c0) := by rw [← hgs]; exact (aw_ok (by omega) (by omega)).symm
                rw [← this]; simp
              · have hm1 : cl = -1 := by have := C.ge; omega
                have z : ab 0 ≤ 200000 := by decide
                have st := (st_ok F.ok C.ok z 0 [] []).1
                have lq := st.lq
                have lh := st.lh
                have le := left_eq F z
                have ld := left_draw F z (.inl rfl)
                have f40 := F40_form hd hf F z (.inl rfl)
                rw [hm1] at le ld f40 lq lh
                simp only [hcl, if_false, bind2_some, f40, Option.bind_some, lq, lh, le, ld, if_true]
                simp [room_le (show ns.length * 8 ≤ 140737488355328 by omega)]
            · simp [e0, e1, hle]
          · simp [e0, e1]
        · simp [e0]
      · simp [hd, he]
    · simp [hd]
end Go.AI
