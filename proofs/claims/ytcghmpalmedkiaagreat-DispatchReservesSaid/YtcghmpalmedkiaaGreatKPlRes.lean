import Derived.Test.YtcghmpalmedkiaaGreatKAiP
import Derived.Test.YtcghmpalmedkiaaGreatKWnF
section
/-
  WHICH PLANTS AND TASKS ARE VALID: the program's answer is the reference's.
-/
set_option linter.unusedVariables false
set_option linter.unusedSimpArgs false
set_option maxRecDepth 100000
namespace Go.AI
theorem F75_eq (a b c : Int) : F75_0 a b c = some (decide (b ≤ a) && decide (a ≤ c)) := by
  unfold F75_0; by_cases h : b ≤ a <;> simp [h]
theorem F27_eq (a b c : Int) : F27_0 a b c = some (decide (b ≤ a) && decide (a ≤ c)) := by
  unfold F27_0; by_cases h : b ≤ a <;> simp [h]
theorem F77_eq (a : Int) : F77_0 a = some (decide (0 ≤ a) && decide (a ≤ 1000000)) := by
  unfold F77_0; rw [F75_eq]; rfl
theorem F80_eq (a b : Int) (h : 0 ≤ b ∧ b ≤ 1000000) : F80_0 a b = some (decide (-b ≤ a) && decide (a ≤ b)) := by
  unfold F80_0; rw [aw_ok (by omega) (by omega), F75_eq, Int.zero_sub]; rfl
theorem F70_eq (b : Bool) (k : Int) : F70_0 b k = some (if b = true then 0 else k) := by
  unfold F70_0; cases b <;> rfl
/-! first -/
def firstNZ : List Int → Int
  | [] => 0
  | x :: xs => if x = 0 then firstNZ xs else x
theorem F69_eq (l : List Int) (hl : l.length < 1000000) : F69_0 l = some (firstNZ l) := by
  have h := iter_list0 (step := S69l0_0 (l.length : Int) l) (fun i (_ : Unit) => (i : Int)) l (fun _ x _ => if x = 0 then .inl () else .inr (.inr x)) (fun _ => .inl ()) (fun _ _ => True)
    (fun a _ => by simp [S69l0_0]) (fun i x a hx hi _ => by
      refine ⟨?_, fun _ _ => trivial⟩
      have hle : ¬ ((l.length : Int) ≤ (i : Int)) := by omega
      simp only [S69l0_0, if_neg hle, geti_at hx]
      rw [aw_ok (by omega) (by omega)]
      by_cases h : x = 0 <;> simp [h]) hl () trivial
  have key : ∀ (l : List Int) (i : Nat), (loopL (fun (_ : Nat) (x : Int) (_ : Unit) => if x = 0 then (.inl () : Unit ⊕ (Unit ⊕ Int)) else .inr (.inr x)) (fun _ => .inl ()) l i ()) = (if firstNZ l = 0 then .inl () else .inr (firstNZ l)) := by
    intro l
    induction l with
    | nil => intro i; rfl
    | cons x l ih =>
      intro i
      unfold loopL
      by_cases hx : x = 0
      · simp [hx, ih, firstNZ]
      · simp [hx, firstNZ]
  rw [key] at h
  unfold F69_0 L69l0_0
  rw [show ((0 : Int)) = ((0 : Nat) : Int) from rfl, h]
  by_cases h0 : firstNZ l = 0 <;> simp [h0]
/-! names -/
def charOk (i : Nat) (c : Int) : Bool := (decide (97 ≤ c) && decide (c ≤ 122)) || (decide (65 ≤ c) && decide (c ≤ 90)) || (!decide (i = 0) && (decide (c = 45) || (decide (48 ≤ c) && decide (c ≤ 57))))
def charsOk : List UInt8 → Nat → Bool
  | [], _ => true
  | b :: l, i => charOk i (b.toNat : Int) && charsOk l (i + 1)
def bodyN (i : Nat) (b : UInt8) (_ : Unit) : Unit ⊕ (Unit ⊕ Unit) := if charOk i (b.toNat : Int) then .inl () else .inr (.inr ())
theorem loopN_eq : ∀ (l : List UInt8) (i : Nat), loopL bodyN (fun _ => .inl ()) l i () = (if charsOk l i then .inl () else .inr ()) := by
  intro l
  induction l with
  | nil => intro i; rfl
  | cons b l ih =>
    intro i
    rw [loopL]
    have hb : bodyN i b () = if charOk i (b.toNat : Int) then .inl () else .inr (.inr ()) := rfl
    rw [hb]
    cases h : charOk i (b.toNat : Int)
    · simp [charsOk, h]
    · simp [charsOk, h, ih]
def nameOk (s : ByteArray) : Bool := charsOk s.data.toList 0 && (decide (1 ≤ s.size) && decide (s.size ≤ 12))
theorem letter : ∀ n : Nat, n < 256 → (decide (97 ≤ aw .i64 (ior .u8 (n : Int) 32)) && decide (aw .i64 (ior .u8 (n : Int) 32) ≤ 122)) = ((decide (97 ≤ (n : Int)) && decide ((n : Int) ≤ 122)) || (decide (65 ≤ (n : Int)) && decide ((n : Int) ≤ 90))) := by decide +kernel
theorem F81_eq (s : ByteArray) (hs : s.size < 1000000) : F81_0 s = some (nameOk s) := by
  have hl : s.data.toList.length = s.size := by simp
  have h := iter_list0 (step := S81l0_0 s (s.size : Int) s.data.toList) (fun i (_ : Unit) => (i : Int)) s.data.toList bodyN (fun _ => .inl ()) (fun _ _ => True)
    (fun a _ => by simp [S81l0_0]) (fun i b a hx hi _ => by
      refine ⟨?_, fun _ _ => trivial⟩
      have hle : ¬ ((s.size : Int) ≤ (i : Int)) := by omega
      have hb : b.toNat < 256 := b.toNat_lt
      simp only [S81l0_0, if_neg hle, geti_at hx, F75_eq, Option.bind_some]
      rw [letter _ hb, aw_ok (n := (b.toNat : Int)) (by omega) (by omega), aw_ok (n := (i : Int) + 1) (by omega) (by omega)]
      unfold bodyN charOk
      generalize (b.toNat : Int) = c
      by_cases h1 : (decide (97 ≤ c) && decide (c ≤ 122)) = true
      · simp [h1]
      · by_cases h2 : (decide (65 ≤ c) && decide (c ≤ 90)) = true
        · simp [h1, h2]
        · by_cases h3 : i = 0
          · subst h3; simp [h1, h2]
          · have h3' : ¬ (i : Int) = 0 := by omega
            by_cases h4 : c = 45
            · simp [h1, h2, h3, h3', h4]
            · by_cases h5 : (decide (48 ≤ c) && decide (c ≤ 57)) = true
              · simp [h1, h2, h3, h3', h4, h5]
              · simp [h1, h2, h3, h3', h4, h5]) (by omega) () trivial
  rw [loopN_eq] at h
  unfold F81_0 L81l0_0
  unfold roomS
  rw [if_pos (by omega)]
  rw [show ((0 : Int)) = ((0 : Nat) : Int) from rfl, h]
  cases hc : charsOk s.data.toList 0
  · simp [nameOk, hc]
  · simp only [nameOk, hc, F75_eq, Option.bind_some, Bool.true_and, if_true]
    by_cases h1 : 1 ≤ s.size <;> by_cases h2 : s.size ≤ 12 <;> simp [h1, h2] <;> omega
theorem F114_eq (s : ByteArray) (hs : s.size < 1000000) : F114_0 s = some (nameOk s) := by
  have hl : s.data.toList.length = s.size := by simp
  have h := iter_list0 (step := S114l0_0 s) (fun i (_ : Unit) => (i : Int)) s.data.toList bodyN (fun _ => .inl ()) (fun _ _ => True)
    (fun a _ => by simp [S114l0_0]) (fun i b a hx hi _ => by
      refine ⟨?_, fun _ _ => trivial⟩
      have hle : ¬ ((s.size : Int) ≤ (i : Int)) := by omega
      simp only [S114l0_0, if_neg hle, geti_at hx]
      rw [aw_ok (n := (i : Int) + 1) (by omega) (by omega)]
      unfold bodyN charOk
      generalize (b.toNat : Int) = c
      by_cases h3 : i = 0
      · subst h3
        by_cases a1 : 97 ≤ c <;> by_cases a2 : c ≤ 122 <;> by_cases a3 : 65 ≤ c <;> by_cases a4 : c ≤ 90 <;> simp [a1, a2, a3, a4]
      · have h3' : ¬ (i : Int) = 0 := by omega
        by_cases a1 : 97 ≤ c <;> by_cases a2 : c ≤ 122 <;> by_cases a3 : 65 ≤ c <;> by_cases a4 : c ≤ 90 <;> by_cases a5 : c = 45 <;> by_cases a6 : 48 ≤ c <;> by_cases a7 : c ≤ 57 <;> simp [h3, h3', a1, a2, a3, a4, a5, a6, a7]) (by omega) () trivial
  rw [loopN_eq] at h
  unfold F114_0 L114l0_0
  by_cases h1 : 1 ≤ s.size
  · by_cases h2 : s.size ≤ 12
    · rw [if_pos (by omega), if_pos (by omega), show ((0 : Int)) = ((0 : Nat) : Int) from rfl, h]
      cases hc : charsOk s.data.toList 0 <;> simp [nameOk, hc, h1, h2]
    · rw [if_pos (by omega), if_neg (by omega)]; simp [nameOk, h2]
  · rw [if_neg (by omega)]; simp [nameOk, h1]
def hasB (s : ByteArray) (l : List ByteArray) : Bool := l.any fun x => decide (x = s)
theorem F115_eq (s : ByteArray) (l : List ByteArray) (hl : l.length < 1000000) : F115_0 s l = some (hasB s l) := by
  have h := iter_list0 (step := S115l0_0 s l) (fun i (_ : Unit) => (i : Int)) l (fun _ x _ => if x = s then .inr (.inr ()) else .inl ()) (fun _ => .inl ()) (fun _ _ => True)
    (fun a _ => by simp [S115l0_0]) (fun i x a hx hi _ => by
      refine ⟨?_, fun _ _ => trivial⟩
      have hle : ¬ ((l.length : Int) ≤ (i : Int)) := by omega
      simp only [S115l0_0, if_neg hle, geti_at hx]
      rw [aw_ok (by omega) (by omega)]
      by_cases h : x = s <;> simp [h]) hl () trivial
  have key : ∀ (l : List ByteArray) (i : Nat), (loopL (fun (_ : Nat) (x : ByteArray) (_ : Unit) => if x = s then (.inr (.inr ()) : Unit ⊕ (Unit ⊕ Unit)) else .inl ()) (fun _ => .inl ()) l i ()) = (if hasB s l = true then .inr () else .inl ()) := by
    intro l
    induction l with
    | nil => intro i; rfl
    | cons x l ih =>
      intro i
      unfold loopL
      by_cases hx : x = s
      · simp [hx, hasB]
      · have : hasB s (x :: l) = hasB s l := by simp [hasB, hx]
        rw [this, ← ih (i + 1)]; simp [hx]
  rw [key] at h
  unfold F115_0 L115l0_0
  rw [show ((0 : Int)) = ((0 : Nat) : Int) from rfl, h]
  cases h0 : hasB s l <;> simp [h0]
theorem F78_eq (x : DispatchMode) (ms : List DispatchMode) (j : Nat) (hj : j ≤ ms.length) (hl : ms.length < 100000) :
    F78_0 j ms.length ms x.fName x.fChange x.fEnergy x.fStart = some (hasB x.fName ((ms.take j).map (·.fName))) := by
  have hlen : (ms.take j).length = j := by simp; omega
  have h := iter_list0 (step := S126l0_0 j ms.length (j : Int) ms x.fName x.fChange x.fEnergy x.fStart) (fun i (_ : Unit) => (i : Int)) (ms.take j) (fun i y _ => if y.fName = x.fName then .inr (.inr (i : Int)) else .inl ()) (fun _ => .inl ()) (fun _ _ => True)
    (fun a _ => by rw [hlen]; simp [S126l0_0]) (fun i y a hy hi _ => by
      refine ⟨?_, fun _ _ => trivial⟩
      rw [hlen] at hi
      have hy' : ms[i]? = some y := by rw [List.getElem?_take] at hy; rw [if_pos hi] at hy; exact hy
      simp only [S126l0_0, if_neg (show ¬ (j : Int) ≤ (i : Int) by omega), inx_nat hi, Option.bind_some, hy', F79_0]
      rw [aw_ok (by omega) (by omega)]
      by_cases h : y.fName = x.fName <;> simp [h]) (by omega) () trivial
  have key : ∀ (l : List DispatchMode) (i : Nat), (hasB x.fName (l.map (·.fName)) = true ∧ ∃ k : Nat, (loopL (fun (i : Nat) (y : DispatchMode) (_ : Unit) => if y.fName = x.fName then (.inr (.inr (i : Int)) : Unit ⊕ (Unit ⊕ Int)) else .inl ()) (fun _ => .inl ()) l i ()) = .inr (k : Int)) ∨
      (hasB x.fName (l.map (·.fName)) = false ∧ (loopL (fun (i : Nat) (y : DispatchMode) (_ : Unit) => if y.fName = x.fName then (.inr (.inr (i : Int)) : Unit ⊕ (Unit ⊕ Int)) else .inl ()) (fun _ => .inl ()) l i ()) = .inl ()) := by
    intro l
    induction l with
    | nil => intro i; exact .inr ⟨rfl, rfl⟩
    | cons y l ih =>
      intro i
      unfold loopL
      by_cases hx : y.fName = x.fName
      · left; exact ⟨by simp [hasB, hx], i, by simp [hx]⟩
      · have : hasB x.fName ((y :: l).map (·.fName)) = hasB x.fName (l.map (·.fName)) := by simp [hasB, hx]
        rw [this]; simpa [hx] using ih (i + 1)
  unfold F78_0 F126_0 L126l0_0
  rw [show ((0 : Int)) = ((0 : Nat) : Int) from rfl, h]
  rcases key (ms.take j) 0 with ⟨h1, k, h2⟩ | ⟨h1, h2⟩
  · rw [h2, h1]; simp
  · rw [h2, h1]; rfl
/-! ### plants -/
def modeR (x : DispatchMode) : Bool := decide (-10000 ≤ x.fChange ∧ x.fChange ≤ 10000 ∧ -10000 ≤ x.fEnergy ∧ x.fEnergy ≤ 10000 ∧ 0 ≤ x.fStart ∧ x.fStart ≤ 10000)
def modeE (x : DispatchMode) (l : List ByteArray) : Int := if nameOk x.fName = true then if hasB x.fName l = true then 5 else if modeR x = true then 0 else 2 else 4
theorem F85_eq (x : DispatchMode) (l : List ByteArray) (hl : l.length < 1000000) (hs : x.fName.size < 1000000) : F85_0 x.fName x.fChange x.fEnergy x.fStart l = some (modeE x l) := by
  unfold F85_0 modeE modeR
  simp only [F114_eq _ hs, F115_eq _ _ hl, F27_eq, Option.bind_some]
  cases nameOk x.fName
  · simp
  · by_cases h1 : hasB x.fName l = true
    · simp [h1]
    · by_cases a : -10000 ≤ x.fChange <;> by_cases b : x.fChange ≤ 10000 <;> by_cases c : -10000 ≤ x.fEnergy <;> by_cases d : x.fEnergy ≤ 10000 <;> by_cases e : 0 ≤ x.fStart <;> by_cases f : x.fStart ≤ 10000 <;> simp [h1, a, b, c, d, e, f]
def bodyM (i : Nat) (x : DispatchMode) (l : List ByteArray) : List ByteArray ⊕ (Unit ⊕ (Int × Int)) := if modeE x l = 0 then .inl (l ++ [x.fName]) else .inr (.inr ((i : Int), modeE x l))
def checkM (ms : List DispatchMode) : Unit ⊕ (Int × Int) := loopL bodyM (fun _ => .inl ()) ms 0 []
def MInv (ms : List DispatchMode) (i : Nat) (l : List ByteArray) : Prop := l = (ms.take i).map (·.fName)
theorem MInv.next {ms : List DispatchMode} {i : Nat} {l : List ByteArray} {x : DispatchMode} (h : MInv ms i l) (hx : ms[i]? = some x) : MInv ms (i + 1) (l ++ [x.fName]) := by
  unfold MInv at *
  rw [h, List.take_add_one, hx]; simp
theorem bodyM_inv {ms : List DispatchMode} {i : Nat} {l : List ByteArray} {x : DispatchMode} (h : MInv ms i l) (hx : ms[i]? = some x) : ∀ l', bodyM i x l = .inl l' → MInv ms (i + 1) l' := by
  intro l' h'
  unfold bodyM at h'
  split at h'
  · cases h'; exact h.next hx
  · cases h'
def ShortN (ms : List DispatchMode) : Prop := ∀ x ∈ ms, x.fName.size ≤ 20
theorem L34l0_eq (ms : List DispatchMode) (lo hi : Int) (hl : ms.length < 100000) (hs : ShortN ms) : L34l0_0 ms lo hi (0, []) = some (checkM ms) := by
  exact iter_list0 (step := S34l0_0 ms lo hi) (fun i (l : List ByteArray) => ((i : Int), l)) ms bodyM (fun _ => .inl ()) (MInv ms)
    (fun a _ => by simp [S34l0_0]) (fun i x l hx hi' hI => by
      refine ⟨?_, bodyM_inv hI hx⟩
      have hlen : l.length = i := by rw [hI]; simp; omega
      have hsz := hs x (List.mem_of_getElem? hx)
      simp only [S34l0_0, if_neg (show ¬ (ms.length : Int) ≤ (i : Int) by omega), geti_at hx, F85_eq x l (by omega) (by omega), Option.bind_some]
      unfold bodyM
      rw [aw_ok (by omega) (by omega)]
      by_cases h : modeE x l = 0
      · rw [if_pos h, if_pos h, room_le (by omega)]; rfl
      · rw [if_neg h, if_neg h]) (by omega) [] rfl
theorem first3 (a b c : Int) : F69_0 [a, b, c] = some (if a = 0 then if b = 0 then c else b else a) := by
  rw [F69_eq _ (by simp)]; simp only [firstNZ]; by_cases h : c = 0 <;> simp [h]
theorem first2 (a b : Int) : F69_0 [a, b] = some (if a = 0 then b else a) := by
  rw [F69_eq _ (by simp)]; simp only [firstNZ]; by_cases h : b = 0 <;> simp [h]
theorem L30l0_eq (ms : List DispatchMode) (lo hi : Int) (hl : ms.length < 100000) (hs : ShortN ms) : L30l0_0 (ms.length : Int) ms lo hi 0 = some (checkM ms) := by
  exact iter_list0 (step := S30l0_0 (ms.length : Int) ms lo hi) (fun i (l : List ByteArray) => (i : Int)) ms bodyM (fun _ => .inl ()) (MInv ms)
    (fun a _ => by simp [S30l0_0]) (fun i x l hx hi' hI => by
      refine ⟨?_, bodyM_inv hI hx⟩
      have hsz := hs x (List.mem_of_getElem? hx)
      simp only [S30l0_0, if_neg (show ¬ (ms.length : Int) ≤ (i : Int) by omega), geti_at hx, inx_nat (show i < ms.length + 1 by omega), F78_eq x ms i (by omega) hl, F80_eq x.fChange 10000 (by omega), F80_eq x.fEnergy 10000 (by omega), F75_eq, F81_eq x.fName (by omega), F70_eq, first3, Option.bind_some]
      rw [← hI, aw_ok (by omega) (by omega)]
      unfold bodyM modeE modeR
      by_cases h1 : nameOk x.fName = true
      · by_cases h2 : hasB x.fName l = true
        · by_cases a : -10000 ≤ x.fChange <;> by_cases b : x.fChange ≤ 10000 <;> by_cases c : -10000 ≤ x.fEnergy <;> by_cases d : x.fEnergy ≤ 10000 <;> simp [h1, h2, a, b, c, d]
        · by_cases a : -10000 ≤ x.fChange <;> by_cases b : x.fChange ≤ 10000 <;> by_cases c : -10000 ≤ x.fEnergy <;> by_cases d : x.fEnergy ≤ 10000 <;> by_cases e : 0 ≤ x.fStart <;> by_cases f : x.fStart ≤ 10000 <;> simp [h1, h2, a, b, c, d, e, f]
      · by_cases a : -10000 ≤ x.fChange <;> by_cases b : x.fChange ≤ 10000 <;> by_cases c : -10000 ≤ x.fEnergy <;> by_cases d : x.fEnergy ≤ 10000 <;> simp [h1, a, b, c, d]) (by omega) [] rfl
def outM (r : Unit ⊕ (Int × Int)) : Int × Int := match r with
  | .inl () => (0, 0)
  | .inr p => p
def checkP (lo hi : Int) (ms : List DispatchMode) : Int × Int :=
  if (0 ≤ lo ∧ lo ≤ 1000000) ∧ 0 ≤ hi ∧ hi ≤ 1000000 then if lo ≤ hi then if 40 ≤ hi - lo then (0, 8) else if ms.length = 0 then (0, 10) else if ms.length ≤ 5 then outM (checkM ms) else (0, 8) else (0, 9) else (0, 2)
theorem F34_eq (lo hi : Int) (ms : List DispatchMode) (hl : ms.length < 100000) (hs : ShortN ms) : F34_0 lo hi ms = some (checkP lo hi ms) := by
  unfold F34_0 checkP
  simp only [F27_eq, Option.bind_some]
  by_cases a : 0 ≤ lo ∧ lo ≤ 1000000
  · rw [if_pos (by simpa using a)]
    by_cases b : 0 ≤ hi ∧ hi ≤ 1000000
    · rw [if_pos (by simpa using b), if_pos (show (0 ≤ lo ∧ lo ≤ 1000000) ∧ 0 ≤ hi ∧ hi ≤ 1000000 from ⟨a, b⟩), aw_ok (by omega) (by omega)]
      by_cases c : lo ≤ hi
      · rw [if_pos c, if_pos c]
        by_cases d : 40 ≤ hi - lo
        · rw [if_pos d, if_pos d]
        · rw [if_neg d, if_neg d]
          by_cases e : ms.length = 0
          · rw [if_pos (by omega), if_pos e]
          · rw [if_neg (by omega), if_neg e]
            by_cases f : ms.length ≤ 5
            · rw [if_pos (by omega), if_pos f, L34l0_eq ms lo hi hl hs, Option.bind_some]
              unfold outM
              rcases checkM ms with ⟨⟩ | ⟨p, q⟩ <;> rfl
            · rw [if_neg (by omega), if_neg f]
      · rw [if_neg c, if_neg c]
    · rw [if_neg (by simpa using b), if_neg (show ¬ ((0 ≤ lo ∧ lo ≤ 1000000) ∧ 0 ≤ hi ∧ hi ≤ 1000000) from fun h => b h.2)]
  · rw [if_neg (by simpa using a), if_neg (show ¬ ((0 ≤ lo ∧ lo ≤ 1000000) ∧ 0 ≤ hi ∧ hi ≤ 1000000) from fun h => a h.1)]
theorem F30_eq (lo hi : Int) (ms : List DispatchMode) (hl : ms.length < 100000) (hs : ShortN ms) : F30_0 lo hi ms = some (checkP lo hi ms) := by
  unfold F30_0 checkP
  have f5 : ∀ a b c d e : Int, F69_0 [a, b, c, d, e] = some (firstNZ [a, b, c, d, e]) := fun a b c d e => F69_eq _ (by simp)
  simp only [F77_eq, F70_eq, f5, Option.bind_some]
  by_cases a : 0 ≤ lo ∧ lo ≤ 1000000
  · have a' : (decide (0 ≤ lo) && decide (lo ≤ 1000000)) = true := by simpa using a
    rw [if_pos a']
    by_cases b : 0 ≤ hi ∧ hi ≤ 1000000
    · have b' : (decide (0 ≤ hi) && decide (hi ≤ 1000000)) = true := by simpa using b
      rw [if_pos b', if_pos (show (0 ≤ lo ∧ lo ≤ 1000000) ∧ 0 ≤ hi ∧ hi ≤ 1000000 from ⟨a, b⟩), aw_ok (by omega) (by omega)]
      by_cases c : lo ≤ hi
      · by_cases d : 40 ≤ hi - lo
        · simp [c, d, firstNZ]
        · by_cases e : ms.length = 0
          · have : ms = [] := List.eq_nil_of_length_eq_zero e
            subst this
            simp [c, d, firstNZ]
          · have e' : ¬ (ms.length : Int) ≤ 0 := by omega
            by_cases f : ms.length ≤ 5
            · have f' : (ms.length : Int) ≤ 5 := by omega
              have z : (if decide (lo ≤ hi) = true then (0 : Int) else 9) = 0 := by simp [c]
              rw [if_pos c, if_neg d, if_neg e, if_pos f]
              simp only [c, d, e', f', firstNZ, decide_true, decide_false, Bool.not_false, Bool.not_true, if_true, ↓reduceIte]
              rw [L30l0_eq ms lo hi hl hs, Option.bind_some]
              unfold outM
              rcases checkM ms with ⟨⟩ | ⟨p, q⟩ <;> rfl
            · have f' : ¬ (ms.length : Int) ≤ 5 := by omega
              have e'' : ¬ ms = [] := fun h => e (by rw [h]; rfl)
              simp [c, d, e, e', f, f', e'', firstNZ]
      · simp [c, firstNZ]
    · have b' : ¬ (decide (0 ≤ hi) && decide (hi ≤ 1000000)) = true := by simpa using b
      rw [if_neg b', if_neg (show ¬ ((0 ≤ lo ∧ lo ≤ 1000000) ∧ 0 ≤ hi ∧ hi ≤ 1000000) from fun h => b h.2)]
      simp [firstNZ]
  · have a' : ¬ (decide (0 ≤ lo) && decide (lo ≤ 1000000)) = true := by simpa using a
    rw [if_neg a', if_neg (show ¬ ((0 ≤ lo ∧ lo ≤ 1000000) ∧ 0 ≤ hi ∧ hi ≤ 1000000) from fun h => a h.1)]
    simp [firstNZ]
end Go.AI
end
section
/-
  TASKS AND PLANS: errors, volumes, value, starts; THE PLAIN LAW OF DispatchTasks.
-/
set_option linter.unusedVariables false
set_option linter.unusedSimpArgs false
set_option linter.unusedSectionVars false
set_option maxRecDepth 100000
namespace Go.AI
def folds {τ A O : Type} (f : A → τ → A) (i : Nat) (x : τ) (a : A) : A ⊕ O := .inl (f a x)
theorem loopL_fold {τ A O : Type} (f : A → τ → A) (fin : A → O) : ∀ (l : List τ) (i : Nat) (a : A), loopL (folds f) fin l i a = fin (l.foldl f a) := by
  intro l
  induction l with
  | nil => intro i a; rfl
  | cons x l ih => intro i a; simp only [loopL, folds, List.foldl]; exact ih _ _
theorem zip_at {α β : Type} {w : List α} {m : List β} {i : Nat} {p : α × β} (h : (w.zip m)[i]? = some p) : w[i]? = some p.1 ∧ m[i]? = some p.2 := by
  simpa using List.getElem?_zip_eq_some.1 h
/-! ### tasks -/
def priceOk (x : Int) : Bool := decide (-10000 ≤ x) && decide (x ≤ 10000)
theorem priceOk_iff {x : Int} : priceOk x = true ↔ -10000 ≤ x ∧ x ≤ 10000 := by simp [priceOk]
theorem F82_eq (x : Int) : F82_0 x = some (priceOk x) := by unfold F82_0; rw [F80_eq x 10000 (by omega)]; rfl
theorem F86_eq (x : Int) : F86_0 x = some (priceOk x) := by unfold F86_0; rw [F27_eq]; rfl
def hourE (h : DispatchHour) : Int := if priceOk h.fBuy = true ∧ priceOk h.fSell = true ∧ priceOk h.fInflow = true then if h.fSell ≤ h.fBuy then 0 else 9 else 2
def bodyH (i : Nat) (x : DispatchHour) (_ : Unit) : Unit ⊕ (Unit ⊕ (Int × Int)) := if hourE x = 0 then .inl () else .inr (.inr ((i : Int), hourE x))
def checkH (hs : List DispatchHour) : Unit ⊕ (Int × Int) := loopL bodyH (fun _ => .inl ()) hs 0 ()
theorem L31l0_eq (ms : List DispatchMode) (hs : List DispatchHour) (hl : hs.length < 100000) : L31l0_0 (hs.length : Int) ms hs 0 = some (checkH hs) := by
  exact iter_list0 (step := S31l0_0 (hs.length : Int) ms hs) (fun i (_ : Unit) => (i : Int)) hs bodyH (fun _ => .inl ()) (fun _ _ => True)
    (fun a _ => by simp [S31l0_0]) (fun i x l hx hi _ => by
      refine ⟨?_, fun _ _ => trivial⟩
      simp only [S31l0_0, if_neg (show ¬ (hs.length : Int) ≤ (i : Int) by omega), geti_at hx, F82_eq, F70_eq, first2, Option.bind_some]
      rw [aw_ok (by omega) (by omega)]
      unfold bodyH hourE
      cases priceOk x.fBuy <;> cases priceOk x.fSell <;> cases priceOk x.fInflow <;> by_cases c : x.fSell ≤ x.fBuy <;> simp [c]) (by omega) () trivial
theorem L35l0_eq (ms : List DispatchMode) (hs : List DispatchHour) (a b c : Int) (hl : hs.length < 100000) : L35l0_0 ms hs a b c 0 = some (checkH hs) := by
  exact iter_list0 (step := S35l0_0 ms hs a b c) (fun i (_ : Unit) => (i : Int)) hs bodyH (fun _ => .inl ()) (fun _ _ => True)
    (fun a _ => by simp [S35l0_0]) (fun i x l hx hi _ => by
      refine ⟨?_, fun _ _ => trivial⟩
      simp only [S35l0_0, if_neg (show ¬ (hs.length : Int) ≤ (i : Int) by omega), geti_at hx, F86_eq, Option.bind_some]
      rw [aw_ok (by omega) (by omega)]
      unfold bodyH hourE
      cases priceOk x.fBuy <;> cases priceOk x.fSell <;> cases priceOk x.fInflow <;> by_cases c : x.fSell ≤ x.fBuy <;> simp [c]) (by omega) () trivial
def checkT (lo hi vol mo wo : Int) (ms : List DispatchMode) (hs : List DispatchHour) : Int × Int :=
  if (checkP lo hi ms).2 = 0 then if lo ≤ vol ∧ vol ≤ hi then if 0 ≤ mo ∧ mo ≤ (ms.length : Int) - 1 then if priceOk wo = true then
    if hs.length = 0 then (0, 10) else if hs.length ≤ 10 then outM (checkH hs) else (0, 8) else (0, 2) else (0, 6) else (0, 2) else (0, (checkP lo hi ms).2)
section
variable (lo hi vol mo wo : Int) (ms : List DispatchMode) (hs : List DispatchHour)
theorem F35_eq (hl : ms.length < 100000) (hh : hs.length < 100000) (hn : ShortN ms) : F35_0 lo hi vol mo wo ms hs = some (checkT lo hi vol mo wo ms hs) := by
  unfold F35_0 checkT F50_0
  rw [F34_eq lo hi ms hl hn]
  simp only [bind2, Option.bind_some, F27_eq, F86_eq]
  rw [aw_ok (by omega) (by omega)]
  by_cases a : (checkP lo hi ms).2 = 0
  · rw [if_pos a, if_pos a]
    by_cases b : lo ≤ vol ∧ vol ≤ hi
    · rw [if_pos (by simpa using b), if_pos b]
      by_cases c : 0 ≤ mo ∧ mo ≤ (ms.length : Int) - 1
      · rw [if_pos (by simpa using c), if_pos c]
        by_cases d : priceOk wo = true
        · rw [if_pos d, if_pos d]
          by_cases e : hs.length = 0
          · rw [if_pos (by omega), if_pos e]
          · rw [if_neg (by omega), if_neg e]
            by_cases f : hs.length ≤ 10
            · rw [if_pos (by omega), if_pos f, L35l0_eq ms hs vol mo wo hh, Option.bind_some]
              unfold outM
              rcases checkH hs with ⟨⟩ | ⟨p, q⟩ <;> rfl
            · rw [if_neg (by omega), if_neg f]
        · rw [if_neg d, if_neg d]
      · rw [if_neg (by simpa using c), if_neg c]
    · rw [if_neg (by simpa using b), if_neg b]
  · rw [if_neg a, if_neg a]
theorem F31_eq (hl : ms.length < 100000) (hh : hs.length < 100000) (hn : ShortN ms) : F31_0 lo hi vol mo wo ms hs = some (checkT lo hi vol mo wo ms hs) := by
  unfold F31_0 checkT
  have f6 : ∀ a b c d e f : Int, F69_0 [a, b, c, d, e, f] = some (firstNZ [a, b, c, d, e, f]) := fun a b c d e f => F69_eq _ (by simp)
  rw [F30_eq lo hi ms hl hn]
  simp only [bind2, Option.bind_some, F75_eq, F82_eq, F70_eq, f6]
  rw [aw_ok (by omega) (by omega)]
  by_cases a : (checkP lo hi ms).2 = 0
  · rw [if_pos a]
    by_cases b : lo ≤ vol ∧ vol ≤ hi
    · rw [if_pos b]
      by_cases c : 0 ≤ mo ∧ mo ≤ (ms.length : Int) - 1
      · rw [if_pos c]
        by_cases d : priceOk wo = true
        · rw [if_pos d]
          by_cases e : hs.length = 0
          · have : hs = [] := List.eq_nil_of_length_eq_zero e
            subst this
            simp [a, b.1, b.2, c.1, c.2, d, firstNZ]
          · rw [if_neg e]
            have e' : ¬ (hs.length : Int) ≤ 0 := by omega
            by_cases f : hs.length ≤ 10
            · rw [if_pos f]
              have f' : (hs.length : Int) ≤ 10 := by omega
              simp only [a, b.1, b.2, c.1, c.2, d, e', f', firstNZ, decide_true, decide_false, Bool.not_false, Bool.and_self, if_true, ↓reduceIte]
              rw [L31l0_eq ms hs hh, Option.bind_some]
              unfold outM
              rcases checkH hs with ⟨⟩ | ⟨p, q⟩ <;> rfl
            · have f' : ¬ (hs.length : Int) ≤ 10 := by omega
              have e'' : ¬ hs = [] := fun h => e (by rw [h]; rfl)
              simp [a, b.1, b.2, c.1, c.2, d, e', f, f', e'', firstNZ]
        · simp [a, b.1, b.2, c.1, c.2, d, firstNZ]
      · have c' : ¬ (decide (0 ≤ mo) && decide (mo ≤ (ms.length : Int) - 1)) = true := by simpa using c
        rw [if_neg c', if_neg c]
        simp [a, b.1, b.2, firstNZ]
    · have b' : ¬ (decide (lo ≤ vol) && decide (vol ≤ hi)) = true := by simpa using b
      rw [if_neg b', if_neg b]
      simp [a, firstNZ]
  · rw [if_neg a]
    simp [a, firstNZ]
end
/-! ### what a valid task is -/
theorem checkM_err : ∀ (ms : List DispatchMode) (i : Nat) (l : List ByteArray), (loopL bodyM (fun _ => .inl ()) ms i l = .inl () ∧ ∀ x ∈ ms, modeR x = true) ∨ ∃ p, loopL bodyM (fun _ => .inl ()) ms i l = .inr p ∧ p.2 ≠ 0 := by
  intro ms
  induction ms with
  | nil => intro i l; exact .inl ⟨rfl, by simp⟩
  | cons x ms ih =>
    intro i l
    by_cases h : modeE x l = 0
    · have hb : bodyM i x l = .inl (l ++ [x.fName]) := if_pos h
      rw [loopL, hb]
      rcases ih (i + 1) (l ++ [x.fName]) with ⟨h1, h2⟩ | ⟨p, h1, h2⟩
      · refine .inl ⟨h1, fun y hy => ?_⟩
        rcases List.mem_cons.1 hy with rfl | hy
        · unfold modeE at h
          by_cases a : nameOk y.fName = true
          · by_cases b : hasB y.fName l = true
            · simp [a, b] at h
            · by_cases c : modeR y = true
              · exact c
              · simp [a, b, c] at h
          · simp [a] at h
        · exact h2 y hy
      · exact .inr ⟨p, h1, h2⟩
    · have hb : bodyM i x l = .inr (.inr ((i : Int), modeE x l)) := if_neg h
      rw [loopL, hb]
      exact .inr ⟨_, rfl, h⟩
theorem checkH_err : ∀ (hs : List DispatchHour) (i : Nat), (loopL bodyH (fun _ => .inl ()) hs i () = .inl () ∧ ∀ x ∈ hs, hourE x = 0) ∨ ∃ p, loopL bodyH (fun _ => .inl ()) hs i () = .inr p ∧ p.2 ≠ 0 := by
  intro hs
  induction hs with
  | nil => intro i; exact .inl ⟨rfl, by simp⟩
  | cons x hs ih =>
    intro i
    by_cases h : hourE x = 0
    · have hb : bodyH i x () = .inl () := if_pos h
      rw [loopL, hb]
      rcases ih (i + 1) with ⟨h1, h2⟩ | ⟨p, h1, h2⟩
      · exact .inl ⟨h1, fun y hy => (List.mem_cons.1 hy).elim (fun e => e ▸ h) (h2 y)⟩
      · exact .inr ⟨p, h1, h2⟩
    · have hb : bodyH i x () = .inr (.inr ((i : Int), hourE x)) := if_neg h
      rw [loopL, hb]
      exact .inr ⟨_, rfl, h⟩
structure OkT (lo hi vol mo wo : Int) (ms : List DispatchMode) (hs : List DispatchHour) : Prop where
  m5 : ms.length ≤ 5
  h10 : hs.length ≤ 10
  lo0 : 0 ≤ lo
  hi1 : hi ≤ 1000000
  v0 : lo ≤ vol
  v1 : vol ≤ hi
  mo0 : 0 ≤ mo
  mo1 : mo ≤ (ms.length : Int) - 1
  wo : -10000 ≤ wo ∧ wo ≤ 10000
  md : ∀ x ∈ ms, modeR x = true
  hr : ∀ x ∈ hs, hourE x = 0
theorem okT_of {lo hi vol mo wo : Int} {ms : List DispatchMode} {hs : List DispatchHour} (h : (checkT lo hi vol mo wo ms hs).2 = 0) : OkT lo hi vol mo wo ms hs := by
  unfold checkT at h
  by_cases a : (checkP lo hi ms).2 = 0
  case neg => rw [if_neg a] at h; exact absurd h a
  rw [if_pos a] at h
  by_cases b : lo ≤ vol ∧ vol ≤ hi
  case neg => rw [if_neg b] at h; cases h
  rw [if_pos b] at h
  by_cases c : 0 ≤ mo ∧ mo ≤ (ms.length : Int) - 1
  case neg => rw [if_neg c] at h; cases h
  rw [if_pos c] at h
  by_cases d : priceOk wo = true
  case neg => rw [if_neg d] at h; cases h
  rw [if_pos d] at h
  by_cases e : hs.length = 0
  case pos => rw [if_pos e] at h; cases h
  rw [if_neg e] at h
  by_cases f : hs.length ≤ 10
  case neg => rw [if_neg f] at h; cases h
  rw [if_pos f] at h
  have hH : ∀ x ∈ hs, hourE x = 0 := by
    rcases checkH_err hs 0 with ⟨_, h2⟩ | ⟨p, h1, h2⟩
    · exact h2
    · unfold checkH at h; rw [h1] at h; exact absurd h h2
  unfold checkP at a
  by_cases a1 : (0 ≤ lo ∧ lo ≤ 1000000) ∧ 0 ≤ hi ∧ hi ≤ 1000000
  case neg => rw [if_neg a1] at a; cases a
  rw [if_pos a1] at a
  by_cases a2 : lo ≤ hi
  case neg => rw [if_neg a2] at a; cases a
  rw [if_pos a2] at a
  by_cases a3 : 40 ≤ hi - lo
  case pos => rw [if_pos a3] at a; cases a
  rw [if_neg a3] at a
  by_cases a4 : ms.length = 0
  case pos => rw [if_pos a4] at a; cases a
  rw [if_neg a4] at a
  by_cases a5 : ms.length ≤ 5
  case neg => rw [if_neg a5] at a; cases a
  rw [if_pos a5] at a
  have hM : ∀ x ∈ ms, modeR x = true := by
    rcases checkM_err ms 0 [] with ⟨_, h2⟩ | ⟨p, h1, h2⟩
    · exact h2
    · unfold checkM at a; rw [h1] at a; exact absurd a h2
  exact ⟨a5, f, a1.1.1, a1.2.2, b.1, b.2, c.1, c.2, priceOk_iff.1 d, hM, hH⟩
theorem hourE_ok {x : DispatchHour} (h : hourE x = 0) : (-10000 ≤ x.fBuy ∧ x.fBuy ≤ 10000) ∧ (-10000 ≤ x.fSell ∧ x.fSell ≤ 10000) ∧ -10000 ≤ x.fInflow ∧ x.fInflow ≤ 10000 := by
  unfold hourE at h
  split at h
  · rename_i k; exact ⟨priceOk_iff.1 k.1, priceOk_iff.1 k.2.1, priceOk_iff.1 k.2.2⟩
  · cases h
theorem modeR_ok {x : DispatchMode} (h : modeR x = true) : -10000 ≤ x.fChange ∧ x.fChange ≤ 10000 ∧ -10000 ≤ x.fEnergy ∧ x.fEnergy ≤ 10000 ∧ 0 ≤ x.fStart ∧ x.fStart ≤ 10000 := by
  simpa [modeR] using h
/-! ### plans -/
def inM (ms : List DispatchMode) (m : Int) : Bool := decide (0 ≤ m) && decide (m ≤ (ms.length : Int) - 1)
theorem inM_get {ms : List DispatchMode} {m : Int} (h : inM ms m = true) : ∃ x, ms[m.toNat]? = some x ∧ geti ms m = some (m.toNat, x) ∧ x ∈ ms := by
  simp only [inM, Bool.and_eq_true, decide_eq_true_eq] at h
  have hlt : m.toNat < ms.length := by omega
  have hx : ms[m.toNat]? = some ms[m.toNat] := List.getElem?_eq_getElem hlt
  refine ⟨_, hx, ?_, List.getElem_mem hlt⟩
  have := geti_nat hx
  rwa [show ((m.toNat : Nat) : Int) = m from by omega] at this
def chg (ms : List DispatchMode) (m : Int) : Int := match ms[m.toNat]? with | some x => x.fChange | none => 0
def dl (ms : List DispatchMode) (p : DispatchHour × Int) : Int := p.1.fInflow + chg ms p.2
def volF (ms : List DispatchMode) (a : Int × List Int) (p : DispatchHour × Int) : Int × List Int := (a.1 + dl ms p, a.2 ++ [a.1 + dl ms p])
def inR (lo hi v : Int) : Bool := decide (lo ≤ v) && decide (v ≤ hi)
def pos (lo hi : Int) (ms : List DispatchMode) : Int → List (DispatchHour × Int) → Bool
  | _, [] => true
  | v, p :: l => inR lo hi (v + dl ms p) && pos lo hi ms (v + dl ms p) l
def vols (ms : List DispatchMode) (vol : Int) (l : List (DispatchHour × Int)) : List Int := (l.foldl (volF ms) (vol, [vol])).2
theorem vols_all (lo hi : Int) (ms : List DispatchMode) : ∀ (l : List (DispatchHour × Int)) (v : Int) (o : List Int), ((l.foldl (volF ms) (v, o)).2).all (inR lo hi) = (o.all (inR lo hi) && pos lo hi ms v l) := by
  intro l
  induction l with
  | nil => intro v o; simp [pos]
  | cons p l ih => intro v o; rw [List.foldl, volF, ih]; simp [pos, List.all_append, Bool.and_assoc]
def bodyV (lo hi : Int) (ms : List DispatchMode) (_ : Nat) (p : DispatchHour × Int) (a : Int × List Int) : (Int × List Int) ⊕ (List Int ⊕ List Int) :=
  if inR lo hi (a.1 + dl ms p) = true then .inl (volF ms a p) else .inr (.inr a.2)
theorem loopV_eq (lo hi : Int) (ms : List DispatchMode) : ∀ (l : List (DispatchHour × Int)) (i : Nat) (a : Int × List Int),
    (pos lo hi ms a.1 l = true ∧ loopL (bodyV lo hi ms) (fun a => .inl a.2) l i a = .inl (l.foldl (volF ms) a).2) ∨ (pos lo hi ms a.1 l = false ∧ ∃ q, loopL (bodyV lo hi ms) (fun a => .inl a.2) l i a = .inr q) := by
  intro l
  induction l with
  | nil => intro i a; exact .inl ⟨rfl, rfl⟩
  | cons p l ih =>
    intro i a
    by_cases h : inR lo hi (a.1 + dl ms p) = true
    · have hb : bodyV lo hi ms i p a = .inl (volF ms a p) := if_pos h
      rw [loopL, hb, List.foldl]
      simp only [pos, h, Bool.true_and]
      exact ih (i + 1) (volF ms a p)
    · have hb : bodyV lo hi ms i p a = .inr (.inr a.2) := if_neg h
      rw [loopL, hb]
      right; exact ⟨by simp [pos, h], _, rfl⟩
section
variable {lo hi vol mo wo : Int} {ms : List DispatchMode} {hs : List DispatchHour} (ok : OkT lo hi vol mo wo ms hs)
include ok
theorem OkT.step {i : Nat} {h : DispatchHour} {m : Int} {v : Int} (hh : hs[i]? = some h) (hm : inM ms m = true) (hv : -10000000 ≤ v ∧ v ≤ 10000000) :
    F122_0 lo hi vol mo wo v (i : Int) m ms hs = some (v + dl ms (h, m)) ∧ -20000 ≤ dl ms (h, m) ∧ dl ms (h, m) ≤ 20000 := by
  obtain ⟨x, hx, hg, hxm⟩ := inM_get hm
  have h1 := hourE_ok (ok.hr h (List.mem_of_getElem? hh))
  have h2 := modeR_ok (ok.md x hxm)
  have hd : dl ms (h, m) = h.fInflow + x.fChange := by unfold dl chg; rw [hx]
  refine ⟨?_, by omega, by omega⟩
  unfold F122_0
  rw [geti_at hh, hg]
  simp only [bind2, Option.bind_some]
  rw [aw_ok (n := v + h.fInflow) (by omega) (by omega), aw_ok (by omega) (by omega), hd]
  congr 1; omega
theorem F123_eq (v : Int) : F123_0 lo hi vol mo wo v ms hs = some (inR lo hi v) := by unfold F123_0; rw [F75_eq]; rfl
theorem L121l0_eq {pl : List Int} (he : pl.length = hs.length) (hm : pl.all (inM ms) = true) :
    L121l0_0 (pl.length : Int) ms hs pl lo hi vol mo wo (0, [vol]) = some (loopL (bodyV lo hi ms) (fun a => .inl a.2) (hs.zip pl) 0 (vol, [vol])) := by
  have hz : (hs.zip pl).length = pl.length := by simp [he]
  have h10 := ok.h10
  have hv0 := ok.v0; have hv1 := ok.v1; have hlo := ok.lo0; have hhi := ok.hi1
  exact iter_list0 (step := S121l0_0 (pl.length : Int) ms hs pl lo hi vol mo wo) (fun i (a : Int × List Int) => ((i : Int), a.2)) (hs.zip pl) (bodyV lo hi ms) (fun a => .inl a.2) (fun i a => a.2.length = i + 1 ∧ a.2[i]? = some a.1 ∧ lo ≤ a.1 ∧ a.1 ≤ hi)
    (fun a _ => by simp [S121l0_0, hz]) (fun i p a hx hi' hI => by
      obtain ⟨hx1, hx2⟩ := zip_at hx
      obtain ⟨i1, i2, i3, i4⟩ := hI
      have hmm := List.all_eq_true.1 hm _ (List.mem_of_getElem? hx2)
      obtain ⟨s1, s2, s3⟩ := ok.step hx1 hmm (v := a.1) ⟨by omega, by omega⟩
      refine ⟨?_, fun a' ha' => ?_⟩
      · simp only [S121l0_0, if_neg (show ¬ (pl.length : Int) ≤ (i : Int) by omega), geti_at hx2, geti_at i2]
        rw [s1, Option.bind_some, F123_eq ok, Option.bind_some]
        unfold bodyV
        rw [aw_ok (by omega) (by omega)]
        by_cases h : inR lo hi (a.1 + dl ms p) = true
        · rw [if_pos h, if_pos h, room_le (by omega)]; rfl
        · rw [if_neg h, if_neg h]
      · unfold bodyV at ha'
        split at ha'
        · rename_i h
          cases ha'
          simp only [inR, Bool.and_eq_true, decide_eq_true_eq] at h
          refine ⟨by simp [volF, i1], ?_, h.1, h.2⟩
          show (a.2 ++ [a.1 + dl ms p])[i + 1]? = some (a.1 + dl ms p)
          rw [List.getElem?_append_right (by omega), i1]; simp
        · cases ha') (by omega) (vol, [vol]) ⟨rfl, rfl, hv0, hv1⟩
theorem L37l0_eq {pl : List Int} (he : pl.length = hs.length) (hm : pl.all (inM ms) = true) :
    L37l0_0 ms hs pl lo hi vol mo wo (0, [vol]) = some (vols ms vol (hs.zip pl)) := by
  have hz : (hs.zip pl).length = pl.length := by simp [he]
  have h10 := ok.h10
  have hv0 := ok.v0; have hv1 := ok.v1; have hlo := ok.lo0; have hhi := ok.hi1
  have h := iter_list0 (step := S37l0_0 ms hs pl lo hi vol mo wo) (fun i (a : Int × List Int) => ((i : Int), a.2)) (hs.zip pl) (folds (volF ms)) (fun a => a.2) (fun i a => a.2.length = i + 1 ∧ a.2[i]? = some a.1 ∧ -1000000 - 20000 * i ≤ a.1 ∧ a.1 ≤ 1000000 + 20000 * i)
    (fun a _ => by simp [S37l0_0, hz]) (fun i p a hx hi' hI => by
      obtain ⟨hx1, hx2⟩ := zip_at hx
      obtain ⟨i1, i2, i3, i4⟩ := hI
      have hmm := List.all_eq_true.1 hm _ (List.mem_of_getElem? hx2)
      obtain ⟨s1, s2, s3⟩ := ok.step hx1 hmm (v := a.1) ⟨by omega, by omega⟩
      unfold F122_0 at s1
      rw [geti_at hx1] at s1
      have s2 : -20000 ≤ dl ms p := s2
      have s3 : dl ms p ≤ 20000 := s3
      refine ⟨?_, fun a' ha' => ?_⟩
      · simp only [S37l0_0, if_neg (show ¬ (pl.length : Int) ≤ (i : Int) by omega), geti_at hx2, geti_at i2, geti_at hx1]
        obtain ⟨x, hx3, hg, _⟩ := inM_get hmm
        rw [hg] at s1 ⊢
        simp only [bind2, Option.bind_some] at s1 ⊢
        have s1 := Option.some.inj s1
        rw [s1, aw_ok (n := (i : Int) + 1) (by omega) (by omega), room_le (by omega)]; rfl
      · simp only [folds, Sum.inl.injEq] at ha'
        subst ha'
        refine ⟨by simp [volF, i1], ?_, ?_, ?_⟩
        · show (a.2 ++ [a.1 + dl ms p])[i + 1]? = some (a.1 + dl ms p)
          rw [List.getElem?_append_right (by omega), i1]; simp
        · simp only [volF]; omega
        · simp only [volF]; omega) (by omega) (vol, [vol]) ⟨rfl, rfl, by simp; omega, by simp; omega⟩
  rw [loopL_fold] at h
  exact h
end
end Go.AI
end
section
/-
  PLANS: errors, value, starts; THE PLAIN LAW OF DispatchTasks.
-/
set_option linter.unusedVariables false
set_option linter.unusedSimpArgs false
set_option linter.unusedSectionVars false
set_option maxRecDepth 100000
namespace Go.AI
def planE (lo hi vol : Int) (ms : List DispatchMode) (hs : List DispatchHour) (pl : List Int) : Int :=
  if pl.length = hs.length then if pl.all (inM ms) = true then if pos lo hi ms vol (hs.zip pl) = true then 0 else 22 else 6 else 10
def bodyA {τ : Type} (p : τ → Bool) (_ : Nat) (x : τ) (_ : Unit) : Unit ⊕ (Unit ⊕ Unit) := if p x = true then .inl () else .inr (.inr ())
theorem loopA_eq {τ : Type} (p : τ → Bool) : ∀ (l : List τ) (i : Nat), loopL (bodyA p) (fun _ => .inl ()) l i () = if l.all p = true then .inl () else .inr () := by
  intro l
  induction l with
  | nil => intro i; rfl
  | cons x l ih =>
    intro i
    by_cases h : p x = true
    · have hb : bodyA p i x () = .inl () := if_pos h
      simp only [loopL, hb, ih, List.all_cons, h, Bool.true_and]
    · have hb : bodyA p i x () = .inr (.inr ()) := if_neg h
      simp only [loopL, hb, List.all_cons]; simp [h]
def bodyI {τ : Type} (p : τ → Bool) (i : Nat) (x : τ) (_ : Unit) : Unit ⊕ (Unit ⊕ Int) := if p x = true then .inl () else .inr (.inr (i : Int))
theorem loopI_eq {τ : Type} (p : τ → Bool) : ∀ (l : List τ) (i : Nat), (l.all p = true ∧ loopL (bodyI p) (fun _ => .inl ()) l i () = .inl ()) ∨ (l.all p = false ∧ ∃ k : Nat, loopL (bodyI p) (fun _ => .inl ()) l i () = .inr (k : Int)) := by
  intro l
  induction l with
  | nil => intro i; exact .inl ⟨rfl, rfl⟩
  | cons x l ih =>
    intro i
    by_cases h : p x = true
    · have hb : bodyI p i x () = .inl () := if_pos h
      simp only [loopL, hb, List.all_cons, h, Bool.true_and]; exact ih (i + 1)
    · have hb : bodyI p i x () = .inr (.inr (i : Int)) := if_neg h
      right; simp only [loopL, hb, List.all_cons]; exact ⟨by simp [h], i, rfl⟩
theorem F99_eq (lo hi vol mo wo : Int) (ms : List DispatchMode) (hs : List DispatchHour) (pl : List Int) (hl : pl.length < 100000) (hm : ms.length < 100000) : F99_0 pl lo hi vol mo wo ms hs = some (!pl.all (inM ms)) := by
  unfold F99_0 F130_0 L130l0_0
  have h := iter_list0 (step := S130l0_0 (pl.length : Int) pl lo hi vol mo wo ms hs) (fun i (_ : Unit) => (i : Int)) pl (bodyI (inM ms)) (fun _ => .inl ()) (fun _ _ => True)
    (fun a _ => by simp [S130l0_0]) (fun i x a hx hi' _ => by
      refine ⟨?_, fun _ _ => trivial⟩
      simp only [S130l0_0, if_neg (show ¬ (pl.length : Int) ≤ (i : Int) by omega), geti_at hx, F120_0, F71_0, F75_eq, Option.bind_some]
      rw [aw_ok (n := (ms.length : Int) - 1) (by omega) (by omega), aw_ok (by omega) (by omega)]
      unfold bodyI inM
      cases (decide (0 ≤ x) && decide (x ≤ (ms.length : Int) - 1)) <;> rfl) (by omega) () trivial
  have h0 : iter (S130l0_0 (pl.length : Int) pl lo hi vol mo wo ms hs) 1000000 0 = _ := h
  rw [h0]
  rcases loopI_eq (inM ms) pl 0 with ⟨a, b⟩ | ⟨a, k, b⟩
  · rw [b, a]; rfl
  · rw [b, a]; simp
section
variable {lo hi vol mo wo : Int} {ms : List DispatchMode} {hs : List DispatchHour} (ok : OkT lo hi vol mo wo ms hs)
include ok
theorem OkT.len {pl : List Int} (he : pl.length = hs.length) : pl.length ≤ 10 := by have := ok.h10; omega
theorem F37_eq {pl : List Int} (he : pl.length = hs.length) (hm : pl.all (inM ms) = true) : F37_0 lo hi vol mo wo ms hs pl = some (vols ms vol (hs.zip pl)) := by
  unfold F37_0; rw [L37l0_eq ok he hm]; rfl
theorem vols_length (l : List (DispatchHour × Int)) : (vols ms vol l).length = l.length + 1 := by
  have key : ∀ (l : List (DispatchHour × Int)) (a : Int × List Int), (l.foldl (volF ms) a).2.length = a.2.length + l.length := by
    intro l
    induction l with
    | nil => intro a; rfl
    | cons p l ih => intro a; rw [List.foldl, ih]; simp [volF]; omega
  unfold vols; rw [key]; simp; omega
theorem F36_eq (pl : List Int) (hl : pl.length < 100000) : F36_0 lo hi vol mo wo ms hs pl = some (planE lo hi vol ms hs pl) := by
  unfold F36_0 planE
  have hm5 := ok.m5
  by_cases a : pl.length = hs.length
  · rw [if_pos (by omega), if_pos a]
    have h := iter_list0 (step := S36l0_0 ms hs pl lo hi vol mo wo) (fun i (_ : Unit) => (i : Int)) pl (bodyA (inM ms)) (fun _ => .inl ()) (fun _ _ => True)
      (fun a _ => by simp [S36l0_0]) (fun i x a hx hi' _ => by
        refine ⟨?_, fun _ _ => trivial⟩
        simp only [S36l0_0, if_neg (show ¬ (pl.length : Int) ≤ (i : Int) by omega), geti_at hx, F27_eq, Option.bind_some]
        rw [aw_ok (n := (ms.length : Int) - 1) (by omega) (by omega), aw_ok (by omega) (by omega)]
        unfold bodyA inM
        cases (decide (0 ≤ x) && decide (x ≤ (ms.length : Int) - 1)) <;> rfl) (by omega) () trivial
    rw [loopA_eq] at h
    unfold L36l0_0
    have h0 : iter (S36l0_0 ms hs pl lo hi vol mo wo) 1000000 0 = _ := h
    rw [h0]
    by_cases b : pl.all (inM ms) = true
    · rw [if_pos b, if_pos b]
      simp only [Option.bind_some]
      unfold F87_0
      rw [F37_eq ok a b, Option.bind_some]
      have hvl := vols_length ok (hs.zip pl)
      have hzl : (hs.zip pl).length = pl.length := by simp [a]
      have h1 := iter_list0 (step := S87l0_0 ms hs pl lo hi (vols ms vol (hs.zip pl))) (fun i (_ : Unit) => (i : Int)) (vols ms vol (hs.zip pl)) (bodyA (inR lo hi)) (fun _ => .inl ()) (fun _ _ => True)
        (fun a _ => by simp [S87l0_0]) (fun i x a hx hi' _ => by
          refine ⟨?_, fun _ _ => trivial⟩
          simp only [S87l0_0, if_neg (show ¬ ((vols ms vol (hs.zip pl)).length : Int) ≤ (i : Int) by omega), geti_at hx, F27_eq, Option.bind_some]
          rw [aw_ok (by omega) (by omega)]
          unfold bodyA inR
          cases (decide (lo ≤ x) && decide (x ≤ hi)) <;> rfl) (by omega) () trivial
      rw [loopA_eq] at h1
      unfold L87l0_0
      have h2 : iter (S87l0_0 ms hs pl lo hi (vols ms vol (hs.zip pl))) 1000000 0 = _ := h1
      rw [h2]
      have h3 : (vols ms vol (hs.zip pl)).all (inR lo hi) = pos lo hi ms vol (hs.zip pl) := by
        unfold vols; rw [vols_all]; simp [inR, ok.v0, ok.v1]
      rw [h3]
      by_cases c : pos lo hi ms vol (hs.zip pl) = true
      · rw [if_pos c, if_pos c]; rfl
      · rw [if_neg c, if_neg c]; rfl
    · rw [if_neg b, if_neg b]; rfl
  · rw [if_neg (by omega), if_neg a]
theorem F121_eq {pl : List Int} (he : pl.length = hs.length) (hm : pl.all (inM ms) = true) : F121_0 lo hi vol mo wo ms hs pl = some (if pos lo hi ms vol (hs.zip pl) = true then (true, vols ms vol (hs.zip pl)) else (false, [])) := by
  unfold F121_0
  rw [L121l0_eq ok he hm, Option.bind_some]
  rcases loopV_eq lo hi ms (hs.zip pl) 0 (vol, [vol]) with ⟨a, b⟩ | ⟨a, q, b⟩
  · rw [b, if_pos a]; rfl
  · rw [b, if_neg (by rw [a]; simp)]
end
theorem F68_eq (lo hi vol mo wo : Int) (ms : List DispatchMode) (hs : List DispatchHour) (pl : List Int) (hl : pl.length < 100000) (hm : ms.length < 100000) (hh : hs.length < 100000) (hn : ShortN ms) :
    F68_0 lo hi vol mo wo ms hs pl = some (if (checkT lo hi vol mo wo ms hs).2 = 0 then (planE lo hi vol ms hs pl, if planE lo hi vol ms hs pl = 0 then vols ms vol (hs.zip pl) else []) else ((checkT lo hi vol mo wo ms hs).2, [])) := by
  unfold F68_0 F74_0
  rw [F31_eq lo hi vol mo wo ms hs hm hh hn]
  simp only [bind2, Option.bind_some, F99_eq lo hi vol mo wo ms hs pl hl hm, F70_eq, first3]
  by_cases a : (checkT lo hi vol mo wo ms hs).2 = 0
  · have ok := okT_of a
    rw [if_pos a, if_pos a]
    unfold planE
    by_cases b : pl.length = hs.length
    · have b' : (decide ((pl.length : Int) = (hs.length : Int))) = true := by simp; omega
      rw [if_pos b', if_pos b]
      by_cases c : pl.all (inM ms) = true
      · rw [if_pos c]
        simp only [c, Bool.not_true, Bool.not_false, if_true, ↓reduceIte]
        rw [F121_eq ok b c]
        by_cases d : pos lo hi ms vol (hs.zip pl) = true
        · rw [if_pos d]; simp [d]
        · rw [if_neg d]; simp [d]
      · simp [c]
    · have b' : ¬ (decide ((pl.length : Int) = (hs.length : Int))) = true := by simp; omega
      rw [if_neg b', if_neg b]
      simp
  · rw [if_neg a, if_neg a]
    simp [a]
/-! ### value and starts -/
def en (ms : List DispatchMode) (m : Int) : Int := match ms[m.toNat]? with | some x => x.fEnergy | none => 0
section
variable {lo hi vol mo wo : Int} {ms : List DispatchMode} {hs : List DispatchHour} (ok : OkT lo hi vol mo wo ms hs)
include ok
end
/-! ### equal lists -/
theorem F22_refl (l : List Int) (hl : l.length < 100000) : F22_0 l l = some true := by
  unfold F22_0 L22l0_0
  rw [if_pos rfl]
  have h1 := iter_list0 (step := S22l0_0 l l) (fun i (_ : Unit) => (i : Int)) l (fun _ _ _ => .inl ()) (fun _ => .inl ()) (fun _ _ => True)
    (fun a _ => by simp [S22l0_0]) (fun i x a hx hi _ => by
      refine ⟨?_, fun _ _ => trivial⟩
      simp only [S22l0_0, if_neg (show ¬ (l.length : Int) ≤ (i : Int) by omega), geti_at hx]
      rw [aw_ok (by omega) (by omega)]
      simp) (by omega) () trivial
  have h0 : iter (S22l0_0 l l) 1000000 0 = _ := h1
  rw [h0]
  have key : ∀ (l : List Int) (i : Nat), (loopL (fun _ _ _ => .inl ()) (fun _ => .inl ()) l i () : Unit ⊕ Unit) = .inl () := by
    intro l
    induction l with
    | nil => intro i; rfl
    | cons x l ih => intro i; exact ih (i + 1)
  rw [key]; rfl
/-! ### Few -/
theorem F13_spec (lo hi : Int) (ms : List DispatchMode) : F13_0 lo hi ms = some false ∨ F13_0 lo hi ms = some true ∧ ms.length ≤ 7 ∧ ShortN ms := by
  unfold F13_0
  by_cases a : ms.length ≤ 7
  · rw [if_pos (by omega)]
    have h := iter_list0 (step := S13l0_0 ms lo hi) (fun i (_ : Unit) => (i : Int)) ms (bodyA fun x => decide (x.fName.size ≤ 20)) (fun _ => .inl ()) (fun _ _ => True)
      (fun a _ => by simp [S13l0_0]) (fun i x a hx hi' _ => by
        refine ⟨?_, fun _ _ => trivial⟩
        simp only [S13l0_0, if_neg (show ¬ (ms.length : Int) ≤ (i : Int) by omega), geti_at hx]
        rw [aw_ok (by omega) (by omega)]
        unfold bodyA
        by_cases h : x.fName.size ≤ 20
        · have h' : (x.fName.size : Int) ≤ 20 := by omega
          simp [h, h']
        · have h' : ¬ (x.fName.size : Int) ≤ 20 := by omega
          simp [h, h']) (by omega) () trivial
    rw [loopA_eq] at h
    unfold L13l0_0
    have h0 : iter (S13l0_0 ms lo hi) 1000000 0 = _ := h
    rw [h0]
    by_cases b : ms.all (fun x => decide (x.fName.size ≤ 20)) = true
    · right; rw [if_pos b]; exact ⟨rfl, a, fun x hx => by simpa using List.all_eq_true.1 b x hx⟩
    · left; rw [if_neg b]; rfl
  · left; rw [if_neg (by omega)]
end Go.AI
end
section
/-
  RESERVES: THE PLAIN LAW OF DispatchReserves.
-/
set_option linter.unusedVariables false
set_option linter.unusedSimpArgs false
set_option linter.unusedSectionVars false
set_option maxRecDepth 100000
namespace Go.AI
def cnt (lo hi : Int) (ms : List DispatchMode) (m : Int) : Int → List DispatchHour → Nat
  | _, [] => 0
  | v, h :: l => if inR lo hi (v + dl ms (h, m)) = true then 1 + cnt lo hi ms m (v + dl ms (h, m)) l else 0
def bodyG (lo hi : Int) (ms : List DispatchMode) (m : Int) (k : Nat) (h : DispatchHour) (v : Int) : Int ⊕ Int := if inR lo hi (v + dl ms (h, m)) = true then .inl (v + dl ms (h, m)) else .inr (k : Int)
theorem loopG_eq (lo hi : Int) (ms : List DispatchMode) (m : Int) (n : Nat) : ∀ (l : List DispatchHour) (i : Nat) (v : Int), i + l.length = n → loopL (bodyG lo hi ms m) (fun _ => (n : Int)) l i v = ((i + cnt lo hi ms m v l : Nat) : Int) := by
  intro l
  induction l with
  | nil => intro i v h; simp at h; subst h; simp [loopL, cnt]
  | cons x l ih =>
    intro i v h
    by_cases c : inR lo hi (v + dl ms (x, m)) = true
    · have hb : bodyG lo hi ms m i x v = .inl (v + dl ms (x, m)) := if_pos c
      rw [loopL, hb]
      simp only []
      rw [ih (i + 1) _ (by simp at h; omega), cnt, if_pos c]; congr 1; omega
    · have hb : bodyG lo hi ms m i x v = .inr (i : Int) := if_neg c
      rw [loopL, hb, cnt, if_neg c]; rfl
def bodyR (lo hi : Int) (ms : List DispatchMode) (m : Int) (k : Nat) (h : DispatchHour) (v : Int) : Int ⊕ (Int ⊕ (Int × Int)) := if inR lo hi (v + dl ms (h, m)) = true then .inl (v + dl ms (h, m)) else .inr (.inr ((k : Int), (k : Int)))
theorem loopR_eq (lo hi : Int) (ms : List DispatchMode) (m : Int) (n : Nat) : ∀ (l : List DispatchHour) (i : Nat) (v : Int), i + l.length = n →
    loopL (bodyR lo hi ms m) (fun _ => .inl (n : Int)) l i v = .inl ((i + cnt lo hi ms m v l : Nat) : Int) ∨ loopL (bodyR lo hi ms m) (fun _ => .inl (n : Int)) l i v = .inr (((i + cnt lo hi ms m v l : Nat) : Int), ((i + cnt lo hi ms m v l : Nat) : Int)) := by
  intro l
  induction l with
  | nil => intro i v h; simp at h; subst h; left; simp [loopL, cnt]
  | cons x l ih =>
    intro i v h
    by_cases c : inR lo hi (v + dl ms (x, m)) = true
    · have hb : bodyR lo hi ms m i x v = .inl (v + dl ms (x, m)) := if_pos c
      rw [loopL, hb]
      simp only []
      have := ih (i + 1) (v + dl ms (x, m)) (by simp at h; omega)
      rw [cnt, if_pos c, show i + (1 + cnt lo hi ms m (v + dl ms (x, m)) l) = i + 1 + cnt lo hi ms m (v + dl ms (x, m)) l from by omega]
      exact this
    · have hb : bodyR lo hi ms m i x v = .inr (.inr ((i : Int), (i : Int))) := if_neg c
      right; rw [loopL, hb, cnt, if_neg c]; rfl
section
variable {lo hi vol mo wo : Int} {ms : List DispatchMode} {hs : List DispatchHour} (ok : OkT lo hi vol mo wo ms hs)
include ok
theorem F72_eq {t : Nat} {m v : Int} (ht : t ≤ hs.length) (hm : inM ms m = true) (hv : lo ≤ v ∧ v ≤ hi) : F72_0 lo hi vol mo wo v (t : Int) m ms hs = some ((cnt lo hi ms m v (hs.drop t) : Nat) : Int) := by
  have h10 := ok.h10; have hlo := ok.lo0; have hhi := ok.hi1
  have hd : (hs.drop t).length = hs.length - t := List.length_drop
  have h := iter_list0 (step := S72l0_0 (t : Int) m ms hs lo hi vol mo wo) (fun k (v : Int) => (v, (k : Int))) (hs.drop t) (bodyG lo hi ms m) (fun _ => ((hs.length - t : Nat) : Int)) (fun _ v => lo ≤ v ∧ v ≤ hi)
    (fun a _ => by
      simp only [S72l0_0, hd]
      rw [aw_ok (by omega) (by omega), if_pos (by omega)]) (fun k x v hx hk hI => by
      have hx' : hs[t + k]? = some x := by rw [List.getElem?_drop] at hx; exact hx
      obtain ⟨s1, s2, s3⟩ := ok.step hx' hm (v := v) ⟨by omega, by omega⟩
      rw [show ((t + k : Nat) : Int) = (t : Int) + k from by omega] at s1
      refine ⟨?_, fun a' ha' => ?_⟩
      · simp only [S72l0_0]
        rw [aw_ok (n := (t : Int) + k) (by omega) (by omega), if_neg (by omega), s1, Option.bind_some, F123_eq ok, Option.bind_some, aw_ok (by omega) (by omega)]
        unfold bodyG
        by_cases c : inR lo hi (v + dl ms (x, m)) = true
        · rw [if_pos c, if_pos c]; rfl
        · rw [if_neg c, if_neg c]
      · unfold bodyG at ha'
        split at ha'
        · rename_i c; cases ha'; simpa [inR] using c
        · cases ha') (by omega) v hv
  rw [loopG_eq lo hi ms m _ _ 0 v (by omega), Nat.zero_add] at h
  unfold F72_0 L72l0_0
  have h0 : iter (S72l0_0 (t : Int) m ms hs lo hi vol mo wo) 1000000 (v, 0) = _ := h
  rw [h0]; rfl
theorem F73_eq {t : Nat} {m v : Int} (ht : t ≤ hs.length) (hm : inM ms m = true) (hv : lo ≤ v ∧ v ≤ hi) : F73_0 lo hi vol mo wo (t : Int) v m ms hs = some ((cnt lo hi ms m v (hs.drop t) : Nat) : Int) := by
  have h10 := ok.h10; have hlo := ok.lo0; have hhi := ok.hi1
  have hd : (hs.drop t).length = hs.length - t := List.length_drop
  have h := iter_list0 (step := S73l0_0 m ms hs lo hi vol mo wo) (fun k (v : Int) => (v, (k : Int), (t : Int) + k)) (hs.drop t) (bodyR lo hi ms m) (fun _ => .inl ((hs.length - t : Nat) : Int)) (fun _ v => lo ≤ v ∧ v ≤ hi)
    (fun a _ => by
      simp only [S73l0_0, hd]
      rw [if_pos (by omega)]) (fun k x v hx hk hI => by
      have hx' : hs[t + k]? = some x := by rw [List.getElem?_drop] at hx; exact hx
      obtain ⟨s1, s2, s3⟩ := ok.step hx' hm (v := v) ⟨by omega, by omega⟩
      have hgi := geti_nat hx'
      rw [show ((t + k : Nat) : Int) = (t : Int) + k from by omega] at s1 hgi
      unfold F122_0 at s1
      obtain ⟨y, hy, hg, _⟩ := inM_get hm
      rw [hgi, hg] at s1
      simp only [bind2, Option.bind_some] at s1
      have s1 := Option.some.inj s1
      refine ⟨?_, fun a' ha' => ?_⟩
      · simp only [S73l0_0]
        rw [if_neg (by omega), hgi, hg]
        simp only [bind2, Option.bind_some, F27_eq]
        rw [s1, aw_ok (n := (k : Int) + 1) (by omega) (by omega), aw_ok (n := (t : Int) + k + 1) (by omega) (by omega)]
        unfold bodyR inR
        by_cases c : (decide (lo ≤ v + dl ms (x, m)) && decide (v + dl ms (x, m) ≤ hi)) = true
        · rw [if_pos c, if_pos c, Int.add_assoc]; rfl
        · rw [if_neg c, if_neg c]
      · unfold bodyR at ha'
        split at ha'
        · rename_i c; cases ha'; simpa [inR] using c
        · cases ha') (by omega) v hv
  unfold F73_0 L73l0_0
  have h0 : iter (S73l0_0 m ms hs lo hi vol mo wo) 1000000 (v, 0, (t : Int)) = some (loopL (bodyR lo hi ms m) (fun _ => .inl ((hs.length - t : Nat) : Int)) (hs.drop t) 0 v) := by
    have := h; rw [show ((t : Int) + ((0 : Nat) : Int)) = t from by omega] at this; exact this
  rw [h0]
  rcases loopR_eq lo hi ms m (hs.length - t) (hs.drop t) 0 v (by omega) with e | e <;> rw [e, Nat.zero_add] <;> rfl
end
def bodyS (lo hi : Int) (ms : List DispatchMode) (hs : List DispatchHour) (m : Int) (vs : List Int) (i : Nat) (_ : DispatchHour) (o : List Int) : List Int ⊕ List Int := .inl (o ++ [((cnt lo hi ms m ((vs[i]?).getD 0) (hs.drop i) : Nat) : Int)])
def resL (lo hi : Int) (ms : List DispatchMode) (hs : List DispatchHour) (m : Int) (vs : List Int) : List Int := loopL (bodyS lo hi ms hs m vs) (fun o => o) hs 0 []
theorem resL_length (lo hi : Int) (ms : List DispatchMode) (hs : List DispatchHour) (m : Int) (vs : List Int) : (resL lo hi ms hs m vs).length = hs.length := by
  have key : ∀ (l : List DispatchHour) (i : Nat) (o : List Int), (loopL (bodyS lo hi ms hs m vs) (fun o => o) l i o).length = o.length + l.length := by
    intro l
    induction l with
    | nil => intro i o; rfl
    | cons x l ih => intro i o; simp only [loopL, bodyS]; rw [ih]; simp; omega
  unfold resL; rw [key]; simp
def bodyQ (n : Nat) (i : Nat) (x : Int) (p : Int) : Int ⊕ Int := .inl (if (n : Int) - i ≤ x then p else min p x)
def promL (l : List Int) : Int := loopL (bodyQ l.length) (fun p => p) l 0 10
theorem L19l0_eq (ms : List DispatchMode) (hs : List DispatchHour) (pl r : List Int) (hr : r.length < 100000) : L19l0_0 (r.length : Int) ms hs pl r (10, 0) = some (promL r) := by
  exact iter_list0 (step := S19l0_0 (r.length : Int) ms hs pl r) (fun i (p : Int) => (p, (i : Int))) r (bodyQ r.length) (fun p => p) (fun _ _ => True)
    (fun a _ => by simp [S19l0_0]) (fun i x p hx hi _ => by
      refine ⟨?_, fun _ _ => trivial⟩
      simp only [S19l0_0, if_neg (show ¬ (r.length : Int) ≤ (i : Int) by omega), geti_at hx]
      rw [aw_ok (n := (r.length : Int) - i) (by omega) (by omega), aw_ok (by omega) (by omega)]
      unfold bodyQ
      by_cases c : (r.length : Int) - i ≤ x
      · rw [if_pos c, if_pos c]; rfl
      · rw [if_neg c, if_neg c]; rfl) (by omega) 10 trivial
theorem L24l0_eq (ms : List DispatchMode) (hs : List DispatchHour) (pl r : List Int) (hr : r.length < 100000) : L24l0_0 ms hs pl r (10, 0) = some (promL r) := by
  exact iter_list0 (step := S24l0_0 ms hs pl r) (fun i (p : Int) => (p, (i : Int))) r (bodyQ r.length) (fun p => p) (fun _ _ => True)
    (fun a _ => by simp [S24l0_0]) (fun i x p hx hi _ => by
      refine ⟨?_, fun _ _ => trivial⟩
      simp only [S24l0_0, if_neg (show ¬ (r.length : Int) ≤ (i : Int) by omega), geti_at hx]
      rw [aw_ok (n := (r.length : Int) - i) (by omega) (by omega), aw_ok (by omega) (by omega)]
      unfold bodyQ
      by_cases c : (r.length : Int) - i ≤ x
      · rw [if_pos c, if_pos c]; rfl
      · rw [if_neg c, if_neg c]; rfl) (by omega) 10 trivial
section
variable {lo hi vol mo wo : Int} {ms : List DispatchMode} {hs : List DispatchHour} (ok : OkT lo hi vol mo wo ms hs)
include ok
theorem vols_at {pl : List Int} (he : pl.length = hs.length) (hp : pos lo hi ms vol (hs.zip pl) = true) {i : Nat} (hi' : i < hs.length) : ∃ v, (vols ms vol (hs.zip pl))[i]? = some v ∧ lo ≤ v ∧ v ≤ hi := by
  have hl := vols_length ok (hs.zip pl)
  have hz : (hs.zip pl).length = hs.length := by simp [he]
  have h3 : (vols ms vol (hs.zip pl)).all (inR lo hi) = true := by unfold vols; rw [vols_all, hp]; simp [inR, ok.v0, ok.v1]
  refine ⟨_, List.getElem?_eq_getElem (by omega), ?_⟩
  have := List.all_eq_true.1 h3 _ (List.getElem_mem (l := vols ms vol (hs.zip pl)) (n := i) (by omega))
  simpa [inR] using this
theorem L15l0_eq {pl : List Int} {m : Int} (he : pl.length = hs.length) (hp : pos lo hi ms vol (hs.zip pl) = true) (hm : inM ms m = true) :
    L15l0_0 (hs.length : Int) ms hs pl m lo hi vol mo wo (vols ms vol (hs.zip pl)) (0, []) = some (resL lo hi ms hs m (vols ms vol (hs.zip pl))) := by
  have h10 := ok.h10
  exact iter_list0 (step := S15l0_0 (hs.length : Int) ms hs pl m lo hi vol mo wo (vols ms vol (hs.zip pl))) (fun i (o : List Int) => ((i : Int), o)) hs (bodyS lo hi ms hs m (vols ms vol (hs.zip pl))) (fun o => o) (fun i o => o.length = i)
    (fun a _ => by simp [S15l0_0]) (fun i x o hx hi' hI => by
      obtain ⟨v, hv, hvr⟩ := vols_at ok he hp hi'
      refine ⟨?_, fun o' ho' => by simp only [bodyS, Sum.inl.injEq] at ho'; subst ho'; simp [hI]⟩
      simp only [S15l0_0, if_neg (show ¬ (hs.length : Int) ≤ (i : Int) by omega), geti_at hv]
      rw [F72_eq ok (by omega) hm hvr, Option.bind_some, aw_ok (by omega) (by omega), room_le (by omega)]
      unfold bodyS
      rw [hv]; rfl) (by omega) [] rfl
theorem L23l0_eq {pl : List Int} {m : Int} (he : pl.length = hs.length) (hp : pos lo hi ms vol (hs.zip pl) = true) (hm : inM ms m = true) :
    L23l0_0 ms hs pl lo hi vol mo wo m (vols ms vol (hs.zip pl)) (0, []) = some (resL lo hi ms hs m (vols ms vol (hs.zip pl))) := by
  have h10 := ok.h10
  exact iter_list0 (step := S23l0_0 ms hs pl lo hi vol mo wo m (vols ms vol (hs.zip pl))) (fun i (o : List Int) => ((i : Int), o)) hs (bodyS lo hi ms hs m (vols ms vol (hs.zip pl))) (fun o => o) (fun i o => o.length = i)
    (fun a _ => by simp [S23l0_0]) (fun i x o hx hi' hI => by
      obtain ⟨v, hv, hvr⟩ := vols_at ok he hp hi'
      refine ⟨?_, fun o' ho' => by simp only [bodyS, Sum.inl.injEq] at ho'; subst ho'; simp [hI]⟩
      simp only [S23l0_0, if_neg (show ¬ (hs.length : Int) ≤ (i : Int) by omega), geti_at hv]
      rw [F73_eq ok (by omega) hm hvr, Option.bind_some, aw_ok (by omega) (by omega), room_le (by omega)]
      unfold bodyS
      rw [hv]; rfl) (by omega) [] rfl
end
theorem planE0 {lo hi vol : Int} {ms : List DispatchMode} {hs : List DispatchHour} {pl : List Int} (h : planE lo hi vol ms hs pl = 0) : pl.length = hs.length ∧ pl.all (inM ms) = true ∧ pos lo hi ms vol (hs.zip pl) = true := by
  unfold planE at h
  by_cases b1 : pl.length = hs.length
  case neg => rw [if_neg b1] at h; cases h
  rw [if_pos b1] at h
  by_cases b2 : pl.all (inM ms) = true
  case neg => rw [if_neg b2] at h; cases h
  rw [if_pos b2] at h
  by_cases b3 : pos lo hi ms vol (hs.zip pl) = true
  case neg => rw [if_neg b3] at h; cases h
  exact ⟨b1, b2, b3⟩
def resE (lo hi vol mo wo : Int) (ms : List DispatchMode) (hs : List DispatchHour) (pl : List Int) (m : Int) : Int :=
  if (checkT lo hi vol mo wo ms hs).2 = 0 then if planE lo hi vol ms hs pl = 0 then if inM ms m = true then 0 else 6 else planE lo hi vol ms hs pl else (checkT lo hi vol mo wo ms hs).2
theorem F15_eq (lo hi vol mo wo m : Int) (ms : List DispatchMode) (hs : List DispatchHour) (pl : List Int) (hl : pl.length < 100000) (hm : ms.length < 100000) (hh : hs.length < 100000) (hn : ShortN ms) :
    F15_0 lo hi vol mo wo m ms hs pl = some (if resE lo hi vol mo wo ms hs pl m = 0 then (0, resL lo hi ms hs m (vols ms vol (hs.zip pl))) else (resE lo hi vol mo wo ms hs pl m, [])) := by
  unfold F15_0 F71_0 resE
  rw [F68_eq lo hi vol mo wo ms hs pl hl hm hh hn]
  simp only [F75_eq, F70_eq, first2, Option.bind_some]
  rw [aw_ok (n := (ms.length : Int) - 1) (by omega) (by omega)]
  show bind2 _ (fun r600 r601 => if (if r600 = 0 then (if inM ms m = true then (0 : Int) else 6) else r600) = 0 then _ else _) = _
  by_cases a : (checkT lo hi vol mo wo ms hs).2 = 0
  · have ok := okT_of a
    rw [if_pos a, if_pos a]
    by_cases b : planE lo hi vol ms hs pl = 0
    · obtain ⟨b1, b2, b3⟩ := planE0 b
      rw [if_pos b, if_pos b]
      simp only [bind2, Option.bind_some, b, if_true, ↓reduceIte]
      by_cases c : inM ms m = true
      · simp only [c, if_true, ↓reduceIte]
        rw [L15l0_eq ok b1 b3 c]; rfl
      · have c' : (decide (0 ≤ m) && decide (m ≤ (ms.length : Int) - 1)) = false := by
          have : inM ms m = false := by simpa using c
          exact this
        simp only [c, c', if_false, Bool.false_eq_true, ↓reduceIte]; simp
    · rw [if_neg b, if_neg b]
      simp [bind2, b]
  · rw [if_neg a, if_neg a]
    simp [bind2, a]
theorem plainDispatchReserves (lo hi vol mo wo m : Int) (ms : List DispatchMode) (hs : List DispatchHour) (pl : List Int) : F3_0 lo hi vol mo wo m ms hs pl = some true := by
  unfold F3_0
  rcases F13_spec lo hi ms with h | ⟨h, hm, hn⟩
  · rw [h]; rfl
  rw [h, Option.bind_some, if_pos rfl]
  unfold F14_0
  rw [Option.bind_some]
  by_cases hh : hs.length ≤ 12
  case neg => rw [if_neg (by simp; omega)]
  rw [if_pos (by simp; omega)]
  by_cases hp : pl.length ≤ 12
  case neg => rw [if_neg (by omega)]
  rw [if_pos (by omega)]
  have c16 : F16_0 lo hi ms = some () := by unfold F16_0; rw [room_le (by omega)]
  have c17 : F17_0 vol mo wo hs = some () := by unfold F17_0; rw [room_le (by omega)]
  have c18 : F18_0 m pl = some () := by unfold F18_0 F26_0; rw [room_le (by omega)]; rfl
  have e15 := F15_eq lo hi vol mo wo m ms hs pl (by omega) (by omega) (by omega) hn
  have e20 : F20_0 lo hi vol mo wo ms hs = some (checkT lo hi vol mo wo ms hs).2 := by unfold F20_0; rw [F35_eq lo hi vol mo wo ms hs (by omega) (by omega) hn]; rfl
  rw [c16, c17, c18]
  unfold F19_0
  rw [e15, e20]
  simp only [Option.bind_some]
  by_cases a : (checkT lo hi vol mo wo ms hs).2 = 0
  · have ok := okT_of a
    have h10 := ok.h10
    have e21 : F21_0 lo hi vol mo wo m ms hs pl = some (resE lo hi vol mo wo ms hs pl m) := by
      unfold F21_0 resE
      rw [F36_eq ok pl (by omega), Option.bind_some, F27_eq, aw_ok (n := (ms.length : Int) - 1) (by omega) (by omega), if_pos a]
      by_cases b : planE lo hi vol ms hs pl = 0
      · rw [if_pos b, if_pos b]
        show (if inM ms m = true then _ else _) = _
        by_cases c : inM ms m = true
        · rw [if_pos c, if_pos c]
        · rw [if_neg c, if_neg c]
      · rw [if_neg b, if_neg b]
    by_cases d : resE lo hi vol mo wo ms hs pl m = 0
    · have d' := d
      unfold resE at d'
      rw [if_pos a] at d'
      by_cases b : planE lo hi vol ms hs pl = 0
      case neg => rw [if_neg b] at d'; exact absurd d' b
      rw [if_pos b] at d'
      by_cases c : inM ms m = true
      case neg => rw [if_neg c] at d'; cases d'
      obtain ⟨b1, b2, b3⟩ := planE0 b
      have hrl := resL_length lo hi ms hs m (vols ms vol (hs.zip pl))
      have e23 : F23_0 lo hi vol mo wo m ms hs pl = some (resL lo hi ms hs m (vols ms vol (hs.zip pl))) := by
        unfold F23_0; rw [F37_eq ok b1 b2, Option.bind_some, L23l0_eq ok b1 b3 c]; rfl
      have e24 : F24_0 lo hi vol mo wo m ms hs pl = some (promL (resL lo hi ms hs m (vols ms vol (hs.zip pl)))) := by
        unfold F24_0; rw [e23, Option.bind_some, L24l0_eq ms hs pl _ (by omega)]; rfl
      simp only [if_pos d, bind2, Option.bind_some, if_true, ↓reduceIte, L19l0_eq ms hs pl _ (show (resL lo hi ms hs m (vols ms vol (hs.zip pl))).length < 100000 by omega), a, e21, d, e23, e24, F22_refl _ (show (resL lo hi ms hs m (vols ms vol (hs.zip pl))).length < 100000 by omega)]
      simp
    · simp only [if_neg d, bind2, Option.bind_some, if_true, ↓reduceIte, a, e21]
      simp [d]
  · have d : resE lo hi vol mo wo ms hs pl m = (checkT lo hi vol mo wo ms hs).2 := by unfold resE; rw [if_neg a]
    rw [d]
    simp only [if_neg a, bind2, Option.bind_some]
    simp [a]
end Go.AI
end
