import Derived.Test.YtfglifekecijjaaEAiY
import Derived.Test.YtfglifekecijjaaEAiTab
import Derived.Test.YtfglifekecijjaaEAiAwake
import Derived.Test.YtfglifekecijjaaEWnF
section
/-
  Functions, walked through: guidevanelaw02.Few, guidevaneref02.Copy, water.unless, water.first, water.within, water.isSized, water.isName.
-/
set_option linter.unusedVariables false
set_option linter.unusedSimpArgs false
set_option maxRecDepth 100000
set_option maxHeartbeats 4000000
namespace Go.AI
noncomputable def h15l0_0 (z0 : Bool) (z1 : Bool) (v11 : List WaterNode) (v12 : List WaterConduit) : (Int) → Env × Heap
  | v10 => ([(1, .ptr 2 0), (3, .int .i64 v10)], [.row z0 true (rowC v11), .row z1 true (rowC v12), .row true false [.slice 0 0 v11.length v11.length 4 false, .slice 1 0 v12.length v12.length 6 false]])
noncomputable def q15l0_0 (z0 : Bool) (z1 : Bool) (v11 : List WaterNode) (v12 : List WaterConduit) : ((Unit) ⊕ (Unit)) → AExit × Env × Heap
  | .inl (_) => (.exit 0, [(1, .ptr 2 0), (2, .undef)], [.row z0 true (rowC v11), .row z1 true (rowC v12), .row true false [.slice 0 0 v11.length v11.length 4 false, .slice 1 0 v12.length v12.length 6 false]])
  | .inr (_) => (.ret, [(1, .ptr 2 0), (2, .bool false)], [.row z0 true (rowC v11), .row z1 true (rowC v12), .row true false [.slice 0 0 v11.length v11.length 4 false, .slice 1 0 v12.length v12.length 6 false]])
theorem k15l0_0 (z0 : Bool) (z1 : Bool) (v11 : List WaterNode) (v12 : List WaterConduit) (s : Int) (o : (Unit) ⊕ (Unit)) (h : L15l0_0 v11 v12 s = some o) : Ev fun n => loopAt [1, 3] [1, 2] a15l0b (ex tab n) 2 (h15l0_0 z0 z1 v11 v12 s) = some (q15l0_0 z0 z1 v11 v12 o) := by
  refine iter_sound (S15l0_0 v11 v12) [1, 3] [1, 2] a15l0b 2 (h15l0_0 z0 z1 v11 v12) (q15l0_0 z0 z1 v11 v12) ?_ _ _ _ h
  rintro v10 z h
  simp only [S15l0_0] at h
  by_cases c13 : (v11.length : Int) ≤ v10
  · rw [if_pos c13] at h
    have c13d := dt c13
    cases h
    refine ⟨0, fun n hn => ?_⟩
    simp (maxSteps := 2000000) only [W, reduceIte, Nat.reduceEqDiff, Nat.reduceAdd, Nat.reduceSub, Nat.reduceLT, Nat.reduceLeDiff, Nat.reduceMul, h15l0_0, q15l0_0, a15l0b, rc_WaterNode, c13d]
  · rw [if_neg c13] at h
    have c13d := df c13
    obtain ⟨j14, x15, g16, h⟩ := un2 h
    obtain ⟨g161, g162⟩ := geti_in g16
    have g163 := ac_WaterNode g162
    try simp only [wn] at g161
    by_cases c17 : (x15.fName.size : Int) ≤ 20
    · rw [if_pos c17] at h
      have c17d := dt c17
      cases h
      refine ⟨0, fun n hn => ?_⟩
      simp (maxSteps := 2000000) only [W, reduceIte, Nat.reduceEqDiff, Nat.reduceAdd, Nat.reduceSub, Nat.reduceLT, Nat.reduceLeDiff, Nat.reduceMul, h15l0_0, q15l0_0, a15l0b, rc_WaterNode, c13d, g161, g163, c17d]
    · rw [if_neg c17] at h
      have c17d := df c17
      cases h
      refine ⟨0, fun n hn => ?_⟩
      simp (maxSteps := 2000000) only [W, reduceIte, Nat.reduceEqDiff, Nat.reduceAdd, Nat.reduceSub, Nat.reduceLT, Nat.reduceLeDiff, Nat.reduceMul, h15l0_0, q15l0_0, a15l0b, rc_WaterNode, c13d, g161, g163, c17d]
noncomputable def h15l1_0 (z0 : Bool) (z1 : Bool) (v21 : List WaterNode) (v22 : List WaterConduit) : (Int) → Env × Heap
  | v20 => ([(1, .ptr 2 0), (4, .int .i64 v20)], [.row z0 true (rowC v21), .row z1 true (rowC v22), .row true false [.slice 0 0 v21.length v21.length 4 false, .slice 1 0 v22.length v22.length 6 false]])
noncomputable def q15l1_0 (z0 : Bool) (z1 : Bool) (v21 : List WaterNode) (v22 : List WaterConduit) : ((Unit) ⊕ (Unit)) → AExit × Env × Heap
  | .inl (_) => (.exit 2, [(2, .undef)], [.row z0 true (rowC v21), .row z1 true (rowC v22)])
  | .inr (_) => (.ret, [(2, .bool false)], [.row z0 true (rowC v21), .row z1 true (rowC v22)])
theorem k15l1_0 (z0 : Bool) (z1 : Bool) (v21 : List WaterNode) (v22 : List WaterConduit) (s : Int) (o : (Unit) ⊕ (Unit)) (h : L15l1_0 v21 v22 s = some o) : Ev fun n => loopAt [1, 4] [2] a15l1b (ex tab n) 2 (h15l1_0 z0 z1 v21 v22 s) = some (q15l1_0 z0 z1 v21 v22 o) := by
  refine iter_sound (S15l1_0 v21 v22) [1, 4] [2] a15l1b 2 (h15l1_0 z0 z1 v21 v22) (q15l1_0 z0 z1 v21 v22) ?_ _ _ _ h
  rintro v20 z h
  simp only [S15l1_0] at h
  by_cases c23 : (v22.length : Int) ≤ v20
  · rw [if_pos c23] at h
    have c23d := dt c23
    cases h
    refine ⟨0, fun n hn => ?_⟩
    simp (maxSteps := 2000000) only [W, reduceIte, Nat.reduceEqDiff, Nat.reduceAdd, Nat.reduceSub, Nat.reduceLT, Nat.reduceLeDiff, Nat.reduceMul, h15l1_0, q15l1_0, a15l1b, rc_WaterConduit, c23d]
  · rw [if_neg c23] at h
    have c23d := df c23
    obtain ⟨j24, x25, g26, h⟩ := un2 h
    obtain ⟨g261, g262⟩ := geti_in g26
    have g263 := ac_WaterConduit g262
    try simp only [wn] at g261
    by_cases c27 : (x25.fName.size : Int) ≤ 20
    · rw [if_pos c27] at h
      have c27d := dt c27
      cases h
      refine ⟨0, fun n hn => ?_⟩
      simp (maxSteps := 2000000) only [W, reduceIte, Nat.reduceEqDiff, Nat.reduceAdd, Nat.reduceSub, Nat.reduceLT, Nat.reduceLeDiff, Nat.reduceMul, h15l1_0, q15l1_0, a15l1b, rc_WaterConduit, c23d, g261, g263, c27d]
    · rw [if_neg c27] at h
      have c27d := df c27
      cases h
      refine ⟨0, fun n hn => ?_⟩
      simp (maxSteps := 2000000) only [W, reduceIte, Nat.reduceEqDiff, Nat.reduceAdd, Nat.reduceSub, Nat.reduceLT, Nat.reduceLeDiff, Nat.reduceMul, h15l1_0, q15l1_0, a15l1b, rc_WaterConduit, c23d, g261, g263, c27d]
theorem c15_0 (z0 : Bool) (z1 : Bool) (v6 : List WaterNode) (v7 : List WaterConduit) (r30 : Bool) (h : F15_0 v6 v7 = some r30) : Ev fun n => (ex tab n).call 15 [.agg [.slice 0 0 v6.length v6.length 4 false, .slice 1 0 v7.length v7.length 6 false]] [.row z0 true (rowC v6), .row z1 true (rowC v7)] = some (.bool r30, [.row z0 true (rowC v6), .row z1 true (rowC v7)]) := by
  unfold F15_0 at h
  by_cases c8 : (v6.length : Int) ≤ 12
  · rw [if_pos c8] at h
    have c8d := dt c8
    by_cases c9 : (v7.length : Int) ≤ 16
    · rw [if_pos c9] at h
      have c9d := dt c9
      obtain ⟨g18_, g18, h⟩ := un1 h
      rcases g18_ with _ | _
      · dsimp only at h
        have kN19 := k15l0_0 z0 z1 v6 v7 0 _ g18
        obtain ⟨N19, kN19⟩ := kN19
        obtain ⟨g28_, g28, h⟩ := un1 h
        rcases g28_ with _ | _
        · dsimp only at h
          have kN29 := k15l1_0 z0 z1 v6 v7 0 _ g28
          obtain ⟨N29, kN29⟩ := kN29
          cases h
          refine ev_call (fn := a15) rfl ⟨N19 + N29, fun n hn => ?_⟩
          have kN19 := kN19 n (by omega)
          simp (maxSteps := 2000000) only [h15l0_0, q15l0_0, wn, rc_WaterNode] at kN19
          have kN29 := kN29 n (by omega)
          simp (maxSteps := 2000000) only [h15l1_0, q15l1_0, wn, rc_WaterConduit, rc_WaterNode] at kN29
          simp (maxSteps := 2000000) only [W, reduceIte, Nat.reduceEqDiff, Nat.reduceAdd, Nat.reduceSub, Nat.reduceLT, Nat.reduceLeDiff, Nat.reduceMul, a15, a15l0, a15l1, rc_WaterConduit, rc_WaterNode, c8d, c9d, kN19, kN29, @x_loopAt]
        · dsimp only at h
          have kN29 := k15l1_0 z0 z1 v6 v7 0 _ g28
          obtain ⟨N29, kN29⟩ := kN29
          cases h
          refine ev_call (fn := a15) rfl ⟨N19 + N29, fun n hn => ?_⟩
          have kN19 := kN19 n (by omega)
          simp (maxSteps := 2000000) only [h15l0_0, q15l0_0, wn, rc_WaterNode] at kN19
          have kN29 := kN29 n (by omega)
          simp (maxSteps := 2000000) only [h15l1_0, q15l1_0, wn, rc_WaterConduit, rc_WaterNode] at kN29
          simp (maxSteps := 2000000) only [W, reduceIte, Nat.reduceEqDiff, Nat.reduceAdd, Nat.reduceSub, Nat.reduceLT, Nat.reduceLeDiff, Nat.reduceMul, a15, a15l0, a15l1, rc_WaterConduit, rc_WaterNode, c8d, c9d, kN19, kN29, @x_loopAt]
      · dsimp only at h
        have kN19 := k15l0_0 z0 z1 v6 v7 0 _ g18
        obtain ⟨N19, kN19⟩ := kN19
        cases h
        refine ev_call (fn := a15) rfl ⟨N19, fun n hn => ?_⟩
        have kN19 := kN19 n (by omega)
        simp (maxSteps := 2000000) only [h15l0_0, q15l0_0, wn, rc_WaterConduit, rc_WaterNode] at kN19
        simp (maxSteps := 2000000) only [W, reduceIte, Nat.reduceEqDiff, Nat.reduceAdd, Nat.reduceSub, Nat.reduceLT, Nat.reduceLeDiff, Nat.reduceMul, a15, a15l0, a15l1, rc_WaterConduit, rc_WaterNode, c8d, c9d, kN19, @x_loopAt]
    · rw [if_neg c9] at h
      have c9d := df c9
      cases h
      refine ev_call (fn := a15) rfl ⟨0, fun n hn => ?_⟩
      simp (maxSteps := 2000000) only [W, reduceIte, Nat.reduceEqDiff, Nat.reduceAdd, Nat.reduceSub, Nat.reduceLT, Nat.reduceLeDiff, Nat.reduceMul, a15, a15l0, a15l1, rc_WaterConduit, rc_WaterNode, c8d, c9d, @x_loopAt]
  · rw [if_neg c8] at h
    have c8d := df c8
    cases h
    refine ev_call (fn := a15) rfl ⟨0, fun n hn => ?_⟩
    simp (maxSteps := 2000000) only [W, reduceIte, Nat.reduceEqDiff, Nat.reduceAdd, Nat.reduceSub, Nat.reduceLT, Nat.reduceLeDiff, Nat.reduceMul, a15, a15l0, a15l1, rc_WaterConduit, rc_WaterNode, c8d, @x_loopAt]
theorem c17_0 (z0 : Bool) (z1 : Bool) (v35 : List WaterNode) (v36 : List WaterConduit) (h : F17_0 v35 v36 = some ()) : Ev fun n => (ex tab n).call 17 [.agg [.slice 0 0 v35.length v35.length 4 false, .slice 1 0 v36.length v36.length 6 false]] [.row z0 true (rowC v35), .row z1 true (rowC v36)] = some (.agg [.slice 2 0 v35.length v35.length 4 false, .slice 3 0 v36.length v36.length 6 false], [.row z0 true (rowC v35), .row z1 true (rowC v36), .row true true (rowC v35), .row true true (rowC v36)]) := by
  unfold F17_0 at h
  obtain ⟨g37, h⟩ := un_roomd h
  obtain ⟨g38, h⟩ := un_roomd h
  cases h
  refine ev_call (fn := a17) rfl ⟨0, fun n hn => ?_⟩
  simp (maxSteps := 2000000) only [W, reduceIte, Nat.reduceEqDiff, Nat.reduceAdd, Nat.reduceSub, Nat.reduceLT, Nat.reduceLeDiff, Nat.reduceMul, a17, rc_WaterConduit, rc_WaterNode, g37, g38, wd]
theorem c72_0 (v45 : Bool) (v46 : Int) (r48 : Int) (h : F72_0 v45 v46 = some r48) : Ev fun n => (ex tab n).call 72 [.bool v45, .int .i64 v46] [] = some (.int .i64 r48, []) := by
  unfold F72_0 at h
  by_cases c47 : v45 = true
  · rw [if_pos c47] at h
    have c47d := c47
    cases h
    refine ev_call (fn := a72) rfl ⟨0, fun n hn => ?_⟩
    simp (maxSteps := 2000000) only [W, reduceIte, Nat.reduceEqDiff, Nat.reduceAdd, Nat.reduceSub, Nat.reduceLT, Nat.reduceLeDiff, Nat.reduceMul, a72, c47d]
  · rw [if_neg c47] at h
    have c47d := bf c47
    cases h
    refine ev_call (fn := a72) rfl ⟨0, fun n hn => ?_⟩
    simp (maxSteps := 2000000) only [W, reduceIte, Nat.reduceEqDiff, Nat.reduceAdd, Nat.reduceSub, Nat.reduceLT, Nat.reduceLeDiff, Nat.reduceMul, a72, c47d]
noncomputable def h71l0_0 (z0 : Bool) (v56 : Int) (v58 : List Int) : (Int) → Env × Heap
  | v57 => ([(5, .slice 0 0 v58.length v58.length 1 false), (6, .int .i64 v56), (7, .int .i64 v57)], [.row z0 true (rowC v58)])
noncomputable def q71l0_0 (z0 : Bool) (v56 : Int) (v58 : List Int) : ((Unit) ⊕ (Int)) → AExit × Env × Heap
  | .inl (_) => (.exit 0, [(2, .undef)], [.row z0 true (rowC v58)])
  | .inr (r64) => (.ret, [(2, .int .i64 r64)], [.row z0 true (rowC v58)])
theorem k71l0_0 (z0 : Bool) (v56 : Int) (v58 : List Int) (s : Int) (o : (Unit) ⊕ (Int)) (h : L71l0_0 v56 v58 s = some o) : Ev fun n => loopAt [5, 6, 7] [2] a71l0b (ex tab n) 1 (h71l0_0 z0 v56 v58 s) = some (q71l0_0 z0 v56 v58 o) := by
  refine iter_sound (S71l0_0 v56 v58) [5, 6, 7] [2] a71l0b 1 (h71l0_0 z0 v56 v58) (q71l0_0 z0 v56 v58) ?_ _ _ _ h
  rintro v57 z h
  simp only [S71l0_0] at h
  by_cases c59 : v56 ≤ v57
  · rw [if_pos c59] at h
    have c59d := dt c59
    cases h
    refine ⟨0, fun n hn => ?_⟩
    simp (maxSteps := 2000000) only [W, reduceIte, Nat.reduceEqDiff, Nat.reduceAdd, Nat.reduceSub, Nat.reduceLT, Nat.reduceLeDiff, Nat.reduceMul, h71l0_0, q71l0_0, a71l0b, c59d]
  · rw [if_neg c59] at h
    have c59d := df c59
    obtain ⟨j60, x61, g62, h⟩ := un2 h
    obtain ⟨g621, g622⟩ := geti_in g62
    have g623 := ac_Int g622
    try simp only [wn] at g621
    by_cases c63 : x61 = 0
    · rw [if_pos c63] at h
      have c63d := dt c63
      cases h
      refine ⟨0, fun n hn => ?_⟩
      simp (maxSteps := 2000000) only [W, reduceIte, Nat.reduceEqDiff, Nat.reduceAdd, Nat.reduceSub, Nat.reduceLT, Nat.reduceLeDiff, Nat.reduceMul, h71l0_0, q71l0_0, a71l0b, c59d, g621, g623, c63d]
    · rw [if_neg c63] at h
      have c63d := df c63
      cases h
      refine ⟨0, fun n hn => ?_⟩
      simp (maxSteps := 2000000) only [W, reduceIte, Nat.reduceEqDiff, Nat.reduceAdd, Nat.reduceSub, Nat.reduceLT, Nat.reduceLeDiff, Nat.reduceMul, h71l0_0, q71l0_0, a71l0b, c59d, g621, g623, c63d]
theorem c71_0 (z0 : Bool) (v55 : List Int) (r68 : Int) (h : F71_0 v55 = some r68) : Ev fun n => (ex tab n).call 71 [.slice 0 0 v55.length v55.length 1 false] [.row z0 true (rowC v55)] = some (.int .i64 r68, [.row z0 true (rowC v55)]) := by
  unfold F71_0 at h
  obtain ⟨g65_, g65, h⟩ := un1 h
  rcases g65_ with _ | r67
  · dsimp only at h
    have kN66 := k71l0_0 z0 (v55.length : Int) v55 0 _ g65
    obtain ⟨N66, kN66⟩ := kN66
    cases h
    refine ev_call (fn := a71) rfl ⟨N66, fun n hn => ?_⟩
    have kN66 := kN66 n (by omega)
    simp (maxSteps := 2000000) only [h71l0_0, q71l0_0, wn] at kN66
    simp (maxSteps := 2000000) only [W, reduceIte, Nat.reduceEqDiff, Nat.reduceAdd, Nat.reduceSub, Nat.reduceLT, Nat.reduceLeDiff, Nat.reduceMul, a71, a71l0, kN66, @x_loopAt]
  · dsimp only at h
    have kN66 := k71l0_0 z0 (v55.length : Int) v55 0 _ g65
    obtain ⟨N66, kN66⟩ := kN66
    cases h
    refine ev_call (fn := a71) rfl ⟨N66, fun n hn => ?_⟩
    have kN66 := kN66 n (by omega)
    simp (maxSteps := 2000000) only [h71l0_0, q71l0_0, wn] at kN66
    simp (maxSteps := 2000000) only [W, reduceIte, Nat.reduceEqDiff, Nat.reduceAdd, Nat.reduceSub, Nat.reduceLT, Nat.reduceLeDiff, Nat.reduceMul, a71, a71l0, kN66, @x_loopAt]
theorem c74_0 (v84 : Int) (v85 : Int) (v86 : Int) (r88 : Bool) (h : F74_0 v84 v85 v86 = some r88) : Ev fun n => (ex tab n).call 74 [.int .i64 v84, .int .i64 v85, .int .i64 v86] [] = some (.bool r88, []) := by
  unfold F74_0 at h
  by_cases c87 : v85 ≤ v84
  · rw [if_pos c87] at h
    have c87d := dt c87
    cases h
    refine ev_call (fn := a74) rfl ⟨0, fun n hn => ?_⟩
    simp (maxSteps := 2000000) only [W, reduceIte, Nat.reduceEqDiff, Nat.reduceAdd, Nat.reduceSub, Nat.reduceLT, Nat.reduceLeDiff, Nat.reduceMul, a74, c87d]
  · rw [if_neg c87] at h
    have c87d := df c87
    cases h
    refine ev_call (fn := a74) rfl ⟨0, fun n hn => ?_⟩
    simp (maxSteps := 2000000) only [W, reduceIte, Nat.reduceEqDiff, Nat.reduceAdd, Nat.reduceSub, Nat.reduceLT, Nat.reduceLeDiff, Nat.reduceMul, a74, c87d]
theorem c73_0 (v82 : Int) (v83 : Int) (r92 : Bool) (h : F73_0 v82 v83 = some r92) : Ev fun n => (ex tab n).call 73 [.int .i64 v82, .int .i64 v83] [] = some (.bool r92, []) := by
  unfold F73_0 at h
  obtain ⟨r91, g89, h⟩ := un1 h
  obtain ⟨N90, kN90⟩ := c74_0 v82 (aw .i64 (0 - v83)) v83 _ g89
  cases h
  refine ev_call (fn := a73) rfl ⟨N90, fun n hn => ?_⟩
  have kN90 := kN90 n (by omega)
  try simp (maxSteps := 2000000) only [wn] at kN90
  simp (maxSteps := 2000000) only [W, reduceIte, Nat.reduceEqDiff, Nat.reduceAdd, Nat.reduceSub, Nat.reduceLT, Nat.reduceLeDiff, Nat.reduceMul, a73, kN90]
noncomputable def h75l0_0 (v102 : ByteArray) (v103 : Int) (v105 : List UInt8) : (Int) → Env × Heap
  | v104 => ([(0, .str v102), (7, .slice 0 0 v105.length v105.length 1 false), (8, .int .i64 v103), (9, .int .i64 v104)], [.row false true (rowC v105)])
noncomputable def q75l0_0 (v102 : ByteArray) (v103 : Int) (v105 : List UInt8) : ((Unit) ⊕ (Unit)) → AExit × Env × Heap
  | .inl (_) => (.exit 0, [(0, .str v102), (2, .undef)], [])
  | .inr (_) => (.ret, [(0, .str v102), (2, .bool false)], [])
theorem k75l0_0 (v102 : ByteArray) (v103 : Int) (v105 : List UInt8) (s : Int) (o : (Unit) ⊕ (Unit)) (h : L75l0_0 v102 v103 v105 s = some o) : Ev fun n => loopAt [0, 7, 8, 9] [0, 2] a75l0b (ex tab n) 0 (h75l0_0 v102 v103 v105 s) = some (q75l0_0 v102 v103 v105 o) := by
  refine iter_sound (S75l0_0 v102 v103 v105) [0, 7, 8, 9] [0, 2] a75l0b 0 (h75l0_0 v102 v103 v105) (q75l0_0 v102 v103 v105) ?_ _ _ _ h
  rintro v104 z h
  simp only [S75l0_0] at h
  by_cases c106 : v103 ≤ v104
  · rw [if_pos c106] at h
    have c106d := dt c106
    cases h
    refine ⟨0, fun n hn => ?_⟩
    simp (maxSteps := 2000000) only [W, reduceIte, Nat.reduceEqDiff, Nat.reduceAdd, Nat.reduceSub, Nat.reduceLT, Nat.reduceLeDiff, Nat.reduceMul, h75l0_0, q75l0_0, a75l0b, c106d]
  · rw [if_neg c106] at h
    have c106d := df c106
    obtain ⟨j107, x108, g109, h⟩ := un2 h
    obtain ⟨g1091, g1092⟩ := geti_in g109
    have g1093 := ac_UInt8 g1092
    try simp only [wn] at g1091
    obtain ⟨r112, g110, h⟩ := un1 h
    obtain ⟨N111, kN111⟩ := c74_0 (aw .i64 (x108.toNat : Int)) 97 122 _ g110
    by_cases c113 : r112 = true
    · rw [if_pos c113] at h
      have c113d := c113
      cases h
      refine ⟨N111, fun n hn => ?_⟩
      have kN111 := kN111 n (by omega)
      try simp (maxSteps := 2000000) only [wn] at kN111
      simp (maxSteps := 2000000) only [W, reduceIte, Nat.reduceEqDiff, Nat.reduceAdd, Nat.reduceSub, Nat.reduceLT, Nat.reduceLeDiff, Nat.reduceMul, h75l0_0, q75l0_0, a75l0b, c106d, g1091, g1093, kN111, c113d]
    · rw [if_neg c113] at h
      have c113d := bf c113
      obtain ⟨r116, g114, h⟩ := un1 h
      obtain ⟨N115, kN115⟩ := c74_0 (aw .i64 (x108.toNat : Int)) 65 90 _ g114
      by_cases c117 : r116 = true
      · rw [if_pos c117] at h
        have c117d := c117
        cases h
        refine ⟨N111 + N115, fun n hn => ?_⟩
        have kN111 := kN111 n (by omega)
        try simp (maxSteps := 2000000) only [wn] at kN111
        have kN115 := kN115 n (by omega)
        try simp (maxSteps := 2000000) only [wn] at kN115
        simp (maxSteps := 2000000) only [W, reduceIte, Nat.reduceEqDiff, Nat.reduceAdd, Nat.reduceSub, Nat.reduceLT, Nat.reduceLeDiff, Nat.reduceMul, h75l0_0, q75l0_0, a75l0b, c106d, g1091, g1093, kN111, c113d, kN115, c117d]
      · rw [if_neg c117] at h
        have c117d := bf c117
        by_cases c118 : v104 = 0
        · rw [if_pos c118] at h
          have c118d := dt c118
          cases h
          refine ⟨N111 + N115, fun n hn => ?_⟩
          have kN111 := kN111 n (by omega)
          try simp (maxSteps := 2000000) only [wn] at kN111
          have kN115 := kN115 n (by omega)
          try simp (maxSteps := 2000000) only [wn] at kN115
          simp (maxSteps := 2000000) only [W, reduceIte, Nat.reduceEqDiff, Nat.reduceAdd, Nat.reduceSub, Nat.reduceLT, Nat.reduceLeDiff, Nat.reduceMul, h75l0_0, q75l0_0, a75l0b, c106d, g1091, g1093, kN111, c113d, kN115, c117d, c118d]
        · rw [if_neg c118] at h
          have c118d := df c118
          by_cases c119 : (x108.toNat : Int) = 45
          · rw [if_pos c119] at h
            have c119d := dt c119
            cases h
            refine ⟨N111 + N115, fun n hn => ?_⟩
            have kN111 := kN111 n (by omega)
            try simp (maxSteps := 2000000) only [wn] at kN111
            have kN115 := kN115 n (by omega)
            try simp (maxSteps := 2000000) only [wn] at kN115
            simp (maxSteps := 2000000) only [W, reduceIte, Nat.reduceEqDiff, Nat.reduceAdd, Nat.reduceSub, Nat.reduceLT, Nat.reduceLeDiff, Nat.reduceMul, h75l0_0, q75l0_0, a75l0b, c106d, g1091, g1093, kN111, c113d, kN115, c117d, c118d, c119d]
          · rw [if_neg c119] at h
            have c119d := df c119
            obtain ⟨r122, g120, h⟩ := un1 h
            obtain ⟨N121, kN121⟩ := c74_0 (aw .i64 (x108.toNat : Int)) 48 57 _ g120
            by_cases c123 : r122 = true
            · rw [if_pos c123] at h
              have c123d := c123
              cases h
              refine ⟨N111 + N115 + N121, fun n hn => ?_⟩
              have kN111 := kN111 n (by omega)
              try simp (maxSteps := 2000000) only [wn] at kN111
              have kN115 := kN115 n (by omega)
              try simp (maxSteps := 2000000) only [wn] at kN115
              have kN121 := kN121 n (by omega)
              try simp (maxSteps := 2000000) only [wn] at kN121
              simp (maxSteps := 2000000) only [W, reduceIte, Nat.reduceEqDiff, Nat.reduceAdd, Nat.reduceSub, Nat.reduceLT, Nat.reduceLeDiff, Nat.reduceMul, h75l0_0, q75l0_0, a75l0b, c106d, g1091, g1093, kN111, c113d, kN115, c117d, c118d, c119d, kN121, c123d]
            · rw [if_neg c123] at h
              have c123d := bf c123
              cases h
              refine ⟨N111 + N115 + N121, fun n hn => ?_⟩
              have kN111 := kN111 n (by omega)
              try simp (maxSteps := 2000000) only [wn] at kN111
              have kN115 := kN115 n (by omega)
              try simp (maxSteps := 2000000) only [wn] at kN115
              have kN121 := kN121 n (by omega)
              try simp (maxSteps := 2000000) only [wn] at kN121
              simp (maxSteps := 2000000) only [W, reduceIte, Nat.reduceEqDiff, Nat.reduceAdd, Nat.reduceSub, Nat.reduceLT, Nat.reduceLeDiff, Nat.reduceMul, h75l0_0, q75l0_0, a75l0b, c106d, g1091, g1093, kN111, c113d, kN115, c117d, c118d, c119d, kN121, c123d]
theorem c75_0 (v100 : ByteArray) (r129 : Bool) (h : F75_0 v100 = some r129) : Ev fun n => (ex tab n).call 75 [.str v100] [] = some (.bool r129, []) := by
  unfold F75_0 at h
  obtain ⟨g101, h⟩ := un_roomS h
  try simp only [Nat.reduceLeDiff] at g101
  obtain ⟨g124_, g124, h⟩ := un1 h
  rcases g124_ with _ | _
  · dsimp only at h
    have kN125 := k75l0_0 v100 (v100.size : Int) (v100.data.toList) 0 _ g124
    obtain ⟨N125, kN125⟩ := kN125
    obtain ⟨r128, g126, h⟩ := un1 h
    obtain ⟨N127, kN127⟩ := c74_0 (v100.size : Int) 1 12 _ g126
    cases h
    refine ev_call (fn := a75) rfl ⟨N125 + N127, fun n hn => ?_⟩
    have kN125 := kN125 n (by omega)
    simp (maxSteps := 2000000) only [h75l0_0, q75l0_0, wn] at kN125
    have kN127 := kN127 n (by omega)
    try simp (maxSteps := 2000000) only [wn] at kN127
    simp (maxSteps := 2000000) only [W, reduceIte, Nat.reduceEqDiff, Nat.reduceAdd, Nat.reduceSub, Nat.reduceLT, Nat.reduceLeDiff, Nat.reduceMul, a75, a75l0, g101, kN125, kN127, @x_loopAt]
  · dsimp only at h
    have kN125 := k75l0_0 v100 (v100.size : Int) (v100.data.toList) 0 _ g124
    obtain ⟨N125, kN125⟩ := kN125
    cases h
    refine ev_call (fn := a75) rfl ⟨N125, fun n hn => ?_⟩
    have kN125 := kN125 n (by omega)
    simp (maxSteps := 2000000) only [h75l0_0, q75l0_0, wn] at kN125
    simp (maxSteps := 2000000) only [W, reduceIte, Nat.reduceEqDiff, Nat.reduceAdd, Nat.reduceSub, Nat.reduceLT, Nat.reduceLeDiff, Nat.reduceMul, a75, a75l0, g101, kN125, @x_loopAt]
end Go.AI
end
section
/-
  Functions, walked through: guidevanebase.IsName, guidevanebase.HasText, guidevanebase.Within, guidevaneref02.nodeErr.
-/
set_option linter.unusedVariables false
set_option linter.unusedSimpArgs false
set_option maxRecDepth 100000
set_option maxHeartbeats 4000000
namespace Go.AI
noncomputable def h131l0_0 (v371 : ByteArray) : (Int) → Env × Heap
  | v372 => ([(0, .str v371), (3, .int .i64 v372)], [])
noncomputable def q131l0_0 (v371 : ByteArray) : ((Unit) ⊕ (Unit)) → AExit × Env × Heap
  | .inl (_) => (.exit 0, [(2, .undef)], [])
  | .inr (_) => (.ret, [(2, .bool false)], [])
theorem k131l0_0 (v371 : ByteArray) (s : Int) (o : (Unit) ⊕ (Unit)) (h : L131l0_0 v371 s = some o) : Ev fun n => loopAt [0, 3] [2] a131l0b (ex tab n) 0 (h131l0_0 v371 s) = some (q131l0_0 v371 o) := by
  refine iter_sound (S131l0_0 v371) [0, 3] [2] a131l0b 0 (h131l0_0 v371) (q131l0_0 v371) ?_ _ _ _ h
  rintro v372 z h
  simp only [S131l0_0] at h
  by_cases c373 : (v371.size : Int) ≤ v372
  · rw [if_pos c373] at h
    have c373d := dt c373
    cases h
    refine ⟨0, fun n hn => ?_⟩
    simp (maxSteps := 2000000) only [W, reduceIte, Nat.reduceEqDiff, Nat.reduceAdd, Nat.reduceSub, Nat.reduceLT, Nat.reduceLeDiff, Nat.reduceMul, h131l0_0, q131l0_0, a131l0b, c373d]
  · rw [if_neg c373] at h
    have c373d := df c373
    obtain ⟨j374, b375, g376, h⟩ := un2 h
    obtain ⟨g3761, g3762⟩ := geti_in g376
    try simp only [wn] at g3761
    by_cases c377 : 97 ≤ (b375.toNat : Int)
    · rw [if_pos c377] at h
      have c377d := dt c377
      by_cases c378 : (b375.toNat : Int) ≤ 122
      · rw [if_pos c378] at h
        have c378d := dt c378
        cases h
        refine ⟨0, fun n hn => ?_⟩
        simp (maxSteps := 2000000) only [W, reduceIte, Nat.reduceEqDiff, Nat.reduceAdd, Nat.reduceSub, Nat.reduceLT, Nat.reduceLeDiff, Nat.reduceMul, h131l0_0, q131l0_0, a131l0b, c373d, g3761, g3762, c377d, c378d]
      · rw [if_neg c378] at h
        have c378d := df c378
        by_cases c379 : 65 ≤ (b375.toNat : Int)
        · rw [if_pos c379] at h
          have c379d := dt c379
          by_cases c380 : (b375.toNat : Int) ≤ 90
          · rw [if_pos c380] at h
            have c380d := dt c380
            cases h
            refine ⟨0, fun n hn => ?_⟩
            simp (maxSteps := 2000000) only [W, reduceIte, Nat.reduceEqDiff, Nat.reduceAdd, Nat.reduceSub, Nat.reduceLT, Nat.reduceLeDiff, Nat.reduceMul, h131l0_0, q131l0_0, a131l0b, c373d, g3761, g3762, c377d, c378d, c379d, c380d]
          · rw [if_neg c380] at h
            have c380d := df c380
            by_cases c381 : v372 = 0
            · rw [if_pos c381] at h
              have c381d := dt c381
              cases h
              refine ⟨0, fun n hn => ?_⟩
              simp (maxSteps := 2000000) only [W, reduceIte, Nat.reduceEqDiff, Nat.reduceAdd, Nat.reduceSub, Nat.reduceLT, Nat.reduceLeDiff, Nat.reduceMul, h131l0_0, q131l0_0, a131l0b, c373d, g3761, g3762, c377d, c378d, c379d, c380d, c381d]
            · rw [if_neg c381] at h
              have c381d := df c381
              by_cases c382 : (b375.toNat : Int) = 45
              · rw [if_pos c382] at h
                have c382d := dt c382
                cases h
                refine ⟨0, fun n hn => ?_⟩
                simp (maxSteps := 2000000) only [W, reduceIte, Nat.reduceEqDiff, Nat.reduceAdd, Nat.reduceSub, Nat.reduceLT, Nat.reduceLeDiff, Nat.reduceMul, h131l0_0, q131l0_0, a131l0b, c373d, g3761, g3762, c377d, c378d, c379d, c380d, c381d, c382d]
              · rw [if_neg c382] at h
                have c382d := df c382
                by_cases c383 : 48 ≤ (b375.toNat : Int)
                · rw [if_pos c383] at h
                  have c383d := dt c383
                  by_cases c384 : (b375.toNat : Int) ≤ 57
                  · rw [if_pos c384] at h
                    have c384d := dt c384
                    cases h
                    refine ⟨0, fun n hn => ?_⟩
                    simp (maxSteps := 2000000) only [W, reduceIte, Nat.reduceEqDiff, Nat.reduceAdd, Nat.reduceSub, Nat.reduceLT, Nat.reduceLeDiff, Nat.reduceMul, h131l0_0, q131l0_0, a131l0b, c373d, g3761, g3762, c377d, c378d, c379d, c380d, c381d, c382d, c383d, c384d]
                  · rw [if_neg c384] at h
                    have c384d := df c384
                    cases h
                    refine ⟨0, fun n hn => ?_⟩
                    simp (maxSteps := 2000000) only [W, reduceIte, Nat.reduceEqDiff, Nat.reduceAdd, Nat.reduceSub, Nat.reduceLT, Nat.reduceLeDiff, Nat.reduceMul, h131l0_0, q131l0_0, a131l0b, c373d, g3761, g3762, c377d, c378d, c379d, c380d, c381d, c382d, c383d, c384d]
                · rw [if_neg c383] at h
                  have c383d := df c383
                  cases h
                  refine ⟨0, fun n hn => ?_⟩
                  simp (maxSteps := 2000000) only [W, reduceIte, Nat.reduceEqDiff, Nat.reduceAdd, Nat.reduceSub, Nat.reduceLT, Nat.reduceLeDiff, Nat.reduceMul, h131l0_0, q131l0_0, a131l0b, c373d, g3761, g3762, c377d, c378d, c379d, c380d, c381d, c382d, c383d]
        · rw [if_neg c379] at h
          have c379d := df c379
          by_cases c385 : v372 = 0
          · rw [if_pos c385] at h
            have c385d := dt c385
            cases h
            refine ⟨0, fun n hn => ?_⟩
            simp (maxSteps := 2000000) only [W, reduceIte, Nat.reduceEqDiff, Nat.reduceAdd, Nat.reduceSub, Nat.reduceLT, Nat.reduceLeDiff, Nat.reduceMul, h131l0_0, q131l0_0, a131l0b, c373d, g3761, g3762, c377d, c378d, c379d, c385d]
          · rw [if_neg c385] at h
            have c385d := df c385
            by_cases c386 : (b375.toNat : Int) = 45
            · rw [if_pos c386] at h
              have c386d := dt c386
              cases h
              refine ⟨0, fun n hn => ?_⟩
              simp (maxSteps := 2000000) only [W, reduceIte, Nat.reduceEqDiff, Nat.reduceAdd, Nat.reduceSub, Nat.reduceLT, Nat.reduceLeDiff, Nat.reduceMul, h131l0_0, q131l0_0, a131l0b, c373d, g3761, g3762, c377d, c378d, c379d, c385d, c386d]
            · rw [if_neg c386] at h
              have c386d := df c386
              by_cases c387 : 48 ≤ (b375.toNat : Int)
              · rw [if_pos c387] at h
                have c387d := dt c387
                by_cases c388 : (b375.toNat : Int) ≤ 57
                · rw [if_pos c388] at h
                  have c388d := dt c388
                  cases h
                  refine ⟨0, fun n hn => ?_⟩
                  simp (maxSteps := 2000000) only [W, reduceIte, Nat.reduceEqDiff, Nat.reduceAdd, Nat.reduceSub, Nat.reduceLT, Nat.reduceLeDiff, Nat.reduceMul, h131l0_0, q131l0_0, a131l0b, c373d, g3761, g3762, c377d, c378d, c379d, c385d, c386d, c387d, c388d]
                · rw [if_neg c388] at h
                  have c388d := df c388
                  cases h
                  refine ⟨0, fun n hn => ?_⟩
                  simp (maxSteps := 2000000) only [W, reduceIte, Nat.reduceEqDiff, Nat.reduceAdd, Nat.reduceSub, Nat.reduceLT, Nat.reduceLeDiff, Nat.reduceMul, h131l0_0, q131l0_0, a131l0b, c373d, g3761, g3762, c377d, c378d, c379d, c385d, c386d, c387d, c388d]
              · rw [if_neg c387] at h
                have c387d := df c387
                cases h
                refine ⟨0, fun n hn => ?_⟩
                simp (maxSteps := 2000000) only [W, reduceIte, Nat.reduceEqDiff, Nat.reduceAdd, Nat.reduceSub, Nat.reduceLT, Nat.reduceLeDiff, Nat.reduceMul, h131l0_0, q131l0_0, a131l0b, c373d, g3761, g3762, c377d, c378d, c379d, c385d, c386d, c387d]
    · rw [if_neg c377] at h
      have c377d := df c377
      by_cases c389 : 65 ≤ (b375.toNat : Int)
      · rw [if_pos c389] at h
        have c389d := dt c389
        by_cases c390 : (b375.toNat : Int) ≤ 90
        · rw [if_pos c390] at h
          have c390d := dt c390
          cases h
          refine ⟨0, fun n hn => ?_⟩
          simp (maxSteps := 2000000) only [W, reduceIte, Nat.reduceEqDiff, Nat.reduceAdd, Nat.reduceSub, Nat.reduceLT, Nat.reduceLeDiff, Nat.reduceMul, h131l0_0, q131l0_0, a131l0b, c373d, g3761, g3762, c377d, c389d, c390d]
        · rw [if_neg c390] at h
          have c390d := df c390
          by_cases c391 : v372 = 0
          · rw [if_pos c391] at h
            have c391d := dt c391
            cases h
            refine ⟨0, fun n hn => ?_⟩
            simp (maxSteps := 2000000) only [W, reduceIte, Nat.reduceEqDiff, Nat.reduceAdd, Nat.reduceSub, Nat.reduceLT, Nat.reduceLeDiff, Nat.reduceMul, h131l0_0, q131l0_0, a131l0b, c373d, g3761, g3762, c377d, c389d, c390d, c391d]
          · rw [if_neg c391] at h
            have c391d := df c391
            by_cases c392 : (b375.toNat : Int) = 45
            · rw [if_pos c392] at h
              have c392d := dt c392
              cases h
              refine ⟨0, fun n hn => ?_⟩
              simp (maxSteps := 2000000) only [W, reduceIte, Nat.reduceEqDiff, Nat.reduceAdd, Nat.reduceSub, Nat.reduceLT, Nat.reduceLeDiff, Nat.reduceMul, h131l0_0, q131l0_0, a131l0b, c373d, g3761, g3762, c377d, c389d, c390d, c391d, c392d]
            · rw [if_neg c392] at h
              have c392d := df c392
              by_cases c393 : 48 ≤ (b375.toNat : Int)
              · rw [if_pos c393] at h
                have c393d := dt c393
                by_cases c394 : (b375.toNat : Int) ≤ 57
                · rw [if_pos c394] at h
                  have c394d := dt c394
                  cases h
                  refine ⟨0, fun n hn => ?_⟩
                  simp (maxSteps := 2000000) only [W, reduceIte, Nat.reduceEqDiff, Nat.reduceAdd, Nat.reduceSub, Nat.reduceLT, Nat.reduceLeDiff, Nat.reduceMul, h131l0_0, q131l0_0, a131l0b, c373d, g3761, g3762, c377d, c389d, c390d, c391d, c392d, c393d, c394d]
                · rw [if_neg c394] at h
                  have c394d := df c394
                  cases h
                  refine ⟨0, fun n hn => ?_⟩
                  simp (maxSteps := 2000000) only [W, reduceIte, Nat.reduceEqDiff, Nat.reduceAdd, Nat.reduceSub, Nat.reduceLT, Nat.reduceLeDiff, Nat.reduceMul, h131l0_0, q131l0_0, a131l0b, c373d, g3761, g3762, c377d, c389d, c390d, c391d, c392d, c393d, c394d]
              · rw [if_neg c393] at h
                have c393d := df c393
                cases h
                refine ⟨0, fun n hn => ?_⟩
                simp (maxSteps := 2000000) only [W, reduceIte, Nat.reduceEqDiff, Nat.reduceAdd, Nat.reduceSub, Nat.reduceLT, Nat.reduceLeDiff, Nat.reduceMul, h131l0_0, q131l0_0, a131l0b, c373d, g3761, g3762, c377d, c389d, c390d, c391d, c392d, c393d]
      · rw [if_neg c389] at h
        have c389d := df c389
        by_cases c395 : v372 = 0
        · rw [if_pos c395] at h
          have c395d := dt c395
          cases h
          refine ⟨0, fun n hn => ?_⟩
          simp (maxSteps := 2000000) only [W, reduceIte, Nat.reduceEqDiff, Nat.reduceAdd, Nat.reduceSub, Nat.reduceLT, Nat.reduceLeDiff, Nat.reduceMul, h131l0_0, q131l0_0, a131l0b, c373d, g3761, g3762, c377d, c389d, c395d]
        · rw [if_neg c395] at h
          have c395d := df c395
          by_cases c396 : (b375.toNat : Int) = 45
          · rw [if_pos c396] at h
            have c396d := dt c396
            cases h
            refine ⟨0, fun n hn => ?_⟩
            simp (maxSteps := 2000000) only [W, reduceIte, Nat.reduceEqDiff, Nat.reduceAdd, Nat.reduceSub, Nat.reduceLT, Nat.reduceLeDiff, Nat.reduceMul, h131l0_0, q131l0_0, a131l0b, c373d, g3761, g3762, c377d, c389d, c395d, c396d]
          · rw [if_neg c396] at h
            have c396d := df c396
            by_cases c397 : 48 ≤ (b375.toNat : Int)
            · rw [if_pos c397] at h
              have c397d := dt c397
              by_cases c398 : (b375.toNat : Int) ≤ 57
              · rw [if_pos c398] at h
                have c398d := dt c398
                cases h
                refine ⟨0, fun n hn => ?_⟩
                simp (maxSteps := 2000000) only [W, reduceIte, Nat.reduceEqDiff, Nat.reduceAdd, Nat.reduceSub, Nat.reduceLT, Nat.reduceLeDiff, Nat.reduceMul, h131l0_0, q131l0_0, a131l0b, c373d, g3761, g3762, c377d, c389d, c395d, c396d, c397d, c398d]
              · rw [if_neg c398] at h
                have c398d := df c398
                cases h
                refine ⟨0, fun n hn => ?_⟩
                simp (maxSteps := 2000000) only [W, reduceIte, Nat.reduceEqDiff, Nat.reduceAdd, Nat.reduceSub, Nat.reduceLT, Nat.reduceLeDiff, Nat.reduceMul, h131l0_0, q131l0_0, a131l0b, c373d, g3761, g3762, c377d, c389d, c395d, c396d, c397d, c398d]
            · rw [if_neg c397] at h
              have c397d := df c397
              cases h
              refine ⟨0, fun n hn => ?_⟩
              simp (maxSteps := 2000000) only [W, reduceIte, Nat.reduceEqDiff, Nat.reduceAdd, Nat.reduceSub, Nat.reduceLT, Nat.reduceLeDiff, Nat.reduceMul, h131l0_0, q131l0_0, a131l0b, c373d, g3761, g3762, c377d, c389d, c395d, c396d, c397d]
theorem c131_0 (v368 : ByteArray) (r401 : Bool) (h : F131_0 v368 = some r401) : Ev fun n => (ex tab n).call 131 [.str v368] [] = some (.bool r401, []) := by
  unfold F131_0 at h
  by_cases c369 : 1 ≤ (v368.size : Int)
  · rw [if_pos c369] at h
    have c369d := dt c369
    by_cases c370 : (v368.size : Int) ≤ 12
    · rw [if_pos c370] at h
      have c370d := dt c370
      obtain ⟨g399_, g399, h⟩ := un1 h
      rcases g399_ with _ | _
      · dsimp only at h
        have kN400 := k131l0_0 v368 0 _ g399
        obtain ⟨N400, kN400⟩ := kN400
        cases h
        refine ev_call (fn := a131) rfl ⟨N400, fun n hn => ?_⟩
        have kN400 := kN400 n (by omega)
        simp (maxSteps := 2000000) only [h131l0_0, q131l0_0, wn] at kN400
        simp (maxSteps := 2000000) only [W, reduceIte, Nat.reduceEqDiff, Nat.reduceAdd, Nat.reduceSub, Nat.reduceLT, Nat.reduceLeDiff, Nat.reduceMul, a131, a131l0, c369d, c370d, kN400, @x_loopAt]
      · dsimp only at h
        have kN400 := k131l0_0 v368 0 _ g399
        obtain ⟨N400, kN400⟩ := kN400
        cases h
        refine ev_call (fn := a131) rfl ⟨N400, fun n hn => ?_⟩
        have kN400 := kN400 n (by omega)
        simp (maxSteps := 2000000) only [h131l0_0, q131l0_0, wn] at kN400
        simp (maxSteps := 2000000) only [W, reduceIte, Nat.reduceEqDiff, Nat.reduceAdd, Nat.reduceSub, Nat.reduceLT, Nat.reduceLeDiff, Nat.reduceMul, a131, a131l0, c369d, c370d, kN400, @x_loopAt]
    · rw [if_neg c370] at h
      have c370d := df c370
      cases h
      refine ev_call (fn := a131) rfl ⟨0, fun n hn => ?_⟩
      simp (maxSteps := 2000000) only [W, reduceIte, Nat.reduceEqDiff, Nat.reduceAdd, Nat.reduceSub, Nat.reduceLT, Nat.reduceLeDiff, Nat.reduceMul, a131, a131l0, c369d, c370d, @x_loopAt]
  · rw [if_neg c369] at h
    have c369d := df c369
    cases h
    refine ev_call (fn := a131) rfl ⟨0, fun n hn => ?_⟩
    simp (maxSteps := 2000000) only [W, reduceIte, Nat.reduceEqDiff, Nat.reduceAdd, Nat.reduceSub, Nat.reduceLT, Nat.reduceLeDiff, Nat.reduceMul, a131, a131l0, c369d, @x_loopAt]
noncomputable def h132l0_0 (z0 : Bool) (v408 : ByteArray) (v410 : List ByteArray) : (Int) → Env × Heap
  | v409 => ([(0, .slice 0 0 v410.length v410.length 1 false), (1, .str v408), (5, .int .i64 v409)], [.row z0 true (rowC v410)])
noncomputable def q132l0_0 (z0 : Bool) (v408 : ByteArray) (v410 : List ByteArray) : ((Unit) ⊕ (Unit)) → AExit × Env × Heap
  | .inl (_) => (.exit 0, [(4, .undef)], [.row z0 true (rowC v410)])
  | .inr (_) => (.ret, [(4, .bool true)], [.row z0 true (rowC v410)])
theorem k132l0_0 (z0 : Bool) (v408 : ByteArray) (v410 : List ByteArray) (s : Int) (o : (Unit) ⊕ (Unit)) (h : L132l0_0 v408 v410 s = some o) : Ev fun n => loopAt [0, 1, 5] [4] a132l0b (ex tab n) 1 (h132l0_0 z0 v408 v410 s) = some (q132l0_0 z0 v408 v410 o) := by
  refine iter_sound (S132l0_0 v408 v410) [0, 1, 5] [4] a132l0b 1 (h132l0_0 z0 v408 v410) (q132l0_0 z0 v408 v410) ?_ _ _ _ h
  rintro v409 z h
  simp only [S132l0_0] at h
  by_cases c411 : (v410.length : Int) ≤ v409
  · rw [if_pos c411] at h
    have c411d := dt c411
    cases h
    refine ⟨0, fun n hn => ?_⟩
    simp (maxSteps := 2000000) only [W, reduceIte, Nat.reduceEqDiff, Nat.reduceAdd, Nat.reduceSub, Nat.reduceLT, Nat.reduceLeDiff, Nat.reduceMul, h132l0_0, q132l0_0, a132l0b, c411d]
  · rw [if_neg c411] at h
    have c411d := df c411
    obtain ⟨j412, x413, g414, h⟩ := un2 h
    obtain ⟨g4141, g4142⟩ := geti_in g414
    have g4143 := ac_ByteArray g4142
    try simp only [wn] at g4141
    by_cases c415 : x413 = v408
    · rw [if_pos c415] at h
      have c415d := dt c415
      cases h
      refine ⟨0, fun n hn => ?_⟩
      simp (maxSteps := 2000000) only [W, reduceIte, Nat.reduceEqDiff, Nat.reduceAdd, Nat.reduceSub, Nat.reduceLT, Nat.reduceLeDiff, Nat.reduceMul, h132l0_0, q132l0_0, a132l0b, c411d, g4141, g4143, c415d]
    · rw [if_neg c415] at h
      have c415d := df c415
      cases h
      refine ⟨0, fun n hn => ?_⟩
      simp (maxSteps := 2000000) only [W, reduceIte, Nat.reduceEqDiff, Nat.reduceAdd, Nat.reduceSub, Nat.reduceLT, Nat.reduceLeDiff, Nat.reduceMul, h132l0_0, q132l0_0, a132l0b, c411d, g4141, g4143, c415d]
theorem c132_0 (z0 : Bool) (v406 : ByteArray) (v407 : List ByteArray) (r418 : Bool) (h : F132_0 v406 v407 = some r418) : Ev fun n => (ex tab n).call 132 [.slice 0 0 v407.length v407.length 1 false, .str v406] [.row z0 true (rowC v407)] = some (.bool r418, [.row z0 true (rowC v407)]) := by
  unfold F132_0 at h
  obtain ⟨g416_, g416, h⟩ := un1 h
  rcases g416_ with _ | _
  · dsimp only at h
    have kN417 := k132l0_0 z0 v406 v407 0 _ g416
    obtain ⟨N417, kN417⟩ := kN417
    cases h
    refine ev_call (fn := a132) rfl ⟨N417, fun n hn => ?_⟩
    have kN417 := kN417 n (by omega)
    simp (maxSteps := 2000000) only [h132l0_0, q132l0_0, wn] at kN417
    simp (maxSteps := 2000000) only [W, reduceIte, Nat.reduceEqDiff, Nat.reduceAdd, Nat.reduceSub, Nat.reduceLT, Nat.reduceLeDiff, Nat.reduceMul, a132, a132l0, kN417, @x_loopAt]
  · dsimp only at h
    have kN417 := k132l0_0 z0 v406 v407 0 _ g416
    obtain ⟨N417, kN417⟩ := kN417
    cases h
    refine ev_call (fn := a132) rfl ⟨N417, fun n hn => ?_⟩
    have kN417 := kN417 n (by omega)
    simp (maxSteps := 2000000) only [h132l0_0, q132l0_0, wn] at kN417
    simp (maxSteps := 2000000) only [W, reduceIte, Nat.reduceEqDiff, Nat.reduceAdd, Nat.reduceSub, Nat.reduceLT, Nat.reduceLeDiff, Nat.reduceMul, a132, a132l0, kN417, @x_loopAt]
theorem c20_0 (v424 : Int) (v425 : Int) (v426 : Int) (r428 : Bool) (h : F20_0 v424 v425 v426 = some r428) : Ev fun n => (ex tab n).call 20 [.int .i64 v424, .int .i64 v425, .int .i64 v426] [] = some (.bool r428, []) := by
  unfold F20_0 at h
  by_cases c427 : v425 ≤ v424
  · rw [if_pos c427] at h
    have c427d := dt c427
    cases h
    refine ev_call (fn := a20) rfl ⟨0, fun n hn => ?_⟩
    simp (maxSteps := 2000000) only [W, reduceIte, Nat.reduceEqDiff, Nat.reduceAdd, Nat.reduceSub, Nat.reduceLT, Nat.reduceLeDiff, Nat.reduceMul, a20, c427d]
  · rw [if_neg c427] at h
    have c427d := df c427
    cases h
    refine ev_call (fn := a20) rfl ⟨0, fun n hn => ?_⟩
    simp (maxSteps := 2000000) only [W, reduceIte, Nat.reduceEqDiff, Nat.reduceAdd, Nat.reduceSub, Nat.reduceLT, Nat.reduceLeDiff, Nat.reduceMul, a20, c427d]
theorem c78_0 (z0 : Bool) (v363 : ByteArray) (v364 : Bool) (v365 : Int) (v366 : Int) (v367 : List ByteArray) (r439 : Int) (h : F78_0 v363 v364 v365 v366 v367 = some r439) : Ev fun n => (ex tab n).call 78 [.agg [.str v363, .bool v364, .int .i64 v365, .int .i64 v366], .slice 0 0 v367.length v367.length 1 false] [.row z0 true (rowC v367)] = some (.int .i64 r439, [.row z0 true (rowC v367)]) := by
  unfold F78_0 at h
  obtain ⟨r404, g402, h⟩ := un1 h
  obtain ⟨N403, kN403⟩ := c131_0 v363 _ g402
  by_cases c405 : r404 = true
  · rw [if_pos c405] at h
    have c405d := c405
    obtain ⟨r421, g419, h⟩ := un1 h
    obtain ⟨N420, kN420⟩ := c132_0 z0 v363 v367 _ g419
    by_cases c422 : r421 = true
    · rw [if_pos c422] at h
      have c422d := c422
      cases h
      refine ev_call (fn := a78) rfl ⟨N403 + N420, fun n hn => ?_⟩
      have kN403 := kN403 n (by omega)
      try simp (maxSteps := 2000000) only [wn] at kN403
      have kN420 := kN420 n (by omega)
      try simp (maxSteps := 2000000) only [wn] at kN420
      simp (maxSteps := 2000000) only [W, reduceIte, Nat.reduceEqDiff, Nat.reduceAdd, Nat.reduceSub, Nat.reduceLT, Nat.reduceLeDiff, Nat.reduceMul, a78, kN403, c405d, kN420, c422d]
    · rw [if_neg c422] at h
      have c422d := bf c422
      by_cases c423 : v364 = true
      · rw [if_pos c423] at h
        have c423d := c423
        obtain ⟨r431, g429, h⟩ := un1 h
        obtain ⟨N430, kN430⟩ := c20_0 v365 0 1000000 _ g429
        by_cases c432 : r431 = true
        · rw [if_pos c432] at h
          have c432d := c432
          by_cases c433 : v366 = 0
          · rw [if_pos c433] at h
            have c433d := dt c433
            cases h
            refine ev_call (fn := a78) rfl ⟨N403 + N420 + N430, fun n hn => ?_⟩
            have kN403 := kN403 n (by omega)
            try simp (maxSteps := 2000000) only [wn] at kN403
            have kN420 := kN420 n (by omega)
            try simp (maxSteps := 2000000) only [wn] at kN420
            have kN430 := kN430 n (by omega)
            try simp (maxSteps := 2000000) only [wn] at kN430
            simp (maxSteps := 2000000) only [W, reduceIte, Nat.reduceEqDiff, Nat.reduceAdd, Nat.reduceSub, Nat.reduceLT, Nat.reduceLeDiff, Nat.reduceMul, a78, kN403, c405d, kN420, c422d, c423d, kN430, c432d, c433d]
          · rw [if_neg c433] at h
            have c433d := df c433
            cases h
            refine ev_call (fn := a78) rfl ⟨N403 + N420 + N430, fun n hn => ?_⟩
            have kN403 := kN403 n (by omega)
            try simp (maxSteps := 2000000) only [wn] at kN403
            have kN420 := kN420 n (by omega)
            try simp (maxSteps := 2000000) only [wn] at kN420
            have kN430 := kN430 n (by omega)
            try simp (maxSteps := 2000000) only [wn] at kN430
            simp (maxSteps := 2000000) only [W, reduceIte, Nat.reduceEqDiff, Nat.reduceAdd, Nat.reduceSub, Nat.reduceLT, Nat.reduceLeDiff, Nat.reduceMul, a78, kN403, c405d, kN420, c422d, c423d, kN430, c432d, c433d]
        · rw [if_neg c432] at h
          have c432d := bf c432
          cases h
          refine ev_call (fn := a78) rfl ⟨N403 + N420 + N430, fun n hn => ?_⟩
          have kN403 := kN403 n (by omega)
          try simp (maxSteps := 2000000) only [wn] at kN403
          have kN420 := kN420 n (by omega)
          try simp (maxSteps := 2000000) only [wn] at kN420
          have kN430 := kN430 n (by omega)
          try simp (maxSteps := 2000000) only [wn] at kN430
          simp (maxSteps := 2000000) only [W, reduceIte, Nat.reduceEqDiff, Nat.reduceAdd, Nat.reduceSub, Nat.reduceLT, Nat.reduceLeDiff, Nat.reduceMul, a78, kN403, c405d, kN420, c422d, c423d, kN430, c432d]
      · rw [if_neg c423] at h
        have c423d := bf c423
        obtain ⟨r436, g434, h⟩ := un1 h
        obtain ⟨N435, kN435⟩ := c20_0 v366 (-10000) 10000 _ g434
        by_cases c437 : r436 = true
        · rw [if_pos c437] at h
          have c437d := c437
          by_cases c438 : v365 = 0
          · rw [if_pos c438] at h
            have c438d := dt c438
            cases h
            refine ev_call (fn := a78) rfl ⟨N403 + N420 + N435, fun n hn => ?_⟩
            have kN403 := kN403 n (by omega)
            try simp (maxSteps := 2000000) only [wn] at kN403
            have kN420 := kN420 n (by omega)
            try simp (maxSteps := 2000000) only [wn] at kN420
            have kN435 := kN435 n (by omega)
            try simp (maxSteps := 2000000) only [wn] at kN435
            simp (maxSteps := 2000000) only [W, reduceIte, Nat.reduceEqDiff, Nat.reduceAdd, Nat.reduceSub, Nat.reduceLT, Nat.reduceLeDiff, Nat.reduceMul, a78, kN403, c405d, kN420, c422d, c423d, kN435, c437d, c438d]
          · rw [if_neg c438] at h
            have c438d := df c438
            cases h
            refine ev_call (fn := a78) rfl ⟨N403 + N420 + N435, fun n hn => ?_⟩
            have kN403 := kN403 n (by omega)
            try simp (maxSteps := 2000000) only [wn] at kN403
            have kN420 := kN420 n (by omega)
            try simp (maxSteps := 2000000) only [wn] at kN420
            have kN435 := kN435 n (by omega)
            try simp (maxSteps := 2000000) only [wn] at kN435
            simp (maxSteps := 2000000) only [W, reduceIte, Nat.reduceEqDiff, Nat.reduceAdd, Nat.reduceSub, Nat.reduceLT, Nat.reduceLeDiff, Nat.reduceMul, a78, kN403, c405d, kN420, c422d, c423d, kN435, c437d, c438d]
        · rw [if_neg c437] at h
          have c437d := bf c437
          cases h
          refine ev_call (fn := a78) rfl ⟨N403 + N420 + N435, fun n hn => ?_⟩
          have kN403 := kN403 n (by omega)
          try simp (maxSteps := 2000000) only [wn] at kN403
          have kN420 := kN420 n (by omega)
          try simp (maxSteps := 2000000) only [wn] at kN420
          have kN435 := kN435 n (by omega)
          try simp (maxSteps := 2000000) only [wn] at kN435
          simp (maxSteps := 2000000) only [W, reduceIte, Nat.reduceEqDiff, Nat.reduceAdd, Nat.reduceSub, Nat.reduceLT, Nat.reduceLeDiff, Nat.reduceMul, a78, kN403, c405d, kN420, c422d, c423d, kN435, c437d]
  · rw [if_neg c405] at h
    have c405d := bf c405
    cases h
    refine ev_call (fn := a78) rfl ⟨N403, fun n hn => ?_⟩
    have kN403 := kN403 n (by omega)
    try simp (maxSteps := 2000000) only [wn] at kN403
    simp (maxSteps := 2000000) only [W, reduceIte, Nat.reduceEqDiff, Nat.reduceAdd, Nat.reduceSub, Nat.reduceLT, Nat.reduceLeDiff, Nat.reduceMul, a78, kN403, c405d]
noncomputable def h19l0_0 (z0 : Bool) (z1 : Bool) (v356 : List WaterNode) (v357 : List WaterConduit) : (Int × (List ByteArray)) → Env × Heap
  | (v355, v358) => ([(1, .ptr 2 0), (4, .slice 3 0 v358.length v358.length 1 false), (5, .int .i64 v355)], [.row z0 true (rowC v356), .row z1 true (rowC v357), .row true false [.slice 0 0 v356.length v356.length 4 false, .slice 1 0 v357.length v357.length 6 false], .row true true (rowC v358)])
noncomputable def q19l0_0 (z0 : Bool) (z1 : Bool) (v356 : List WaterNode) (v357 : List WaterConduit) : ((Unit) ⊕ (Int × Int)) → AExit × Env × Heap
  | .inl (_) => (.exit 0, [(1, .ptr 2 0), (2, .undef), (3, .undef)], [.row z0 true (rowC v356), .row z1 true (rowC v357), .row true false [.slice 0 0 v356.length v356.length 4 false, .slice 1 0 v357.length v357.length 6 false]])
  | .inr (r445, r446) => (.ret, [(1, .ptr 2 0), (2, .int .i64 r445), (3, .int .i64 r446)], [.row z0 true (rowC v356), .row z1 true (rowC v357), .row true false [.slice 0 0 v356.length v356.length 4 false, .slice 1 0 v357.length v357.length 6 false]])
theorem k19l0_0 (z0 : Bool) (z1 : Bool) (v356 : List WaterNode) (v357 : List WaterConduit) (s : Int × (List ByteArray)) (o : (Unit) ⊕ (Int × Int)) (h : L19l0_0 v356 v357 s = some o) : Ev fun n => loopAt [1, 4, 5] [1, 2, 3] a19l0b (ex tab n) 2 (h19l0_0 z0 z1 v356 v357 s) = some (q19l0_0 z0 z1 v356 v357 o) := by
  refine iter_sound (S19l0_0 v356 v357) [1, 4, 5] [1, 2, 3] a19l0b 2 (h19l0_0 z0 z1 v356 v357) (q19l0_0 z0 z1 v356 v357) ?_ _ _ _ h
  rintro ⟨v355, v358⟩ z h
  simp only [S19l0_0] at h
  by_cases c359 : (v356.length : Int) ≤ v355
  · rw [if_pos c359] at h
    have c359d := dt c359
    cases h
    refine ⟨0, fun n hn => ?_⟩
    simp (maxSteps := 2000000) only [W, reduceIte, Nat.reduceEqDiff, Nat.reduceAdd, Nat.reduceSub, Nat.reduceLT, Nat.reduceLeDiff, Nat.reduceMul, h19l0_0, q19l0_0, a19l0b, rc_WaterNode, c359d]
  · rw [if_neg c359] at h
    have c359d := df c359
    obtain ⟨j360, x361, g362, h⟩ := un2 h
    obtain ⟨g3621, g3622⟩ := geti_in g362
    have g3623 := ac_WaterNode g3622
    try simp only [wn] at g3621
    obtain ⟨r442, g440, h⟩ := un1 h
    obtain ⟨N441, kN441⟩ := c78_0 true x361.fName x361.fLake x361.fHead x361.fDraw v358 _ g440
    by_cases c443 : r442 = 0
    · rw [if_pos c443] at h
      have c443d := dt c443
      obtain ⟨g444, h⟩ := un_roomd h
      cases h
      refine ⟨N441, fun n hn => ?_⟩
      have kN441 := kN441 n (by omega)
      try simp (maxSteps := 2000000) only [wn, rc_WaterNode] at kN441
      simp (maxSteps := 2000000) only [W, reduceIte, Nat.reduceEqDiff, Nat.reduceAdd, Nat.reduceSub, Nat.reduceLT, Nat.reduceLeDiff, Nat.reduceMul, h19l0_0, q19l0_0, a19l0b, rc_WaterNode, c359d, g3621, g3623, kN441, c443d, g444]
    · rw [if_neg c443] at h
      have c443d := df c443
      cases h
      refine ⟨N441, fun n hn => ?_⟩
      have kN441 := kN441 n (by omega)
      try simp (maxSteps := 2000000) only [wn, rc_WaterNode] at kN441
      simp (maxSteps := 2000000) only [W, reduceIte, Nat.reduceEqDiff, Nat.reduceAdd, Nat.reduceSub, Nat.reduceLT, Nat.reduceLeDiff, Nat.reduceMul, h19l0_0, q19l0_0, a19l0b, rc_WaterNode, c359d, g3621, g3623, kN441, c443d]
end Go.AI
end
section
/-
  Functions, walked through: guidevaneref02.conduitErr, guidevaneref02.CheckNet, guidevaneref02.FlowErr, guidevanebase.Size, guidevaneref02.Loss.
-/
set_option linter.unusedVariables false
set_option linter.unusedSimpArgs false
set_option maxRecDepth 100000
set_option maxHeartbeats 4000000
namespace Go.AI
theorem c79_0 (z0 : Bool) (z1 : Bool) (z2 : Bool) (v457 : ByteArray) (v458 : Int) (v459 : Int) (v460 : Int) (v461 : Bool) (v462 : Bool) (v463 : List WaterNode) (v464 : List WaterConduit) (v465 : List ByteArray) (r489 : Int) (h : F79_0 v457 v458 v459 v460 v461 v462 v463 v464 v465 = some r489) : Ev fun n => (ex tab n).call 79 [.agg [.slice 0 0 v463.length v463.length 4 false, .slice 1 0 v464.length v464.length 6 false], .agg [.str v457, .int .i64 v458, .int .i64 v459, .int .i64 v460, .bool v461, .bool v462], .slice 2 0 v465.length v465.length 1 false] [.row z0 true (rowC v463), .row z1 true (rowC v464), .row z2 true (rowC v465)] = some (.int .i64 r489, [.row z0 true (rowC v463), .row z1 true (rowC v464), .row z2 true (rowC v465)]) := by
  unfold F79_0 at h
  obtain ⟨r468, g466, h⟩ := un1 h
  obtain ⟨N467, kN467⟩ := c131_0 v457 _ g466
  by_cases c469 : r468 = true
  · rw [if_pos c469] at h
    have c469d := c469
    obtain ⟨r472, g470, h⟩ := un1 h
    obtain ⟨N471, kN471⟩ := c132_0 z2 v457 v465 _ g470
    by_cases c473 : r472 = true
    · rw [if_pos c473] at h
      have c473d := c473
      cases h
      refine ev_call (fn := a79) rfl ⟨N467 + N471, fun n hn => ?_⟩
      have kN467 := kN467 n (by omega)
      try simp (maxSteps := 2000000) only [wn] at kN467
      have kN471 := kN471 n (by omega)
      try simp (maxSteps := 2000000) only [wn] at kN471
      simp (maxSteps := 2000000) only [W, reduceIte, Nat.reduceEqDiff, Nat.reduceAdd, Nat.reduceSub, Nat.reduceLT, Nat.reduceLeDiff, Nat.reduceMul, a79, kN467, c469d, kN471, c473d]
    · rw [if_neg c473] at h
      have c473d := bf c473
      obtain ⟨r476, g474, h⟩ := un1 h
      obtain ⟨N475, kN475⟩ := c20_0 v458 0 (aw .i64 ((v463.length : Int) - 1)) _ g474
      by_cases c477 : r476 = true
      · rw [if_pos c477] at h
        have c477d := c477
        obtain ⟨r480, g478, h⟩ := un1 h
        obtain ⟨N479, kN479⟩ := c20_0 v459 0 (aw .i64 ((v463.length : Int) - 1)) _ g478
        by_cases c481 : r480 = true
        · rw [if_pos c481] at h
          have c481d := c481
          by_cases c482 : v458 = v459
          · rw [if_pos c482] at h
            have c482d := dt c482
            cases h
            refine ev_call (fn := a79) rfl ⟨N467 + N471 + N475 + N479, fun n hn => ?_⟩
            have kN467 := kN467 n (by omega)
            try simp (maxSteps := 2000000) only [wn] at kN467
            have kN471 := kN471 n (by omega)
            try simp (maxSteps := 2000000) only [wn] at kN471
            have kN475 := kN475 n (by omega)
            try simp (maxSteps := 2000000) only [wn] at kN475
            have kN479 := kN479 n (by omega)
            try simp (maxSteps := 2000000) only [wn] at kN479
            simp (maxSteps := 2000000) only [W, reduceIte, Nat.reduceEqDiff, Nat.reduceAdd, Nat.reduceSub, Nat.reduceLT, Nat.reduceLeDiff, Nat.reduceMul, a79, kN467, c469d, kN471, c473d, kN475, c477d, kN479, c481d, c482d]
          · rw [if_neg c482] at h
            have c482d := df c482
            obtain ⟨r485, g483, h⟩ := un1 h
            obtain ⟨N484, kN484⟩ := c20_0 v460 0 1000 _ g483
            by_cases c486 : r485 = true
            · rw [if_pos c486] at h
              have c486d := c486
              by_cases c487 : v461 = true
              · rw [if_pos c487] at h
                have c487d := c487
                cases h
                refine ev_call (fn := a79) rfl ⟨N467 + N471 + N475 + N479 + N484, fun n hn => ?_⟩
                have kN467 := kN467 n (by omega)
                try simp (maxSteps := 2000000) only [wn] at kN467
                have kN471 := kN471 n (by omega)
                try simp (maxSteps := 2000000) only [wn] at kN471
                have kN475 := kN475 n (by omega)
                try simp (maxSteps := 2000000) only [wn] at kN475
                have kN479 := kN479 n (by omega)
                try simp (maxSteps := 2000000) only [wn] at kN479
                have kN484 := kN484 n (by omega)
                try simp (maxSteps := 2000000) only [wn] at kN484
                simp (maxSteps := 2000000) only [W, reduceIte, Nat.reduceEqDiff, Nat.reduceAdd, Nat.reduceSub, Nat.reduceLT, Nat.reduceLeDiff, Nat.reduceMul, a79, kN467, c469d, kN471, c473d, kN475, c477d, kN479, c481d, c482d, kN484, c486d, c487d]
              · rw [if_neg c487] at h
                have c487d := bf c487
                by_cases c488 : v462 = true
                · rw [if_pos c488] at h
                  have c488d := c488
                  cases h
                  refine ev_call (fn := a79) rfl ⟨N467 + N471 + N475 + N479 + N484, fun n hn => ?_⟩
                  have kN467 := kN467 n (by omega)
                  try simp (maxSteps := 2000000) only [wn] at kN467
                  have kN471 := kN471 n (by omega)
                  try simp (maxSteps := 2000000) only [wn] at kN471
                  have kN475 := kN475 n (by omega)
                  try simp (maxSteps := 2000000) only [wn] at kN475
                  have kN479 := kN479 n (by omega)
                  try simp (maxSteps := 2000000) only [wn] at kN479
                  have kN484 := kN484 n (by omega)
                  try simp (maxSteps := 2000000) only [wn] at kN484
                  simp (maxSteps := 2000000) only [W, reduceIte, Nat.reduceEqDiff, Nat.reduceAdd, Nat.reduceSub, Nat.reduceLT, Nat.reduceLeDiff, Nat.reduceMul, a79, kN467, c469d, kN471, c473d, kN475, c477d, kN479, c481d, c482d, kN484, c486d, c487d, c488d]
                · rw [if_neg c488] at h
                  have c488d := bf c488
                  cases h
                  refine ev_call (fn := a79) rfl ⟨N467 + N471 + N475 + N479 + N484, fun n hn => ?_⟩
                  have kN467 := kN467 n (by omega)
                  try simp (maxSteps := 2000000) only [wn] at kN467
                  have kN471 := kN471 n (by omega)
                  try simp (maxSteps := 2000000) only [wn] at kN471
                  have kN475 := kN475 n (by omega)
                  try simp (maxSteps := 2000000) only [wn] at kN475
                  have kN479 := kN479 n (by omega)
                  try simp (maxSteps := 2000000) only [wn] at kN479
                  have kN484 := kN484 n (by omega)
                  try simp (maxSteps := 2000000) only [wn] at kN484
                  simp (maxSteps := 2000000) only [W, reduceIte, Nat.reduceEqDiff, Nat.reduceAdd, Nat.reduceSub, Nat.reduceLT, Nat.reduceLeDiff, Nat.reduceMul, a79, kN467, c469d, kN471, c473d, kN475, c477d, kN479, c481d, c482d, kN484, c486d, c487d, c488d]
            · rw [if_neg c486] at h
              have c486d := bf c486
              cases h
              refine ev_call (fn := a79) rfl ⟨N467 + N471 + N475 + N479 + N484, fun n hn => ?_⟩
              have kN467 := kN467 n (by omega)
              try simp (maxSteps := 2000000) only [wn] at kN467
              have kN471 := kN471 n (by omega)
              try simp (maxSteps := 2000000) only [wn] at kN471
              have kN475 := kN475 n (by omega)
              try simp (maxSteps := 2000000) only [wn] at kN475
              have kN479 := kN479 n (by omega)
              try simp (maxSteps := 2000000) only [wn] at kN479
              have kN484 := kN484 n (by omega)
              try simp (maxSteps := 2000000) only [wn] at kN484
              simp (maxSteps := 2000000) only [W, reduceIte, Nat.reduceEqDiff, Nat.reduceAdd, Nat.reduceSub, Nat.reduceLT, Nat.reduceLeDiff, Nat.reduceMul, a79, kN467, c469d, kN471, c473d, kN475, c477d, kN479, c481d, c482d, kN484, c486d]
        · rw [if_neg c481] at h
          have c481d := bf c481
          cases h
          refine ev_call (fn := a79) rfl ⟨N467 + N471 + N475 + N479, fun n hn => ?_⟩
          have kN467 := kN467 n (by omega)
          try simp (maxSteps := 2000000) only [wn] at kN467
          have kN471 := kN471 n (by omega)
          try simp (maxSteps := 2000000) only [wn] at kN471
          have kN475 := kN475 n (by omega)
          try simp (maxSteps := 2000000) only [wn] at kN475
          have kN479 := kN479 n (by omega)
          try simp (maxSteps := 2000000) only [wn] at kN479
          simp (maxSteps := 2000000) only [W, reduceIte, Nat.reduceEqDiff, Nat.reduceAdd, Nat.reduceSub, Nat.reduceLT, Nat.reduceLeDiff, Nat.reduceMul, a79, kN467, c469d, kN471, c473d, kN475, c477d, kN479, c481d]
      · rw [if_neg c477] at h
        have c477d := bf c477
        cases h
        refine ev_call (fn := a79) rfl ⟨N467 + N471 + N475, fun n hn => ?_⟩
        have kN467 := kN467 n (by omega)
        try simp (maxSteps := 2000000) only [wn] at kN467
        have kN471 := kN471 n (by omega)
        try simp (maxSteps := 2000000) only [wn] at kN471
        have kN475 := kN475 n (by omega)
        try simp (maxSteps := 2000000) only [wn] at kN475
        simp (maxSteps := 2000000) only [W, reduceIte, Nat.reduceEqDiff, Nat.reduceAdd, Nat.reduceSub, Nat.reduceLT, Nat.reduceLeDiff, Nat.reduceMul, a79, kN467, c469d, kN471, c473d, kN475, c477d]
  · rw [if_neg c469] at h
    have c469d := bf c469
    cases h
    refine ev_call (fn := a79) rfl ⟨N467, fun n hn => ?_⟩
    have kN467 := kN467 n (by omega)
    try simp (maxSteps := 2000000) only [wn] at kN467
    simp (maxSteps := 2000000) only [W, reduceIte, Nat.reduceEqDiff, Nat.reduceAdd, Nat.reduceSub, Nat.reduceLT, Nat.reduceLeDiff, Nat.reduceMul, a79, kN467, c469d]
noncomputable def h19l1_0 (z0 : Bool) (z1 : Bool) (v450 : List WaterNode) (v451 : List WaterConduit) : (Int × (List ByteArray)) → Env × Heap
  | (v449, v452) => ([(1, .ptr 2 0), (4, .slice 3 0 v452.length v452.length 1 false), (7, .int .i64 v449)], [.row z0 true (rowC v450), .row z1 true (rowC v451), .row true false [.slice 0 0 v450.length v450.length 4 false, .slice 1 0 v451.length v451.length 6 false], .row true true (rowC v452)])
noncomputable def q19l1_0 (z0 : Bool) (z1 : Bool) (v450 : List WaterNode) (v451 : List WaterConduit) : ((Unit) ⊕ (Int × Int)) → AExit × Env × Heap
  | .inl (_) => (.exit 2, [(2, .undef), (3, .undef)], [.row z0 true (rowC v450), .row z1 true (rowC v451)])
  | .inr (r495, r496) => (.ret, [(2, .int .i64 r495), (3, .int .i64 r496)], [.row z0 true (rowC v450), .row z1 true (rowC v451)])
theorem k19l1_0 (z0 : Bool) (z1 : Bool) (v450 : List WaterNode) (v451 : List WaterConduit) (s : Int × (List ByteArray)) (o : (Unit) ⊕ (Int × Int)) (h : L19l1_0 v450 v451 s = some o) : Ev fun n => loopAt [1, 4, 7] [2, 3] a19l1b (ex tab n) 2 (h19l1_0 z0 z1 v450 v451 s) = some (q19l1_0 z0 z1 v450 v451 o) := by
  refine iter_sound (S19l1_0 v450 v451) [1, 4, 7] [2, 3] a19l1b 2 (h19l1_0 z0 z1 v450 v451) (q19l1_0 z0 z1 v450 v451) ?_ _ _ _ h
  rintro ⟨v449, v452⟩ z h
  simp only [S19l1_0] at h
  by_cases c453 : (v451.length : Int) ≤ v449
  · rw [if_pos c453] at h
    have c453d := dt c453
    cases h
    refine ⟨0, fun n hn => ?_⟩
    simp (maxSteps := 2000000) only [W, reduceIte, Nat.reduceEqDiff, Nat.reduceAdd, Nat.reduceSub, Nat.reduceLT, Nat.reduceLeDiff, Nat.reduceMul, h19l1_0, q19l1_0, a19l1b, rc_WaterConduit, c453d, wd]
  · rw [if_neg c453] at h
    have c453d := df c453
    obtain ⟨j454, x455, g456, h⟩ := un2 h
    obtain ⟨g4561, g4562⟩ := geti_in g456
    have g4563 := ac_WaterConduit g4562
    try simp only [wn] at g4561
    obtain ⟨r492, g490, h⟩ := un1 h
    obtain ⟨N491, kN491⟩ := c79_0 z0 z1 true x455.fName x455.fFrom x455.fTo x455.fResist x455.fValve x455.fOpen v450 v451 v452 _ g490
    by_cases c493 : r492 = 0
    · rw [if_pos c493] at h
      have c493d := dt c493
      obtain ⟨g494, h⟩ := un_roomd h
      cases h
      refine ⟨N491, fun n hn => ?_⟩
      have kN491 := kN491 n (by omega)
      try simp (maxSteps := 2000000) only [wn, rc_WaterConduit] at kN491
      simp (maxSteps := 2000000) only [W, reduceIte, Nat.reduceEqDiff, Nat.reduceAdd, Nat.reduceSub, Nat.reduceLT, Nat.reduceLeDiff, Nat.reduceMul, h19l1_0, q19l1_0, a19l1b, rc_WaterConduit, c453d, g4561, g4563, kN491, c493d, g494, wd]
    · rw [if_neg c493] at h
      have c493d := df c493
      cases h
      refine ⟨N491, fun n hn => ?_⟩
      have kN491 := kN491 n (by omega)
      try simp (maxSteps := 2000000) only [wn, rc_WaterConduit] at kN491
      simp (maxSteps := 2000000) only [W, reduceIte, Nat.reduceEqDiff, Nat.reduceAdd, Nat.reduceSub, Nat.reduceLT, Nat.reduceLeDiff, Nat.reduceMul, h19l1_0, q19l1_0, a19l1b, rc_WaterConduit, c453d, g4561, g4563, kN491, c493d, wd]
theorem c19_0 (z0 : Bool) (z1 : Bool) (v349 : List WaterNode) (v350 : List WaterConduit) (r503 : Int) (r504 : Int) (h : F19_0 v349 v350 = some (r503, r504)) : Ev fun n => (ex tab n).call 19 [.agg [.slice 0 0 v349.length v349.length 4 false, .slice 1 0 v350.length v350.length 6 false]] [.row z0 true (rowC v349), .row z1 true (rowC v350)] = some (.tup [.int .i64 r503, .int .i64 r504], [.row z0 true (rowC v349), .row z1 true (rowC v350)]) := by
  unfold F19_0 at h
  by_cases c351 : (v349.length : Int) = 0
  · rw [if_pos c351] at h
    have c351d := dt c351
    cases h
    refine ev_call (fn := a19) rfl ⟨0, fun n hn => ?_⟩
    simp (maxSteps := 2000000) only [W, reduceIte, Nat.reduceEqDiff, Nat.reduceAdd, Nat.reduceSub, Nat.reduceLT, Nat.reduceLeDiff, Nat.reduceMul, a19, a19l0, a19l1, rc_WaterConduit, rc_WaterNode, c351d, @x_loopAt]
  · rw [if_neg c351] at h
    have c351d := df c351
    by_cases c352 : (v350.length : Int) = 0
    · rw [if_pos c352] at h
      have c352d := dt c352
      cases h
      refine ev_call (fn := a19) rfl ⟨0, fun n hn => ?_⟩
      simp (maxSteps := 2000000) only [W, reduceIte, Nat.reduceEqDiff, Nat.reduceAdd, Nat.reduceSub, Nat.reduceLT, Nat.reduceLeDiff, Nat.reduceMul, a19, a19l0, a19l1, rc_WaterConduit, rc_WaterNode, c351d, c352d, @x_loopAt]
    · rw [if_neg c352] at h
      have c352d := df c352
      by_cases c353 : (v349.length : Int) ≤ 10
      · rw [if_pos c353] at h
        have c353d := dt c353
        by_cases c354 : (v350.length : Int) ≤ 14
        · rw [if_pos c354] at h
          have c354d := dt c354
          obtain ⟨g447_, g447, h⟩ := un1 h
          rcases g447_ with _ | ⟨r501, r502⟩
          · dsimp only at h
            have kN448 := k19l0_0 z0 z1 v349 v350 (0, ([] : List ByteArray)) _ g447
            obtain ⟨N448, kN448⟩ := kN448
            obtain ⟨g497_, g497, h⟩ := un1 h
            rcases g497_ with _ | ⟨r499, r500⟩
            · dsimp only at h
              have kN498 := k19l1_0 z0 z1 v349 v350 (0, ([] : List ByteArray)) _ g497
              obtain ⟨N498, kN498⟩ := kN498
              cases h
              refine ev_call (fn := a19) rfl ⟨N448 + N498, fun n hn => ?_⟩
              have kN448 := kN448 n (by omega)
              simp (maxSteps := 2000000) only [h19l0_0, q19l0_0, wn, rc_WaterNode] at kN448
              have kN498 := kN498 n (by omega)
              simp (maxSteps := 2000000) only [h19l1_0, q19l1_0, wn, rc_WaterConduit, rc_WaterNode] at kN498
              simp (maxSteps := 2000000) only [W, reduceIte, Nat.reduceEqDiff, Nat.reduceAdd, Nat.reduceSub, Nat.reduceLT, Nat.reduceLeDiff, Nat.reduceMul, a19, a19l0, a19l1, rc_WaterConduit, rc_WaterNode, c351d, c352d, c353d, c354d, kN448, kN498, @x_loopAt]
            · dsimp only at h
              have kN498 := k19l1_0 z0 z1 v349 v350 (0, ([] : List ByteArray)) _ g497
              obtain ⟨N498, kN498⟩ := kN498
              cases h
              refine ev_call (fn := a19) rfl ⟨N448 + N498, fun n hn => ?_⟩
              have kN448 := kN448 n (by omega)
              simp (maxSteps := 2000000) only [h19l0_0, q19l0_0, wn, rc_WaterNode] at kN448
              have kN498 := kN498 n (by omega)
              simp (maxSteps := 2000000) only [h19l1_0, q19l1_0, wn, rc_WaterConduit, rc_WaterNode] at kN498
              simp (maxSteps := 2000000) only [W, reduceIte, Nat.reduceEqDiff, Nat.reduceAdd, Nat.reduceSub, Nat.reduceLT, Nat.reduceLeDiff, Nat.reduceMul, a19, a19l0, a19l1, rc_WaterConduit, rc_WaterNode, c351d, c352d, c353d, c354d, kN448, kN498, @x_loopAt]
          · dsimp only at h
            have kN448 := k19l0_0 z0 z1 v349 v350 (0, ([] : List ByteArray)) _ g447
            obtain ⟨N448, kN448⟩ := kN448
            cases h
            refine ev_call (fn := a19) rfl ⟨N448, fun n hn => ?_⟩
            have kN448 := kN448 n (by omega)
            simp (maxSteps := 2000000) only [h19l0_0, q19l0_0, wn, rc_WaterConduit, rc_WaterNode] at kN448
            simp (maxSteps := 2000000) only [W, reduceIte, Nat.reduceEqDiff, Nat.reduceAdd, Nat.reduceSub, Nat.reduceLT, Nat.reduceLeDiff, Nat.reduceMul, a19, a19l0, a19l1, rc_WaterConduit, rc_WaterNode, c351d, c352d, c353d, c354d, kN448, @x_loopAt]
        · rw [if_neg c354] at h
          have c354d := df c354
          cases h
          refine ev_call (fn := a19) rfl ⟨0, fun n hn => ?_⟩
          simp (maxSteps := 2000000) only [W, reduceIte, Nat.reduceEqDiff, Nat.reduceAdd, Nat.reduceSub, Nat.reduceLT, Nat.reduceLeDiff, Nat.reduceMul, a19, a19l0, a19l1, rc_WaterConduit, rc_WaterNode, c351d, c352d, c353d, c354d, @x_loopAt]
      · rw [if_neg c353] at h
        have c353d := df c353
        cases h
        refine ev_call (fn := a19) rfl ⟨0, fun n hn => ?_⟩
        simp (maxSteps := 2000000) only [W, reduceIte, Nat.reduceEqDiff, Nat.reduceAdd, Nat.reduceSub, Nat.reduceLT, Nat.reduceLeDiff, Nat.reduceMul, a19, a19l0, a19l1, rc_WaterConduit, rc_WaterNode, c351d, c352d, c353d, @x_loopAt]
theorem c21_0 (v515 : Int) (r520 : Int) (h : F21_0 v515 = some r520) : Ev fun n => (ex tab n).call 21 [.int .i64 v515] [] = some (.int .i64 r520, []) := by
  unfold F21_0 at h
  obtain ⟨r518, g516, h⟩ := un1 h
  obtain ⟨N517, kN517⟩ := c20_0 v515 (-200000) 200000 _ g516
  by_cases c519 : r518 = true
  · rw [if_pos c519] at h
    have c519d := c519
    cases h
    refine ev_call (fn := a21) rfl ⟨N517, fun n hn => ?_⟩
    have kN517 := kN517 n (by omega)
    try simp (maxSteps := 2000000) only [wn] at kN517
    simp (maxSteps := 2000000) only [W, reduceIte, Nat.reduceEqDiff, Nat.reduceAdd, Nat.reduceSub, Nat.reduceLT, Nat.reduceLeDiff, Nat.reduceMul, a21, kN517, c519d]
  · rw [if_neg c519] at h
    have c519d := bf c519
    cases h
    refine ev_call (fn := a21) rfl ⟨N517, fun n hn => ?_⟩
    have kN517 := kN517 n (by omega)
    try simp (maxSteps := 2000000) only [wn] at kN517
    simp (maxSteps := 2000000) only [W, reduceIte, Nat.reduceEqDiff, Nat.reduceAdd, Nat.reduceSub, Nat.reduceLT, Nat.reduceLeDiff, Nat.reduceMul, a21, kN517, c519d]
theorem c41_0 (v528 : Int) (r529 : Int) (h : F41_0 v528 = some r529) : Ev fun n => (ex tab n).call 41 [.int .i64 v528] [] = some (.int .i64 r529, []) := by
  unfold F41_0 at h
  cases h
  refine ev_call (fn := a41) rfl ⟨0, fun n hn => ?_⟩
  simp (maxSteps := 2000000) only [W, reduceIte, Nat.reduceEqDiff, Nat.reduceAdd, Nat.reduceSub, Nat.reduceLT, Nat.reduceLeDiff, Nat.reduceMul, a41]
end Go.AI
end
section
/-
  Functions, walked through: water.CheckNet$1.
-/
set_option linter.unusedVariables false
set_option linter.unusedSimpArgs false
set_option maxRecDepth 100000
set_option maxHeartbeats 4000000
namespace Go.AI
noncomputable def h16l0_0 (z0 : Bool) (z1 : Bool) (v73 : Int) (v75 : List WaterNode) (v76 : List WaterConduit) : (Int × (List (ByteArray × Bool))) → Env × Heap
  | (v74, v77) => ([(1, .ptr 2 0), (7, .map 3), (49, .slice 0 0 v75.length v75.length 4 false), (50, .int .i64 v73), (51, .int .i64 v74)], [.row z0 true (rowC v75), .row z1 true (rowC v76), .row true false [.slice 0 0 v75.length v75.length 4 false, .slice 1 0 v76.length v76.length 6 false], .map true (mapC v77)])
noncomputable def q16l0_0 (z0 : Bool) (z1 : Bool) (v73 : Int) (v75 : List WaterNode) (v76 : List WaterConduit) : ((Unit) ⊕ (Int × Int)) → AExit × Env × Heap
  | .inl (_) => (.exit 0, [(1, .ptr 2 0), (2, .undef), (3, .undef)], [.row z0 true (rowC v75), .row z1 true (rowC v76), .row true false [.slice 0 0 v75.length v75.length 4 false, .slice 1 0 v76.length v76.length 6 false]])
  | .inr (r168, r169) => (.ret, [(1, .ptr 2 0), (2, .int .i64 r168), (3, .int .i64 r169)], [.row z0 true (rowC v75), .row z1 true (rowC v76), .row true false [.slice 0 0 v75.length v75.length 4 false, .slice 1 0 v76.length v76.length 6 false]])
theorem k16l0_0 (z0 : Bool) (z1 : Bool) (v73 : Int) (v75 : List WaterNode) (v76 : List WaterConduit) (s : Int × (List (ByteArray × Bool))) (o : (Unit) ⊕ (Int × Int)) (h : L16l0_0 v73 v75 v76 s = some o) : Ev fun n => loopAt [1, 7, 49, 50, 51] [1, 2, 3] a16l0b (ex tab n) 2 (h16l0_0 z0 z1 v73 v75 v76 s) = some (q16l0_0 z0 z1 v73 v75 v76 o) := by
  refine iter_sound (S16l0_0 v73 v75 v76) [1, 7, 49, 50, 51] [1, 2, 3] a16l0b 2 (h16l0_0 z0 z1 v73 v75 v76) (q16l0_0 z0 z1 v73 v75 v76) ?_ _ _ _ h
  rintro ⟨v74, v77⟩ z h
  simp only [S16l0_0] at h
  by_cases c78 : v73 ≤ v74
  · rw [if_pos c78] at h
    have c78d := dt c78
    cases h
    refine ⟨0, fun n hn => ?_⟩
    simp (maxSteps := 2000000) only [W, reduceIte, Nat.reduceEqDiff, Nat.reduceAdd, Nat.reduceSub, Nat.reduceLT, Nat.reduceLeDiff, Nat.reduceMul, h16l0_0, q16l0_0, a16l0b, rc_WaterNode, c78d, wd]
  · rw [if_neg c78] at h
    have c78d := df c78
    obtain ⟨j79, x80, g81, h⟩ := un2 h
    obtain ⟨g811, g812⟩ := geti_in g81
    have g813 := ac_WaterNode g812
    try simp only [wn] at g811
    obtain ⟨r95, g93, h⟩ := un1 h
    obtain ⟨N94, kN94⟩ := c73_0 x80.fDraw 10000 _ g93
    by_cases c96 : x80.fLake = true
    · rw [if_pos c96] at h
      have c96d := c96
      obtain ⟨r99, g97, h⟩ := un1 h
      obtain ⟨N98, kN98⟩ := c74_0 x80.fHead 0 1000000 _ g97
      obtain ⟨r132, g130, h⟩ := un1 h
      obtain ⟨N131, kN131⟩ := c75_0 x80.fName _ g130
      obtain ⟨r135, g133, h⟩ := un1 h
      obtain ⟨N134, kN134⟩ := c72_0 r132 4 _ g133
      obtain ⟨r138, g136, h⟩ := un1 h
      obtain ⟨N137, kN137⟩ := c72_0 (!(getM x80.fName false v77)) 5 _ g136
      obtain ⟨r141, g139, h⟩ := un1 h
      obtain ⟨N140, kN140⟩ := c72_0 r99 2 _ g139
      obtain ⟨r144, g142, h⟩ := un1 h
      obtain ⟨N143, kN143⟩ := c72_0 (decide (x80.fDraw = 0)) 3 _ g142
      obtain ⟨r147, g145, h⟩ := un1 h
      obtain ⟨N146, kN146⟩ := c71_0 true ([r135, r138, r141, r144] : List Int) _ g145
      by_cases c148 : r147 = 0
      · rw [if_pos c148] at h
        have c148d := dt c148
        cases h
        refine ⟨N94 + N98 + N131 + N134 + N137 + N140 + N143 + N146, fun n hn => ?_⟩
        have kN94 := kN94 n (by omega)
        try simp (maxSteps := 2000000) only [wn, rc_WaterNode, c96d] at kN94
        have kN98 := kN98 n (by omega)
        try simp (maxSteps := 2000000) only [wn, rc_WaterNode, c96d] at kN98
        have kN131 := kN131 n (by omega)
        try simp (maxSteps := 2000000) only [wn, rc_WaterNode, c96d] at kN131
        have kN134 := kN134 n (by omega)
        try simp (maxSteps := 2000000) only [wn, rc_WaterNode, c96d] at kN134
        have kN137 := kN137 n (by omega)
        try simp (maxSteps := 2000000) only [wn, rc_WaterNode, c96d] at kN137
        have kN140 := kN140 n (by omega)
        try simp (maxSteps := 2000000) only [wn, rc_WaterNode, c96d] at kN140
        have kN143 := kN143 n (by omega)
        try simp (maxSteps := 2000000) only [wn, rc_WaterNode, c96d] at kN143
        have kN146 := kN146 n (by omega)
        try simp (maxSteps := 2000000) only [wn, rc_WaterNode, c96d] at kN146
        simp (maxSteps := 2000000) only [W, reduceIte, Nat.reduceEqDiff, Nat.reduceAdd, Nat.reduceSub, Nat.reduceLT, Nat.reduceLeDiff, Nat.reduceMul, h16l0_0, q16l0_0, a16l0b, rc_WaterNode, c78d, g811, g813, kN94, c96d, kN98, kN131, kN134, kN137, kN140, kN143, kN146, c148d, wd]
      · rw [if_neg c148] at h
        have c148d := df c148
        cases h
        refine ⟨N94 + N98 + N131 + N134 + N137 + N140 + N143 + N146, fun n hn => ?_⟩
        have kN94 := kN94 n (by omega)
        try simp (maxSteps := 2000000) only [wn, rc_WaterNode, c96d] at kN94
        have kN98 := kN98 n (by omega)
        try simp (maxSteps := 2000000) only [wn, rc_WaterNode, c96d] at kN98
        have kN131 := kN131 n (by omega)
        try simp (maxSteps := 2000000) only [wn, rc_WaterNode, c96d] at kN131
        have kN134 := kN134 n (by omega)
        try simp (maxSteps := 2000000) only [wn, rc_WaterNode, c96d] at kN134
        have kN137 := kN137 n (by omega)
        try simp (maxSteps := 2000000) only [wn, rc_WaterNode, c96d] at kN137
        have kN140 := kN140 n (by omega)
        try simp (maxSteps := 2000000) only [wn, rc_WaterNode, c96d] at kN140
        have kN143 := kN143 n (by omega)
        try simp (maxSteps := 2000000) only [wn, rc_WaterNode, c96d] at kN143
        have kN146 := kN146 n (by omega)
        try simp (maxSteps := 2000000) only [wn, rc_WaterNode, c96d] at kN146
        simp (maxSteps := 2000000) only [W, reduceIte, Nat.reduceEqDiff, Nat.reduceAdd, Nat.reduceSub, Nat.reduceLT, Nat.reduceLeDiff, Nat.reduceMul, h16l0_0, q16l0_0, a16l0b, rc_WaterNode, c78d, g811, g813, kN94, c96d, kN98, kN131, kN134, kN137, kN140, kN143, kN146, c148d, wd]
    · rw [if_neg c96] at h
      have c96d := bf c96
      obtain ⟨r151, g149, h⟩ := un1 h
      obtain ⟨N150, kN150⟩ := c75_0 x80.fName _ g149
      obtain ⟨r154, g152, h⟩ := un1 h
      obtain ⟨N153, kN153⟩ := c72_0 r151 4 _ g152
      obtain ⟨r157, g155, h⟩ := un1 h
      obtain ⟨N156, kN156⟩ := c72_0 (!(getM x80.fName false v77)) 5 _ g155
      obtain ⟨r160, g158, h⟩ := un1 h
      obtain ⟨N159, kN159⟩ := c72_0 r95 2 _ g158
      obtain ⟨r163, g161, h⟩ := un1 h
      obtain ⟨N162, kN162⟩ := c72_0 (decide (x80.fHead = 0)) 3 _ g161
      obtain ⟨r166, g164, h⟩ := un1 h
      obtain ⟨N165, kN165⟩ := c71_0 true ([r154, r157, r160, r163] : List Int) _ g164
      by_cases c167 : r166 = 0
      · rw [if_pos c167] at h
        have c167d := dt c167
        cases h
        refine ⟨N94 + N150 + N153 + N156 + N159 + N162 + N165, fun n hn => ?_⟩
        have kN94 := kN94 n (by omega)
        try simp (maxSteps := 2000000) only [wn, rc_WaterNode, c96d] at kN94
        have kN150 := kN150 n (by omega)
        try simp (maxSteps := 2000000) only [wn, rc_WaterNode, c96d] at kN150
        have kN153 := kN153 n (by omega)
        try simp (maxSteps := 2000000) only [wn, rc_WaterNode, c96d] at kN153
        have kN156 := kN156 n (by omega)
        try simp (maxSteps := 2000000) only [wn, rc_WaterNode, c96d] at kN156
        have kN159 := kN159 n (by omega)
        try simp (maxSteps := 2000000) only [wn, rc_WaterNode, c96d] at kN159
        have kN162 := kN162 n (by omega)
        try simp (maxSteps := 2000000) only [wn, rc_WaterNode, c96d] at kN162
        have kN165 := kN165 n (by omega)
        try simp (maxSteps := 2000000) only [wn, rc_WaterNode, c96d] at kN165
        simp (maxSteps := 2000000) only [W, reduceIte, Nat.reduceEqDiff, Nat.reduceAdd, Nat.reduceSub, Nat.reduceLT, Nat.reduceLeDiff, Nat.reduceMul, h16l0_0, q16l0_0, a16l0b, rc_WaterNode, c78d, g811, g813, kN94, c96d, kN150, kN153, kN156, kN159, kN162, kN165, c167d, wd]
      · rw [if_neg c167] at h
        have c167d := df c167
        cases h
        refine ⟨N94 + N150 + N153 + N156 + N159 + N162 + N165, fun n hn => ?_⟩
        have kN94 := kN94 n (by omega)
        try simp (maxSteps := 2000000) only [wn, rc_WaterNode, c96d] at kN94
        have kN150 := kN150 n (by omega)
        try simp (maxSteps := 2000000) only [wn, rc_WaterNode, c96d] at kN150
        have kN153 := kN153 n (by omega)
        try simp (maxSteps := 2000000) only [wn, rc_WaterNode, c96d] at kN153
        have kN156 := kN156 n (by omega)
        try simp (maxSteps := 2000000) only [wn, rc_WaterNode, c96d] at kN156
        have kN159 := kN159 n (by omega)
        try simp (maxSteps := 2000000) only [wn, rc_WaterNode, c96d] at kN159
        have kN162 := kN162 n (by omega)
        try simp (maxSteps := 2000000) only [wn, rc_WaterNode, c96d] at kN162
        have kN165 := kN165 n (by omega)
        try simp (maxSteps := 2000000) only [wn, rc_WaterNode, c96d] at kN165
        simp (maxSteps := 2000000) only [W, reduceIte, Nat.reduceEqDiff, Nat.reduceAdd, Nat.reduceSub, Nat.reduceLT, Nat.reduceLeDiff, Nat.reduceMul, h16l0_0, q16l0_0, a16l0b, rc_WaterNode, c78d, g811, g813, kN94, c96d, kN150, kN153, kN156, kN159, kN162, kN165, c167d, wd]
theorem c76_0 (z0 : Bool) (z1 : Bool) (z2 : Bool) (v190 : Int) (v191 : List WaterNode) (v192 : List WaterConduit) (r196 : Bool) (h : F76_0 v190 v191 v192 = some r196) : Ev fun n => (ex tab n).call 76 [.int .i64 v190, .ptr 0 0] [.row z0 false [.slice 1 0 v191.length v191.length 4 false, .slice 2 0 v192.length v192.length 6 false], .row z1 true (rowC v191), .row z2 true (rowC v192)] = some (.bool r196, [.row z0 false [.slice 1 0 v191.length v191.length 4 false, .slice 2 0 v192.length v192.length 6 false], .row z1 true (rowC v191), .row z2 true (rowC v192)]) := by
  unfold F76_0 at h
  obtain ⟨r195, g193, h⟩ := un1 h
  obtain ⟨N194, kN194⟩ := c74_0 v190 0 (aw .i64 ((v191.length : Int) - 1)) _ g193
  cases h
  refine ev_call (fn := a76) rfl ⟨N194, fun n hn => ?_⟩
  have kN194 := kN194 n (by omega)
  try simp (maxSteps := 2000000) only [wn] at kN194
  simp (maxSteps := 2000000) only [W, reduceIte, Nat.reduceEqDiff, Nat.reduceAdd, Nat.reduceSub, Nat.reduceLT, Nat.reduceLeDiff, Nat.reduceMul, a76, kN194]
noncomputable def h16l1_0 (z0 : Bool) (z1 : Bool) (v172 : Int) (v174 : List WaterNode) (v175 : List WaterConduit) : (Int × (List (ByteArray × Bool))) → Env × Heap
  | (v173, v176) => ([(13, .func 76 [] [.ptr 2 0]), (14, .map 3), (96, .slice 1 0 v175.length v175.length 6 false), (97, .int .i64 v172), (98, .int .i64 v173)], [.row z0 true (rowC v174), .row z1 true (rowC v175), .row true false [.slice 0 0 v174.length v174.length 4 false, .slice 1 0 v175.length v175.length 6 false], .map true (mapC v176)])
noncomputable def q16l1_0 (z0 : Bool) (z1 : Bool) (v172 : Int) (v174 : List WaterNode) (v175 : List WaterConduit) : ((Unit) ⊕ (Int × Int)) → AExit × Env × Heap
  | .inl (_) => (.exit 2, [(2, .undef), (3, .undef)], [.row z0 true (rowC v174), .row z1 true (rowC v175)])
  | .inr (r258, r259) => (.ret, [(2, .int .i64 r258), (3, .int .i64 r259)], [.row z0 true (rowC v174), .row z1 true (rowC v175)])
theorem k16l1_0 (z0 : Bool) (z1 : Bool) (v172 : Int) (v174 : List WaterNode) (v175 : List WaterConduit) (s : Int × (List (ByteArray × Bool))) (o : (Unit) ⊕ (Int × Int)) (h : L16l1_0 v172 v174 v175 s = some o) : Ev fun n => loopAt [13, 14, 96, 97, 98] [2, 3] a16l1b (ex tab n) 2 (h16l1_0 z0 z1 v172 v174 v175 s) = some (q16l1_0 z0 z1 v172 v174 v175 o) := by
  refine iter_sound (S16l1_0 v172 v174 v175) [13, 14, 96, 97, 98] [2, 3] a16l1b 2 (h16l1_0 z0 z1 v172 v174 v175) (q16l1_0 z0 z1 v172 v174 v175) ?_ _ _ _ h
  rintro ⟨v173, v176⟩ z h
  simp only [S16l1_0] at h
  by_cases c177 : v172 ≤ v173
  · rw [if_pos c177] at h
    have c177d := dt c177
    cases h
    refine ⟨0, fun n hn => ?_⟩
    simp (maxSteps := 2000000) only [W, reduceIte, Nat.reduceEqDiff, Nat.reduceAdd, Nat.reduceSub, Nat.reduceLT, Nat.reduceLeDiff, Nat.reduceMul, h16l1_0, q16l1_0, a16l1b, rc_WaterConduit, c177d, wd]
  · rw [if_neg c177] at h
    have c177d := df c177
    obtain ⟨j178, x179, g180, h⟩ := un2 h
    obtain ⟨g1801, g1802⟩ := geti_in g180
    have g1803 := ac_WaterConduit g1802
    try simp only [wn] at g1801
    obtain ⟨r183, g181, h⟩ := un1 h
    obtain ⟨N182, kN182⟩ := c75_0 x179.fName _ g181
    obtain ⟨r186, g184, h⟩ := un1 h
    obtain ⟨N185, kN185⟩ := c72_0 r183 4 _ g184
    obtain ⟨r189, g187, h⟩ := un1 h
    obtain ⟨N188, kN188⟩ := c72_0 (!(getM x179.fName false v176)) 5 _ g187
    obtain ⟨r199, g197, h⟩ := un1 h
    obtain ⟨N198, kN198⟩ := c76_0 false false false x179.fFrom v174 v175 _ g197
    by_cases c200 : r199 = true
    · rw [if_pos c200] at h
      have c200d := c200
      obtain ⟨r203, g201, h⟩ := un1 h
      obtain ⟨N202, kN202⟩ := c76_0 false false false x179.fTo v174 v175 _ g201
      obtain ⟨r206, g204, h⟩ := un1 h
      obtain ⟨N205, kN205⟩ := c72_0 r203 6 _ g204
      obtain ⟨r209, g207, h⟩ := un1 h
      obtain ⟨N208, kN208⟩ := c72_0 (!(decide (x179.fFrom = x179.fTo))) 13 _ g207
      obtain ⟨r212, g210, h⟩ := un1 h
      obtain ⟨N211, kN211⟩ := c74_0 x179.fResist 0 1000 _ g210
      obtain ⟨r215, g213, h⟩ := un1 h
      obtain ⟨N214, kN214⟩ := c72_0 r212 2 _ g213
      by_cases c216 : x179.fValve = true
      · rw [if_pos c216] at h
        have c216d := c216
        obtain ⟨r219, g217, h⟩ := un1 h
        obtain ⟨N218, kN218⟩ := c72_0 true 3 _ g217
        obtain ⟨r222, g220, h⟩ := un1 h
        obtain ⟨N221, kN221⟩ := c71_0 true ([r186, r189, r206, r209, r215, r219] : List Int) _ g220
        by_cases c223 : r222 = 0
        · rw [if_pos c223] at h
          have c223d := dt c223
          cases h
          refine ⟨N182 + N185 + N188 + N198 + N202 + N205 + N208 + N211 + N214 + N218 + N221, fun n hn => ?_⟩
          have kN182 := kN182 n (by omega)
          try simp (maxSteps := 2000000) only [wn, rc_WaterConduit, c216d] at kN182
          have kN185 := kN185 n (by omega)
          try simp (maxSteps := 2000000) only [wn, rc_WaterConduit, c216d] at kN185
          have kN188 := kN188 n (by omega)
          try simp (maxSteps := 2000000) only [wn, rc_WaterConduit, c216d] at kN188
          have kN198 := kN198 n (by omega)
          try simp (maxSteps := 2000000) only [wn, rc_WaterConduit, c216d] at kN198
          have kN202 := kN202 n (by omega)
          try simp (maxSteps := 2000000) only [wn, rc_WaterConduit, c216d] at kN202
          have kN205 := kN205 n (by omega)
          try simp (maxSteps := 2000000) only [wn, rc_WaterConduit, c216d] at kN205
          have kN208 := kN208 n (by omega)
          try simp (maxSteps := 2000000) only [wn, rc_WaterConduit, c216d] at kN208
          have kN211 := kN211 n (by omega)
          try simp (maxSteps := 2000000) only [wn, rc_WaterConduit, c216d] at kN211
          have kN214 := kN214 n (by omega)
          try simp (maxSteps := 2000000) only [wn, rc_WaterConduit, c216d] at kN214
          have kN218 := kN218 n (by omega)
          try simp (maxSteps := 2000000) only [wn, rc_WaterConduit, c216d] at kN218
          have kN221 := kN221 n (by omega)
          try simp (maxSteps := 2000000) only [wn, rc_WaterConduit, c216d] at kN221
          simp (maxSteps := 2000000) only [W, reduceIte, Nat.reduceEqDiff, Nat.reduceAdd, Nat.reduceSub, Nat.reduceLT, Nat.reduceLeDiff, Nat.reduceMul, h16l1_0, q16l1_0, a16l1b, rc_WaterConduit, c177d, g1801, g1803, kN182, kN185, kN188, kN198, c200d, kN202, kN205, kN208, kN211, kN214, c216d, kN218, kN221, c223d, wd]
        · rw [if_neg c223] at h
          have c223d := df c223
          cases h
          refine ⟨N182 + N185 + N188 + N198 + N202 + N205 + N208 + N211 + N214 + N218 + N221, fun n hn => ?_⟩
          have kN182 := kN182 n (by omega)
          try simp (maxSteps := 2000000) only [wn, rc_WaterConduit, c216d] at kN182
          have kN185 := kN185 n (by omega)
          try simp (maxSteps := 2000000) only [wn, rc_WaterConduit, c216d] at kN185
          have kN188 := kN188 n (by omega)
          try simp (maxSteps := 2000000) only [wn, rc_WaterConduit, c216d] at kN188
          have kN198 := kN198 n (by omega)
          try simp (maxSteps := 2000000) only [wn, rc_WaterConduit, c216d] at kN198
          have kN202 := kN202 n (by omega)
          try simp (maxSteps := 2000000) only [wn, rc_WaterConduit, c216d] at kN202
          have kN205 := kN205 n (by omega)
          try simp (maxSteps := 2000000) only [wn, rc_WaterConduit, c216d] at kN205
          have kN208 := kN208 n (by omega)
          try simp (maxSteps := 2000000) only [wn, rc_WaterConduit, c216d] at kN208
          have kN211 := kN211 n (by omega)
          try simp (maxSteps := 2000000) only [wn, rc_WaterConduit, c216d] at kN211
          have kN214 := kN214 n (by omega)
          try simp (maxSteps := 2000000) only [wn, rc_WaterConduit, c216d] at kN214
          have kN218 := kN218 n (by omega)
          try simp (maxSteps := 2000000) only [wn, rc_WaterConduit, c216d] at kN218
          have kN221 := kN221 n (by omega)
          try simp (maxSteps := 2000000) only [wn, rc_WaterConduit, c216d] at kN221
          simp (maxSteps := 2000000) only [W, reduceIte, Nat.reduceEqDiff, Nat.reduceAdd, Nat.reduceSub, Nat.reduceLT, Nat.reduceLeDiff, Nat.reduceMul, h16l1_0, q16l1_0, a16l1b, rc_WaterConduit, c177d, g1801, g1803, kN182, kN185, kN188, kN198, c200d, kN202, kN205, kN208, kN211, kN214, c216d, kN218, kN221, c223d, wd]
      · rw [if_neg c216] at h
        have c216d := bf c216
        obtain ⟨r226, g224, h⟩ := un1 h
        obtain ⟨N225, kN225⟩ := c72_0 x179.fOpen 3 _ g224
        obtain ⟨r229, g227, h⟩ := un1 h
        obtain ⟨N228, kN228⟩ := c71_0 true ([r186, r189, r206, r209, r215, r226] : List Int) _ g227
        by_cases c230 : r229 = 0
        · rw [if_pos c230] at h
          have c230d := dt c230
          cases h
          refine ⟨N182 + N185 + N188 + N198 + N202 + N205 + N208 + N211 + N214 + N225 + N228, fun n hn => ?_⟩
          have kN182 := kN182 n (by omega)
          try simp (maxSteps := 2000000) only [wn, rc_WaterConduit, c216d] at kN182
          have kN185 := kN185 n (by omega)
          try simp (maxSteps := 2000000) only [wn, rc_WaterConduit, c216d] at kN185
          have kN188 := kN188 n (by omega)
          try simp (maxSteps := 2000000) only [wn, rc_WaterConduit, c216d] at kN188
          have kN198 := kN198 n (by omega)
          try simp (maxSteps := 2000000) only [wn, rc_WaterConduit, c216d] at kN198
          have kN202 := kN202 n (by omega)
          try simp (maxSteps := 2000000) only [wn, rc_WaterConduit, c216d] at kN202
          have kN205 := kN205 n (by omega)
          try simp (maxSteps := 2000000) only [wn, rc_WaterConduit, c216d] at kN205
          have kN208 := kN208 n (by omega)
          try simp (maxSteps := 2000000) only [wn, rc_WaterConduit, c216d] at kN208
          have kN211 := kN211 n (by omega)
          try simp (maxSteps := 2000000) only [wn, rc_WaterConduit, c216d] at kN211
          have kN214 := kN214 n (by omega)
          try simp (maxSteps := 2000000) only [wn, rc_WaterConduit, c216d] at kN214
          have kN225 := kN225 n (by omega)
          try simp (maxSteps := 2000000) only [wn, rc_WaterConduit, c216d] at kN225
          have kN228 := kN228 n (by omega)
          try simp (maxSteps := 2000000) only [wn, rc_WaterConduit, c216d] at kN228
          simp (maxSteps := 2000000) only [W, reduceIte, Nat.reduceEqDiff, Nat.reduceAdd, Nat.reduceSub, Nat.reduceLT, Nat.reduceLeDiff, Nat.reduceMul, h16l1_0, q16l1_0, a16l1b, rc_WaterConduit, c177d, g1801, g1803, kN182, kN185, kN188, kN198, c200d, kN202, kN205, kN208, kN211, kN214, c216d, kN225, kN228, c230d, wd]
        · rw [if_neg c230] at h
          have c230d := df c230
          cases h
          refine ⟨N182 + N185 + N188 + N198 + N202 + N205 + N208 + N211 + N214 + N225 + N228, fun n hn => ?_⟩
          have kN182 := kN182 n (by omega)
          try simp (maxSteps := 2000000) only [wn, rc_WaterConduit, c216d] at kN182
          have kN185 := kN185 n (by omega)
          try simp (maxSteps := 2000000) only [wn, rc_WaterConduit, c216d] at kN185
          have kN188 := kN188 n (by omega)
          try simp (maxSteps := 2000000) only [wn, rc_WaterConduit, c216d] at kN188
          have kN198 := kN198 n (by omega)
          try simp (maxSteps := 2000000) only [wn, rc_WaterConduit, c216d] at kN198
          have kN202 := kN202 n (by omega)
          try simp (maxSteps := 2000000) only [wn, rc_WaterConduit, c216d] at kN202
          have kN205 := kN205 n (by omega)
          try simp (maxSteps := 2000000) only [wn, rc_WaterConduit, c216d] at kN205
          have kN208 := kN208 n (by omega)
          try simp (maxSteps := 2000000) only [wn, rc_WaterConduit, c216d] at kN208
          have kN211 := kN211 n (by omega)
          try simp (maxSteps := 2000000) only [wn, rc_WaterConduit, c216d] at kN211
          have kN214 := kN214 n (by omega)
          try simp (maxSteps := 2000000) only [wn, rc_WaterConduit, c216d] at kN214
          have kN225 := kN225 n (by omega)
          try simp (maxSteps := 2000000) only [wn, rc_WaterConduit, c216d] at kN225
          have kN228 := kN228 n (by omega)
          try simp (maxSteps := 2000000) only [wn, rc_WaterConduit, c216d] at kN228
          simp (maxSteps := 2000000) only [W, reduceIte, Nat.reduceEqDiff, Nat.reduceAdd, Nat.reduceSub, Nat.reduceLT, Nat.reduceLeDiff, Nat.reduceMul, h16l1_0, q16l1_0, a16l1b, rc_WaterConduit, c177d, g1801, g1803, kN182, kN185, kN188, kN198, c200d, kN202, kN205, kN208, kN211, kN214, c216d, kN225, kN228, c230d, wd]
    · rw [if_neg c200] at h
      have c200d := bf c200
      obtain ⟨r233, g231, h⟩ := un1 h
      obtain ⟨N232, kN232⟩ := c72_0 false 6 _ g231
      obtain ⟨r236, g234, h⟩ := un1 h
      obtain ⟨N235, kN235⟩ := c72_0 (!(decide (x179.fFrom = x179.fTo))) 13 _ g234
      obtain ⟨r239, g237, h⟩ := un1 h
      obtain ⟨N238, kN238⟩ := c74_0 x179.fResist 0 1000 _ g237
      obtain ⟨r242, g240, h⟩ := un1 h
      obtain ⟨N241, kN241⟩ := c72_0 r239 2 _ g240
      by_cases c243 : x179.fValve = true
      · rw [if_pos c243] at h
        have c243d := c243
        obtain ⟨r246, g244, h⟩ := un1 h
        obtain ⟨N245, kN245⟩ := c72_0 true 3 _ g244
        obtain ⟨r249, g247, h⟩ := un1 h
        obtain ⟨N248, kN248⟩ := c71_0 true ([r186, r189, r233, r236, r242, r246] : List Int) _ g247
        by_cases c250 : r249 = 0
        · rw [if_pos c250] at h
          have c250d := dt c250
          cases h
          refine ⟨N182 + N185 + N188 + N198 + N232 + N235 + N238 + N241 + N245 + N248, fun n hn => ?_⟩
          have kN182 := kN182 n (by omega)
          try simp (maxSteps := 2000000) only [wn, rc_WaterConduit, c243d] at kN182
          have kN185 := kN185 n (by omega)
          try simp (maxSteps := 2000000) only [wn, rc_WaterConduit, c243d] at kN185
          have kN188 := kN188 n (by omega)
          try simp (maxSteps := 2000000) only [wn, rc_WaterConduit, c243d] at kN188
          have kN198 := kN198 n (by omega)
          try simp (maxSteps := 2000000) only [wn, rc_WaterConduit, c243d] at kN198
          have kN232 := kN232 n (by omega)
          try simp (maxSteps := 2000000) only [wn, rc_WaterConduit, c243d] at kN232
          have kN235 := kN235 n (by omega)
          try simp (maxSteps := 2000000) only [wn, rc_WaterConduit, c243d] at kN235
          have kN238 := kN238 n (by omega)
          try simp (maxSteps := 2000000) only [wn, rc_WaterConduit, c243d] at kN238
          have kN241 := kN241 n (by omega)
          try simp (maxSteps := 2000000) only [wn, rc_WaterConduit, c243d] at kN241
          have kN245 := kN245 n (by omega)
          try simp (maxSteps := 2000000) only [wn, rc_WaterConduit, c243d] at kN245
          have kN248 := kN248 n (by omega)
          try simp (maxSteps := 2000000) only [wn, rc_WaterConduit, c243d] at kN248
          simp (maxSteps := 2000000) only [W, reduceIte, Nat.reduceEqDiff, Nat.reduceAdd, Nat.reduceSub, Nat.reduceLT, Nat.reduceLeDiff, Nat.reduceMul, h16l1_0, q16l1_0, a16l1b, rc_WaterConduit, c177d, g1801, g1803, kN182, kN185, kN188, kN198, c200d, kN232, kN235, kN238, kN241, c243d, kN245, kN248, c250d, wd]
        · rw [if_neg c250] at h
          have c250d := df c250
          cases h
          refine ⟨N182 + N185 + N188 + N198 + N232 + N235 + N238 + N241 + N245 + N248, fun n hn => ?_⟩
          have kN182 := kN182 n (by omega)
          try simp (maxSteps := 2000000) only [wn, rc_WaterConduit, c243d] at kN182
          have kN185 := kN185 n (by omega)
          try simp (maxSteps := 2000000) only [wn, rc_WaterConduit, c243d] at kN185
          have kN188 := kN188 n (by omega)
          try simp (maxSteps := 2000000) only [wn, rc_WaterConduit, c243d] at kN188
          have kN198 := kN198 n (by omega)
          try simp (maxSteps := 2000000) only [wn, rc_WaterConduit, c243d] at kN198
          have kN232 := kN232 n (by omega)
          try simp (maxSteps := 2000000) only [wn, rc_WaterConduit, c243d] at kN232
          have kN235 := kN235 n (by omega)
          try simp (maxSteps := 2000000) only [wn, rc_WaterConduit, c243d] at kN235
          have kN238 := kN238 n (by omega)
          try simp (maxSteps := 2000000) only [wn, rc_WaterConduit, c243d] at kN238
          have kN241 := kN241 n (by omega)
          try simp (maxSteps := 2000000) only [wn, rc_WaterConduit, c243d] at kN241
          have kN245 := kN245 n (by omega)
          try simp (maxSteps := 2000000) only [wn, rc_WaterConduit, c243d] at kN245
          have kN248 := kN248 n (by omega)
          try simp (maxSteps := 2000000) only [wn, rc_WaterConduit, c243d] at kN248
          simp (maxSteps := 2000000) only [W, reduceIte, Nat.reduceEqDiff, Nat.reduceAdd, Nat.reduceSub, Nat.reduceLT, Nat.reduceLeDiff, Nat.reduceMul, h16l1_0, q16l1_0, a16l1b, rc_WaterConduit, c177d, g1801, g1803, kN182, kN185, kN188, kN198, c200d, kN232, kN235, kN238, kN241, c243d, kN245, kN248, c250d, wd]
      · rw [if_neg c243] at h
        have c243d := bf c243
        obtain ⟨r253, g251, h⟩ := un1 h
        obtain ⟨N252, kN252⟩ := c72_0 x179.fOpen 3 _ g251
        obtain ⟨r256, g254, h⟩ := un1 h
        obtain ⟨N255, kN255⟩ := c71_0 true ([r186, r189, r233, r236, r242, r253] : List Int) _ g254
        by_cases c257 : r256 = 0
        · rw [if_pos c257] at h
          have c257d := dt c257
          cases h
          refine ⟨N182 + N185 + N188 + N198 + N232 + N235 + N238 + N241 + N252 + N255, fun n hn => ?_⟩
          have kN182 := kN182 n (by omega)
          try simp (maxSteps := 2000000) only [wn, rc_WaterConduit, c243d] at kN182
          have kN185 := kN185 n (by omega)
          try simp (maxSteps := 2000000) only [wn, rc_WaterConduit, c243d] at kN185
          have kN188 := kN188 n (by omega)
          try simp (maxSteps := 2000000) only [wn, rc_WaterConduit, c243d] at kN188
          have kN198 := kN198 n (by omega)
          try simp (maxSteps := 2000000) only [wn, rc_WaterConduit, c243d] at kN198
          have kN232 := kN232 n (by omega)
          try simp (maxSteps := 2000000) only [wn, rc_WaterConduit, c243d] at kN232
          have kN235 := kN235 n (by omega)
          try simp (maxSteps := 2000000) only [wn, rc_WaterConduit, c243d] at kN235
          have kN238 := kN238 n (by omega)
          try simp (maxSteps := 2000000) only [wn, rc_WaterConduit, c243d] at kN238
          have kN241 := kN241 n (by omega)
          try simp (maxSteps := 2000000) only [wn, rc_WaterConduit, c243d] at kN241
          have kN252 := kN252 n (by omega)
          try simp (maxSteps := 2000000) only [wn, rc_WaterConduit, c243d] at kN252
          have kN255 := kN255 n (by omega)
          try simp (maxSteps := 2000000) only [wn, rc_WaterConduit, c243d] at kN255
          simp (maxSteps := 2000000) only [W, reduceIte, Nat.reduceEqDiff, Nat.reduceAdd, Nat.reduceSub, Nat.reduceLT, Nat.reduceLeDiff, Nat.reduceMul, h16l1_0, q16l1_0, a16l1b, rc_WaterConduit, c177d, g1801, g1803, kN182, kN185, kN188, kN198, c200d, kN232, kN235, kN238, kN241, c243d, kN252, kN255, c257d, wd]
        · rw [if_neg c257] at h
          have c257d := df c257
          cases h
          refine ⟨N182 + N185 + N188 + N198 + N232 + N235 + N238 + N241 + N252 + N255, fun n hn => ?_⟩
          have kN182 := kN182 n (by omega)
          try simp (maxSteps := 2000000) only [wn, rc_WaterConduit, c243d] at kN182
          have kN185 := kN185 n (by omega)
          try simp (maxSteps := 2000000) only [wn, rc_WaterConduit, c243d] at kN185
          have kN188 := kN188 n (by omega)
          try simp (maxSteps := 2000000) only [wn, rc_WaterConduit, c243d] at kN188
          have kN198 := kN198 n (by omega)
          try simp (maxSteps := 2000000) only [wn, rc_WaterConduit, c243d] at kN198
          have kN232 := kN232 n (by omega)
          try simp (maxSteps := 2000000) only [wn, rc_WaterConduit, c243d] at kN232
          have kN235 := kN235 n (by omega)
          try simp (maxSteps := 2000000) only [wn, rc_WaterConduit, c243d] at kN235
          have kN238 := kN238 n (by omega)
          try simp (maxSteps := 2000000) only [wn, rc_WaterConduit, c243d] at kN238
          have kN241 := kN241 n (by omega)
          try simp (maxSteps := 2000000) only [wn, rc_WaterConduit, c243d] at kN241
          have kN252 := kN252 n (by omega)
          try simp (maxSteps := 2000000) only [wn, rc_WaterConduit, c243d] at kN252
          have kN255 := kN255 n (by omega)
          try simp (maxSteps := 2000000) only [wn, rc_WaterConduit, c243d] at kN255
          simp (maxSteps := 2000000) only [W, reduceIte, Nat.reduceEqDiff, Nat.reduceAdd, Nat.reduceSub, Nat.reduceLT, Nat.reduceLeDiff, Nat.reduceMul, h16l1_0, q16l1_0, a16l1b, rc_WaterConduit, c177d, g1801, g1803, kN182, kN185, kN188, kN198, c200d, kN232, kN235, kN238, kN241, c243d, kN252, kN255, c257d, wd]
end Go.AI
end
