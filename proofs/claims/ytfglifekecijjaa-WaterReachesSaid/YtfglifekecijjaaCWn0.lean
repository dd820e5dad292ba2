/-
  Functions, walked through: guidevanelaw02.Few, guidevaneref02.Copy, water.unless, water.first, water.within, water.isSized, water.isName.
-/
import Derived.Test.YtfglifekecijjaaCAiY
import Derived.Test.YtfglifekecijjaaCAiTab
import Derived.Test.YtfglifekecijjaaCAiAwake
import Derived.Test.YtfglifekecijjaaCWnF
set_option linter.unusedVariables false
set_option linter.unusedSimpArgs false
set_option maxRecDepth 100000
set_option maxHeartbeats 4000000
namespace Go.AI
noncomputable def h15l0_0 (z0 : Bool) (z1 : Bool) (v11 : List WaterNode) (v12 : List WaterConduit) : (Int) → Env × Heap
  | v10 => ([(1, .ptr 2 0), (3, .int .i64 v10)], [.row z0 true (rowC v11), .row z1 true (rowC v12), .row true false [.slice 0 0 v11.length v11.length 4 false, .slice 1 0 v12.length v12.length 6 false]])
noncomputable def q15l0_0 (z0 : Bool) (z1 : Bool) (v11 : List WaterNode) (v12 : List WaterConduit) : ((Unit) ⊕ (Unit)) → AExit × Env × Heap
  | .inl (_) => (.exit 0, [(1, .ptr 2 0), (2, .undef)], [.row z0 true (rowC v11), .row z1 true (rowC v12), .row true false [.slice 0 0 v11.length v11.length 4 false, .slice 1 0 v12.length v12.length 6 false]])
  | .inr (_) => (.ret, [(1, .ptr 2 0), (2, .bool false)], [.row z0 true (rowC v11), .row z1 true (rowC v12), .row true false [.slice 0 0 v11.length v11.length 4 false, .slice 1 0 v12.length v12.length 6 false]])
theorem k15l0_0 (z0 : Bool) (z1 : Bool) (v11 : List WaterNode) (v12 : List WaterConduit) (s : Int) (o : (Unit) ⊕ (Unit)) (h : L15l0_0 v11 v12 s = some o) : Ev fun n => loopAt [1, 3] [1, 2] a15l0b (ex tab n) 2 (h15l0_0 z0 z1 v11 v12 s) = some (q15l0_0 z0 z1 v11 v12 o) := by
  refine iter_sound (S15l0_0 v11 v12) [1, 3] [1, 2] a15l0b 2 (h15l0_0 z0 z1 v11 v12) (q15l0_0 z0 z1 v11 v12) ?_ _ _ _ h
  rintro v10 z h
  simp only [S15l0_0] at h
  by_cases c13 : (v11.length : Int) ≤ v10
  · rw [if_pos c13] at h
    have c13d := dt c13
    cases h
    refine ⟨0, fun n hn => ?_⟩
    simp (maxSteps := 2000000) only [W, reduceIte, Nat.reduceEqDiff, Nat.reduceAdd, Nat.reduceSub, Nat.reduceLT, Nat.reduceLeDiff, Nat.reduceMul, h15l0_0, q15l0_0, a15l0b, rc_WaterNode, c13d]
  · rw [if_neg c13] at h
    have c13d := df c13
    obtain ⟨j14, x15, g16, h⟩ := un2 h
    obtain ⟨g161, g162⟩ := geti_in g16
    have g163 := ac_WaterNode g162
    try simp only [wn] at g161
    by_cases c17 : (x15.fName.size : Int) ≤ 20
    · rw [if_pos c17] at h
      have c17d := dt c17
      cases h
      refine ⟨0, fun n hn => ?_⟩
      simp (maxSteps := 2000000) only [W, reduceIte, Nat.reduceEqDiff, Nat.reduceAdd, Nat.reduceSub, Nat.reduceLT, Nat.reduceLeDiff, Nat.reduceMul, h15l0_0, q15l0_0, a15l0b, rc_WaterNode, c13d, g161, g163, c17d]
    · rw [if_neg c17] at h
      have c17d := df c17
      cases h
      refine ⟨0, fun n hn => ?_⟩
      simp (maxSteps := 2000000) only [W, reduceIte, Nat.reduceEqDiff, Nat.reduceAdd, Nat.reduceSub, Nat.reduceLT, Nat.reduceLeDiff, Nat.reduceMul, h15l0_0, q15l0_0, a15l0b, rc_WaterNode, c13d, g161, g163, c17d]
noncomputable def h15l1_0 (z0 : Bool) (z1 : Bool) (v21 : List WaterNode) (v22 : List WaterConduit) : (Int) → Env × Heap
  | v20 => ([(1, .ptr 2 0), (4, .int .i64 v20)], [.row z0 true (rowC v21), .row z1 true (rowC v22), .row true false [.slice 0 0 v21.length v21.length 4 false, .slice 1 0 v22.length v22.length 6 false]])
noncomputable def q15l1_0 (z0 : Bool) (z1 : Bool) (v21 : List WaterNode) (v22 : List WaterConduit) : ((Unit) ⊕ (Unit)) → AExit × Env × Heap
  | .inl (_) => (.exit 2, [(2, .undef)], [.row z0 true (rowC v21), .row z1 true (rowC v22)])
  | .inr (_) => (.ret, [(2, .bool false)], [.row z0 true (rowC v21), .row z1 true (rowC v22)])
theorem k15l1_0 (z0 : Bool) (z1 : Bool) (v21 : List WaterNode) (v22 : List WaterConduit) (s : Int) (o : (Unit) ⊕ (Unit)) (h : L15l1_0 v21 v22 s = some o) : Ev fun n => loopAt [1, 4] [2] a15l1b (ex tab n) 2 (h15l1_0 z0 z1 v21 v22 s) = some (q15l1_0 z0 z1 v21 v22 o) := by
  refine iter_sound (S15l1_0 v21 v22) [1, 4] [2] a15l1b 2 (h15l1_0 z0 z1 v21 v22) (q15l1_0 z0 z1 v21 v22) ?_ _ _ _ h
  rintro v20 z h
  simp only [S15l1_0] at h
  by_cases c23 : (v22.length : Int) ≤ v20
  · rw [if_pos c23] at h
    have c23d := dt c23
    cases h
    refine ⟨0, fun n hn => ?_⟩
    simp (maxSteps := 2000000) only [W, reduceIte, Nat.reduceEqDiff, Nat.reduceAdd, Nat.reduceSub, Nat.reduceLT, Nat.reduceLeDiff, Nat.reduceMul, h15l1_0, q15l1_0, a15l1b, rc_WaterConduit, c23d]
  · rw [if_neg c23] at h
    have c23d := df c23
    obtain ⟨j24, x25, g26, h⟩ := un2 h
    obtain ⟨g261, g262⟩ := geti_in g26
    have g263 := ac_WaterConduit g262
    try simp only [wn] at g261
    by_cases c27 : (x25.fName.size : Int) ≤ 20
    · rw [if_pos c27] at h
      have c27d := dt c27
      cases h
      refine ⟨0, fun n hn => ?_⟩
      simp (maxSteps := 2000000) only [W, reduceIte, Nat.reduceEqDiff, Nat.reduceAdd, Nat.reduceSub, Nat.reduceLT, Nat.reduceLeDiff, Nat.reduceMul, h15l1_0, q15l1_0, a15l1b, rc_WaterConduit, c23d, g261, g263, c27d]
    · rw [if_neg c27] at h
      have c27d := df c27
      cases h
      refine ⟨0, fun n hn => ?_⟩
      simp (maxSteps := 2000000) only [W, reduceIte, Nat.reduceEqDiff, Nat.reduceAdd, Nat.reduceSub, Nat.reduceLT, Nat.reduceLeDiff, Nat.reduceMul, h15l1_0, q15l1_0, a15l1b, rc_WaterConduit, c23d, g261, g263, c27d]
theorem c15_0 (z0 : Bool) (z1 : Bool) (v6 : List WaterNode) (v7 : List WaterConduit) (r30 : Bool) (h : F15_0 v6 v7 = some r30) : Ev fun n => (ex tab n).call 15 [.agg [.slice 0 0 v6.length v6.length 4 false, .slice 1 0 v7.length v7.length 6 false]] [.row z0 true (rowC v6), .row z1 true (rowC v7)] = some (.bool r30, [.row z0 true (rowC v6), .row z1 true (rowC v7)]) := by
  unfold F15_0 at h
  by_cases c8 : (v6.length : Int) ≤ 12
  · rw [if_pos c8] at h
    have c8d := dt c8
    by_cases c9 : (v7.length : Int) ≤ 16
    · rw [if_pos c9] at h
      have c9d := dt c9
      obtain ⟨g18_, g18, h⟩ := un1 h
      rcases g18_ with _ | _
      · dsimp only at h
        have kN19 := k15l0_0 z0 z1 v6 v7 0 _ g18
        obtain ⟨N19, kN19⟩ := kN19
        obtain ⟨g28_, g28, h⟩ := un1 h
        rcases g28_ with _ | _
        · dsimp only at h
          have kN29 := k15l1_0 z0 z1 v6 v7 0 _ g28
          obtain ⟨N29, kN29⟩ := kN29
          cases h
          refine ev_call (fn := a15) rfl ⟨N19 + N29, fun n hn => ?_⟩
          have kN19 := kN19 n (by omega)
          simp (maxSteps := 2000000) only [h15l0_0, q15l0_0, wn, rc_WaterNode] at kN19
          have kN29 := kN29 n (by omega)
          simp (maxSteps := 2000000) only [h15l1_0, q15l1_0, wn, rc_WaterConduit, rc_WaterNode] at kN29
          simp (maxSteps := 2000000) only [W, reduceIte, Nat.reduceEqDiff, Nat.reduceAdd, Nat.reduceSub, Nat.reduceLT, Nat.reduceLeDiff, Nat.reduceMul, a15, a15l0, a15l1, rc_WaterConduit, rc_WaterNode, c8d, c9d, kN19, kN29, @x_loopAt]
        · dsimp only at h
          have kN29 := k15l1_0 z0 z1 v6 v7 0 _ g28
          obtain ⟨N29, kN29⟩ := kN29
          cases h
          refine ev_call (fn := a15) rfl ⟨N19 + N29, fun n hn => ?_⟩
          have kN19 := kN19 n (by omega)
          simp (maxSteps := 2000000) only [h15l0_0, q15l0_0, wn, rc_WaterNode] at kN19
          have kN29 := kN29 n (by omega)
          simp (maxSteps := 2000000) only [h15l1_0, q15l1_0, wn, rc_WaterConduit, rc_WaterNode] at kN29
          simp (maxSteps := 2000000) only [W, reduceIte, Nat.reduceEqDiff, Nat.reduceAdd, Nat.reduceSub, Nat.reduceLT, Nat.reduceLeDiff, Nat.reduceMul, a15, a15l0, a15l1, rc_WaterConduit, rc_WaterNode, c8d, c9d, kN19, kN29, @x_loopAt]
      · dsimp only at h
        have kN19 := k15l0_0 z0 z1 v6 v7 0 _ g18
        obtain ⟨N19, kN19⟩ := kN19
        cases h
        refine ev_call (fn := a15) rfl ⟨N19, fun n hn => ?_⟩
        have kN19 := kN19 n (by omega)
        simp (maxSteps := 2000000) only [h15l0_0, q15l0_0, wn, rc_WaterConduit, rc_WaterNode] at kN19
        simp (maxSteps := 2000000) only [W, reduceIte, Nat.reduceEqDiff, Nat.reduceAdd, Nat.reduceSub, Nat.reduceLT, Nat.reduceLeDiff, Nat.reduceMul, a15, a15l0, a15l1, rc_WaterConduit, rc_WaterNode, c8d, c9d, kN19, @x_loopAt]
    · rw [if_neg c9] at h
      have c9d := df c9
      cases h
      refine ev_call (fn := a15) rfl ⟨0, fun n hn => ?_⟩
      simp (maxSteps := 2000000) only [W, reduceIte, Nat.reduceEqDiff, Nat.reduceAdd, Nat.reduceSub, Nat.reduceLT, Nat.reduceLeDiff, Nat.reduceMul, a15, a15l0, a15l1, rc_WaterConduit, rc_WaterNode, c8d, c9d, @x_loopAt]
  · rw [if_neg c8] at h
    have c8d := df c8
    cases h
    refine ev_call (fn := a15) rfl ⟨0, fun n hn => ?_⟩
    simp (maxSteps := 2000000) only [W, reduceIte, Nat.reduceEqDiff, Nat.reduceAdd, Nat.reduceSub, Nat.reduceLT, Nat.reduceLeDiff, Nat.reduceMul, a15, a15l0, a15l1, rc_WaterConduit, rc_WaterNode, c8d, @x_loopAt]
theorem c17_0 (z0 : Bool) (z1 : Bool) (v35 : List WaterNode) (v36 : List WaterConduit) (h : F17_0 v35 v36 = some ()) : Ev fun n => (ex tab n).call 17 [.agg [.slice 0 0 v35.length v35.length 4 false, .slice 1 0 v36.length v36.length 6 false]] [.row z0 true (rowC v35), .row z1 true (rowC v36)] = some (.agg [.slice 2 0 v35.length v35.length 4 false, .slice 3 0 v36.length v36.length 6 false], [.row z0 true (rowC v35), .row z1 true (rowC v36), .row true true (rowC v35), .row true true (rowC v36)]) := by
  unfold F17_0 at h
  obtain ⟨g37, h⟩ := un_roomd h
  obtain ⟨g38, h⟩ := un_roomd h
  cases h
  refine ev_call (fn := a17) rfl ⟨0, fun n hn => ?_⟩
  simp (maxSteps := 2000000) only [W, reduceIte, Nat.reduceEqDiff, Nat.reduceAdd, Nat.reduceSub, Nat.reduceLT, Nat.reduceLeDiff, Nat.reduceMul, a17, rc_WaterConduit, rc_WaterNode, g37, g38, wd]
theorem c72_0 (v45 : Bool) (v46 : Int) (r48 : Int) (h : F72_0 v45 v46 = some r48) : Ev fun n => (ex tab n).call 72 [.bool v45, .int .i64 v46] [] = some (.int .i64 r48, []) := by
  unfold F72_0 at h
  by_cases c47 : v45 = true
  · rw [if_pos c47] at h
    have c47d := c47
    cases h
    refine ev_call (fn := a72) rfl ⟨0, fun n hn => ?_⟩
    simp (maxSteps := 2000000) only [W, reduceIte, Nat.reduceEqDiff, Nat.reduceAdd, Nat.reduceSub, Nat.reduceLT, Nat.reduceLeDiff, Nat.reduceMul, a72, c47d]
  · rw [if_neg c47] at h
    have c47d := bf c47
    cases h
    refine ev_call (fn := a72) rfl ⟨0, fun n hn => ?_⟩
    simp (maxSteps := 2000000) only [W, reduceIte, Nat.reduceEqDiff, Nat.reduceAdd, Nat.reduceSub, Nat.reduceLT, Nat.reduceLeDiff, Nat.reduceMul, a72, c47d]
noncomputable def h71l0_0 (z0 : Bool) (v56 : Int) (v58 : List Int) : (Int) → Env × Heap
  | v57 => ([(5, .slice 0 0 v58.length v58.length 1 false), (6, .int .i64 v56), (7, .int .i64 v57)], [.row z0 true (rowC v58)])
noncomputable def q71l0_0 (z0 : Bool) (v56 : Int) (v58 : List Int) : ((Unit) ⊕ (Int)) → AExit × Env × Heap
  | .inl (_) => (.exit 0, [(2, .undef)], [.row z0 true (rowC v58)])
  | .inr (r64) => (.ret, [(2, .int .i64 r64)], [.row z0 true (rowC v58)])
theorem k71l0_0 (z0 : Bool) (v56 : Int) (v58 : List Int) (s : Int) (o : (Unit) ⊕ (Int)) (h : L71l0_0 v56 v58 s = some o) : Ev fun n => loopAt [5, 6, 7] [2] a71l0b (ex tab n) 1 (h71l0_0 z0 v56 v58 s) = some (q71l0_0 z0 v56 v58 o) := by
  refine iter_sound (S71l0_0 v56 v58) [5, 6, 7] [2] a71l0b 1 (h71l0_0 z0 v56 v58) (q71l0_0 z0 v56 v58) ?_ _ _ _ h
  rintro v57 z h
  simp only [S71l0_0] at h
  by_cases c59 : v56 ≤ v57
  · rw [if_pos c59] at h
    have c59d := dt c59
    cases h
    refine ⟨0, fun n hn => ?_⟩
    simp (maxSteps := 2000000) only [W, reduceIte, Nat.reduceEqDiff, Nat.reduceAdd, Nat.reduceSub, Nat.reduceLT, Nat.reduceLeDiff, Nat.reduceMul, h71l0_0, q71l0_0, a71l0b, c59d]
  · rw [if_neg c59] at h
    have c59d := df c59
    obtain ⟨j60, x61, g62, h⟩ := un2 h
    obtain ⟨g621, g622⟩ := geti_in g62
    have g623 := ac_Int g622
    try simp only [wn] at g621
    by_cases c63 : x61 = 0
    · rw [if_pos c63] at h
      have c63d := dt c63
      cases h
      refine ⟨0, fun n hn => ?_⟩
      simp (maxSteps := 2000000) only [W, reduceIte, Nat.reduceEqDiff, Nat.reduceAdd, Nat.reduceSub, Nat.reduceLT, Nat.reduceLeDiff, Nat.reduceMul, h71l0_0, q71l0_0, a71l0b, c59d, g621, g623, c63d]
    · rw [if_neg c63] at h
      have c63d := df c63
      cases h
      refine ⟨0, fun n hn => ?_⟩
      simp (maxSteps := 2000000) only [W, reduceIte, Nat.reduceEqDiff, Nat.reduceAdd, Nat.reduceSub, Nat.reduceLT, Nat.reduceLeDiff, Nat.reduceMul, h71l0_0, q71l0_0, a71l0b, c59d, g621, g623, c63d]
theorem c71_0 (z0 : Bool) (v55 : List Int) (r68 : Int) (h : F71_0 v55 = some r68) : Ev fun n => (ex tab n).call 71 [.slice 0 0 v55.length v55.length 1 false] [.row z0 true (rowC v55)] = some (.int .i64 r68, [.row z0 true (rowC v55)]) := by
  unfold F71_0 at h
  obtain ⟨g65_, g65, h⟩ := un1 h
  rcases g65_ with _ | r67
  · dsimp only at h
    have kN66 := k71l0_0 z0 (v55.length : Int) v55 0 _ g65
    obtain ⟨N66, kN66⟩ := kN66
    cases h
    refine ev_call (fn := a71) rfl ⟨N66, fun n hn => ?_⟩
    have kN66 := kN66 n (by omega)
    simp (maxSteps := 2000000) only [h71l0_0, q71l0_0, wn] at kN66
    simp (maxSteps := 2000000) only [W, reduceIte, Nat.reduceEqDiff, Nat.reduceAdd, Nat.reduceSub, Nat.reduceLT, Nat.reduceLeDiff, Nat.reduceMul, a71, a71l0, kN66, @x_loopAt]
  · dsimp only at h
    have kN66 := k71l0_0 z0 (v55.length : Int) v55 0 _ g65
    obtain ⟨N66, kN66⟩ := kN66
    cases h
    refine ev_call (fn := a71) rfl ⟨N66, fun n hn => ?_⟩
    have kN66 := kN66 n (by omega)
    simp (maxSteps := 2000000) only [h71l0_0, q71l0_0, wn] at kN66
    simp (maxSteps := 2000000) only [W, reduceIte, Nat.reduceEqDiff, Nat.reduceAdd, Nat.reduceSub, Nat.reduceLT, Nat.reduceLeDiff, Nat.reduceMul, a71, a71l0, kN66, @x_loopAt]
theorem c74_0 (v84 : Int) (v85 : Int) (v86 : Int) (r88 : Bool) (h : F74_0 v84 v85 v86 = some r88) : Ev fun n => (ex tab n).call 74 [.int .i64 v84, .int .i64 v85, .int .i64 v86] [] = some (.bool r88, []) := by
  unfold F74_0 at h
  by_cases c87 : v85 ≤ v84
  · rw [if_pos c87] at h
    have c87d := dt c87
    cases h
    refine ev_call (fn := a74) rfl ⟨0, fun n hn => ?_⟩
    simp (maxSteps := 2000000) only [W, reduceIte, Nat.reduceEqDiff, Nat.reduceAdd, Nat.reduceSub, Nat.reduceLT, Nat.reduceLeDiff, Nat.reduceMul, a74, c87d]
  · rw [if_neg c87] at h
    have c87d := df c87
    cases h
    refine ev_call (fn := a74) rfl ⟨0, fun n hn => ?_⟩
    simp (maxSteps := 2000000) only [W, reduceIte, Nat.reduceEqDiff, Nat.reduceAdd, Nat.reduceSub, Nat.reduceLT, Nat.reduceLeDiff, Nat.reduceMul, a74, c87d]
theorem c73_0 (v82 : Int) (v83 : Int) (r92 : Bool) (h : F73_0 v82 v83 = some r92) : Ev fun n => (ex tab n).call 73 [.int .i64 v82, .int .i64 v83] [] = some (.bool r92, []) := by
  unfold F73_0 at h
  obtain ⟨r91, g89, h⟩ := un1 h
  obtain ⟨N90, kN90⟩ := c74_0 v82 (aw .i64 (0 - v83)) v83 _ g89
  cases h
  refine ev_call (fn := a73) rfl ⟨N90, fun n hn => ?_⟩
  have kN90 := kN90 n (by omega)
  try simp (maxSteps := 2000000) only [wn] at kN90
  simp (maxSteps := 2000000) only [W, reduceIte, Nat.reduceEqDiff, Nat.reduceAdd, Nat.reduceSub, Nat.reduceLT, Nat.reduceLeDiff, Nat.reduceMul, a73, kN90]
noncomputable def h75l0_0 (v102 : ByteArray) (v103 : Int) (v105 : List UInt8) : (Int) → Env × Heap
  | v104 => ([(0, .str v102), (7, .slice 0 0 v105.length v105.length 1 false), (8, .int .i64 v103), (9, .int .i64 v104)], [.row false true (rowC v105)])
noncomputable def q75l0_0 (v102 : ByteArray) (v103 : Int) (v105 : List UInt8) : ((Unit) ⊕ (Unit)) → AExit × Env × Heap
  | .inl (_) => (.exit 0, [(0, .str v102), (2, .undef)], [])
  | .inr (_) => (.ret, [(0, .str v102), (2, .bool false)], [])
theorem k75l0_0 (v102 : ByteArray) (v103 : Int) (v105 : List UInt8) (s : Int) (o : (Unit) ⊕ (Unit)) (h : L75l0_0 v102 v103 v105 s = some o) : Ev fun n => loopAt [0, 7, 8, 9] [0, 2] a75l0b (ex tab n) 0 (h75l0_0 v102 v103 v105 s) = some (q75l0_0 v102 v103 v105 o) := by
  refine iter_sound (S75l0_0 v102 v103 v105) [0, 7, 8, 9] [0, 2] a75l0b 0 (h75l0_0 v102 v103 v105) (q75l0_0 v102 v103 v105) ?_ _ _ _ h
  rintro v104 z h
  simp only [S75l0_0] at h
  by_cases c106 : v103 ≤ v104
  · rw [if_pos c106] at h
    have c106d := dt c106
    cases h
    refine ⟨0, fun n hn => ?_⟩
    simp (maxSteps := 2000000) only [W, reduceIte, Nat.reduceEqDiff, Nat.reduceAdd, Nat.reduceSub, Nat.reduceLT, Nat.reduceLeDiff, Nat.reduceMul, h75l0_0, q75l0_0, a75l0b, c106d]
  · rw [if_neg c106] at h
    have c106d := df c106
    obtain ⟨j107, x108, g109, h⟩ := un2 h
    obtain ⟨g1091, g1092⟩ := geti_in g109
    have g1093 := ac_UInt8 g1092
    try simp only [wn] at g1091
    obtain ⟨r112, g110, h⟩ := un1 h
    obtain ⟨N111, kN111⟩ := c74_0 (aw .i64 (x108.toNat : Int)) 97 122 _ g110
    by_cases c113 : r112 = true
    · rw [if_pos c113] at h
      have c113d := c113
      cases h
      refine ⟨N111, fun n hn => ?_⟩
      have kN111 := kN111 n (by omega)
      try simp (maxSteps := 2000000) only [wn] at kN111
      simp (maxSteps := 2000000) only [W, reduceIte, Nat.reduceEqDiff, Nat.reduceAdd, Nat.reduceSub, Nat.reduceLT, Nat.reduceLeDiff, Nat.reduceMul, h75l0_0, q75l0_0, a75l0b, c106d, g1091, g1093, kN111, c113d]
    · rw [if_neg c113] at h
      have c113d := bf c113
      obtain ⟨r116, g114, h⟩ := un1 h
      obtain ⟨N115, kN115⟩ := c74_0 (aw .i64 (x108.toNat : Int)) 65 90 _ g114
      by_cases c117 : r116 = true
      · rw [if_pos c117] at h
        have c117d := c117
        cases h
        refine ⟨N111 + N115, fun n hn => ?_⟩
        have kN111 := kN111 n (by omega)
        try simp (maxSteps := 2000000) only [wn] at kN111
        have kN115 := kN115 n (by omega)
        try simp (maxSteps := 2000000) only [wn] at kN115
        simp (maxSteps := 2000000) only [W, reduceIte, Nat.reduceEqDiff, Nat.reduceAdd, Nat.reduceSub, Nat.reduceLT, Nat.reduceLeDiff, Nat.reduceMul, h75l0_0, q75l0_0, a75l0b, c106d, g1091, g1093, kN111, c113d, kN115, c117d]
      · rw [if_neg c117] at h
        have c117d := bf c117
        by_cases c118 : v104 = 0
        · rw [if_pos c118] at h
          have c118d := dt c118
          cases h
          refine ⟨N111 + N115, fun n hn => ?_⟩
          have kN111 := kN111 n (by omega)
          try simp (maxSteps := 2000000) only [wn] at kN111
          have kN115 := kN115 n (by omega)
          try simp (maxSteps := 2000000) only [wn] at kN115
          simp (maxSteps := 2000000) only [W, reduceIte, Nat.reduceEqDiff, Nat.reduceAdd, Nat.reduceSub, Nat.reduceLT, Nat.reduceLeDiff, Nat.reduceMul, h75l0_0, q75l0_0, a75l0b, c106d, g1091, g1093, kN111, c113d, kN115, c117d, c118d]
        · rw [if_neg c118] at h
          have c118d := df c118
          by_cases c119 : (x108.toNat : Int) = 45
          · rw [if_pos c119] at h
            have c119d := dt c119
            cases h
            refine ⟨N111 + N115, fun n hn => ?_⟩
            have kN111 := kN111 n (by omega)
            try simp (maxSteps := 2000000) only [wn] at kN111
            have kN115 := kN115 n (by omega)
            try simp (maxSteps := 2000000) only [wn] at kN115
            simp (maxSteps := 2000000) only [W, reduceIte, Nat.reduceEqDiff, Nat.reduceAdd, Nat.reduceSub, Nat.reduceLT, Nat.reduceLeDiff, Nat.reduceMul, h75l0_0, q75l0_0, a75l0b, c106d, g1091, g1093, kN111, c113d, kN115, c117d, c118d, c119d]
          · rw [if_neg c119] at h
            have c119d := df c119
            obtain ⟨r122, g120, h⟩ := un1 h
            obtain ⟨N121, kN121⟩ := c74_0 (aw .i64 (x108.toNat : Int)) 48 57 _ g120
            by_cases c123 : r122 = true
            · rw [if_pos c123] at h
              have c123d := c123
              cases h
              refine ⟨N111 + N115 + N121, fun n hn => ?_⟩
              have kN111 := kN111 n (by omega)
              try simp (maxSteps := 2000000) only [wn] at kN111
              have kN115 := kN115 n (by omega)
              try simp (maxSteps := 2000000) only [wn] at kN115
              have kN121 := kN121 n (by omega)
              try simp (maxSteps := 2000000) only [wn] at kN121
              simp (maxSteps := 2000000) only [W, reduceIte, Nat.reduceEqDiff, Nat.reduceAdd, Nat.reduceSub, Nat.reduceLT, Nat.reduceLeDiff, Nat.reduceMul, h75l0_0, q75l0_0, a75l0b, c106d, g1091, g1093, kN111, c113d, kN115, c117d, c118d, c119d, kN121, c123d]
            · rw [if_neg c123] at h
              have c123d := bf c123
              cases h
              refine ⟨N111 + N115 + N121, fun n hn => ?_⟩
              have kN111 := kN111 n (by omega)
              try simp (maxSteps := 2000000) only [wn] at kN111
              have kN115 := kN115 n (by omega)
              try simp (maxSteps := 2000000) only [wn] at kN115
              have kN121 := kN121 n (by omega)
              try simp (maxSteps := 2000000) only [wn] at kN121
              simp (maxSteps := 2000000) only [W, reduceIte, Nat.reduceEqDiff, Nat.reduceAdd, Nat.reduceSub, Nat.reduceLT, Nat.reduceLeDiff, Nat.reduceMul, h75l0_0, q75l0_0, a75l0b, c106d, g1091, g1093, kN111, c113d, kN115, c117d, c118d, c119d, kN121, c123d]
theorem c75_0 (v100 : ByteArray) (r129 : Bool) (h : F75_0 v100 = some r129) : Ev fun n => (ex tab n).call 75 [.str v100] [] = some (.bool r129, []) := by
  unfold F75_0 at h
  obtain ⟨g101, h⟩ := un_roomS h
  try simp only [Nat.reduceLeDiff] at g101
  obtain ⟨g124_, g124, h⟩ := un1 h
  rcases g124_ with _ | _
  · dsimp only at h
    have kN125 := k75l0_0 v100 (v100.size : Int) (v100.data.toList) 0 _ g124
    obtain ⟨N125, kN125⟩ := kN125
    obtain ⟨r128, g126, h⟩ := un1 h
    obtain ⟨N127, kN127⟩ := c74_0 (v100.size : Int) 1 12 _ g126
    cases h
    refine ev_call (fn := a75) rfl ⟨N125 + N127, fun n hn => ?_⟩
    have kN125 := kN125 n (by omega)
    simp (maxSteps := 2000000) only [h75l0_0, q75l0_0, wn] at kN125
    have kN127 := kN127 n (by omega)
    try simp (maxSteps := 2000000) only [wn] at kN127
    simp (maxSteps := 2000000) only [W, reduceIte, Nat.reduceEqDiff, Nat.reduceAdd, Nat.reduceSub, Nat.reduceLT, Nat.reduceLeDiff, Nat.reduceMul, a75, a75l0, g101, kN125, kN127, @x_loopAt]
  · dsimp only at h
    have kN125 := k75l0_0 v100 (v100.size : Int) (v100.data.toList) 0 _ g124
    obtain ⟨N125, kN125⟩ := kN125
    cases h
    refine ev_call (fn := a75) rfl ⟨N125, fun n hn => ?_⟩
    have kN125 := kN125 n (by omega)
    simp (maxSteps := 2000000) only [h75l0_0, q75l0_0, wn] at kN125
    simp (maxSteps := 2000000) only [W, reduceIte, Nat.reduceEqDiff, Nat.reduceAdd, Nat.reduceSub, Nat.reduceLT, Nat.reduceLeDiff, Nat.reduceMul, a75, a75l0, g101, kN125, @x_loopAt]
end Go.AI
