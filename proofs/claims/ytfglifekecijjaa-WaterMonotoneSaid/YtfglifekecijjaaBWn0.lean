/-
  Functions, walked through: guidevanelaw02.Few, guidevaneref02.Copy, water.unless, water.first, water.within, water.isSized, water.isName, water.CheckNet$1.
-/
import Derived.Test.YtfglifekecijjaaBAiY
import Derived.Test.YtfglifekecijjaaBAiTab
import Derived.Test.YtfglifekecijjaaBAiAwake
import Derived.Test.YtfglifekecijjaaBWnF
set_option linter.unusedVariables false
set_option linter.unusedSimpArgs false
set_option maxRecDepth 100000
set_option maxHeartbeats 4000000
namespace Go.AI
noncomputable def h15l0_0 (z0 : Bool) (z1 : Bool) (v9 : List WaterNode) (v10 : List WaterConduit) : (Int) → Env × Heap
  | v8 => ([(1, .ptr 2 0), (3, .int .i64 v8)], [.row z0 true (rowC v9), .row z1 true (rowC v10), .row true false [.slice 0 0 v9.length v9.length 4 false, .slice 1 0 v10.length v10.length 6 false]])
noncomputable def q15l0_0 (z0 : Bool) (z1 : Bool) (v9 : List WaterNode) (v10 : List WaterConduit) : ((Unit) ⊕ (Unit)) → AExit × Env × Heap
  | .inl (_) => (.exit 0, [(1, .ptr 2 0), (2, .undef)], [.row z0 true (rowC v9), .row z1 true (rowC v10), .row true false [.slice 0 0 v9.length v9.length 4 false, .slice 1 0 v10.length v10.length 6 false]])
  | .inr (_) => (.ret, [(1, .ptr 2 0), (2, .bool false)], [.row z0 true (rowC v9), .row z1 true (rowC v10), .row true false [.slice 0 0 v9.length v9.length 4 false, .slice 1 0 v10.length v10.length 6 false]])
theorem k15l0_0 (z0 : Bool) (z1 : Bool) (v9 : List WaterNode) (v10 : List WaterConduit) (s : Int) (o : (Unit) ⊕ (Unit)) (h : L15l0_0 v9 v10 s = some o) : Ev fun n => loopAt [1, 3] [1, 2] a15l0b (ex tab n) 2 (h15l0_0 z0 z1 v9 v10 s) = some (q15l0_0 z0 z1 v9 v10 o) := by
  refine iter_sound (S15l0_0 v9 v10) [1, 3] [1, 2] a15l0b 2 (h15l0_0 z0 z1 v9 v10) (q15l0_0 z0 z1 v9 v10) ?_ _ _ _ h
  rintro v8 z h
  simp only [S15l0_0] at h
  by_cases c15 : (v9.length : Int) ≤ v8
  · rw [if_pos c15] at h
    have c15d := dt c15
    cases h
    refine ⟨0, fun n hn => ?_⟩
    simp only [W, reduceIte, Nat.reduceEqDiff, Nat.reduceAdd, Nat.reduceSub, Nat.reduceLT, Nat.reduceLeDiff, Nat.reduceMul, h15l0_0, q15l0_0, a15l0b, rc_WaterNode, c15d]
  · rw [if_neg c15] at h
    have c15d := df c15
    obtain ⟨j11, x12, g13, h⟩ := un2 h
    obtain ⟨g131, g132⟩ := geti_in g13
    have g133 := ac_WaterNode g132
    try simp only [wn] at g131
    by_cases c14 : (x12.fName.size : Int) ≤ 20
    · rw [if_pos c14] at h
      have c14d := dt c14
      cases h
      refine ⟨0, fun n hn => ?_⟩
      simp only [W, reduceIte, Nat.reduceEqDiff, Nat.reduceAdd, Nat.reduceSub, Nat.reduceLT, Nat.reduceLeDiff, Nat.reduceMul, h15l0_0, q15l0_0, a15l0b, rc_WaterNode, c15d, g131, g133, c14d]
    · rw [if_neg c14] at h
      have c14d := df c14
      cases h
      refine ⟨0, fun n hn => ?_⟩
      simp only [W, reduceIte, Nat.reduceEqDiff, Nat.reduceAdd, Nat.reduceSub, Nat.reduceLT, Nat.reduceLeDiff, Nat.reduceMul, h15l0_0, q15l0_0, a15l0b, rc_WaterNode, c15d, g131, g133, c14d]
noncomputable def h15l1_0 (z0 : Bool) (z1 : Bool) (v19 : List WaterNode) (v20 : List WaterConduit) : (Int) → Env × Heap
  | v18 => ([(1, .ptr 2 0), (4, .int .i64 v18)], [.row z0 true (rowC v19), .row z1 true (rowC v20), .row true false [.slice 0 0 v19.length v19.length 4 false, .slice 1 0 v20.length v20.length 6 false]])
noncomputable def q15l1_0 (z0 : Bool) (z1 : Bool) (v19 : List WaterNode) (v20 : List WaterConduit) : ((Unit) ⊕ (Unit)) → AExit × Env × Heap
  | .inl (_) => (.exit 2, [(2, .undef)], [.row z0 true (rowC v19), .row z1 true (rowC v20)])
  | .inr (_) => (.ret, [(2, .bool false)], [.row z0 true (rowC v19), .row z1 true (rowC v20)])
theorem k15l1_0 (z0 : Bool) (z1 : Bool) (v19 : List WaterNode) (v20 : List WaterConduit) (s : Int) (o : (Unit) ⊕ (Unit)) (h : L15l1_0 v19 v20 s = some o) : Ev fun n => loopAt [1, 4] [2] a15l1b (ex tab n) 2 (h15l1_0 z0 z1 v19 v20 s) = some (q15l1_0 z0 z1 v19 v20 o) := by
  refine iter_sound (S15l1_0 v19 v20) [1, 4] [2] a15l1b 2 (h15l1_0 z0 z1 v19 v20) (q15l1_0 z0 z1 v19 v20) ?_ _ _ _ h
  rintro v18 z h
  simp only [S15l1_0] at h
  by_cases c25 : (v20.length : Int) ≤ v18
  · rw [if_pos c25] at h
    have c25d := dt c25
    cases h
    refine ⟨0, fun n hn => ?_⟩
    simp only [W, reduceIte, Nat.reduceEqDiff, Nat.reduceAdd, Nat.reduceSub, Nat.reduceLT, Nat.reduceLeDiff, Nat.reduceMul, h15l1_0, q15l1_0, a15l1b, rc_WaterConduit, c25d]
  · rw [if_neg c25] at h
    have c25d := df c25
    obtain ⟨j21, x22, g23, h⟩ := un2 h
    obtain ⟨g231, g232⟩ := geti_in g23
    have g233 := ac_WaterConduit g232
    try simp only [wn] at g231
    by_cases c24 : (x22.fName.size : Int) ≤ 20
    · rw [if_pos c24] at h
      have c24d := dt c24
      cases h
      refine ⟨0, fun n hn => ?_⟩
      simp only [W, reduceIte, Nat.reduceEqDiff, Nat.reduceAdd, Nat.reduceSub, Nat.reduceLT, Nat.reduceLeDiff, Nat.reduceMul, h15l1_0, q15l1_0, a15l1b, rc_WaterConduit, c25d, g231, g233, c24d]
    · rw [if_neg c24] at h
      have c24d := df c24
      cases h
      refine ⟨0, fun n hn => ?_⟩
      simp only [W, reduceIte, Nat.reduceEqDiff, Nat.reduceAdd, Nat.reduceSub, Nat.reduceLT, Nat.reduceLeDiff, Nat.reduceMul, h15l1_0, q15l1_0, a15l1b, rc_WaterConduit, c25d, g231, g233, c24d]
theorem c15_0 (z0 : Bool) (z1 : Bool) (v6 : List WaterNode) (v7 : List WaterConduit) (r30 : Bool) (h : F15_0 v6 v7 = some r30) : Ev fun n => (ex tab n).call 15 [.agg [.slice 0 0 v6.length v6.length 4 false, .slice 1 0 v7.length v7.length 6 false]] [.row z0 true (rowC v6), .row z1 true (rowC v7)] = some (.bool r30, [.row z0 true (rowC v6), .row z1 true (rowC v7)]) := by
  unfold F15_0 at h
  by_cases c29 : (v6.length : Int) ≤ 12
  · rw [if_pos c29] at h
    have c29d := dt c29
    by_cases c28 : (v7.length : Int) ≤ 16
    · rw [if_pos c28] at h
      have c28d := dt c28
      obtain ⟨g16_, g16, h⟩ := un1 h
      rcases g16_ with _ | _
      · dsimp only at h
        have kN17 := k15l0_0 z0 z1 v6 v7 0 _ g16
        obtain ⟨N17, kN17⟩ := kN17
        obtain ⟨g26_, g26, h⟩ := un1 h
        rcases g26_ with _ | _
        · dsimp only at h
          have kN27 := k15l1_0 z0 z1 v6 v7 0 _ g26
          obtain ⟨N27, kN27⟩ := kN27
          cases h
          refine ev_call (fn := a15) rfl ⟨N17 + N27, fun n hn => ?_⟩
          have kN17 := kN17 n (by omega)
          simp only [h15l0_0, q15l0_0, wn, rc_WaterNode] at kN17
          have kN27 := kN27 n (by omega)
          simp only [h15l1_0, q15l1_0, wn, rc_WaterConduit, rc_WaterNode] at kN27
          simp only [W, reduceIte, Nat.reduceEqDiff, Nat.reduceAdd, Nat.reduceSub, Nat.reduceLT, Nat.reduceLeDiff, Nat.reduceMul, a15, a15l0, a15l1, rc_WaterConduit, rc_WaterNode, c29d, c28d, kN17, kN27, @x_loopAt]
        · dsimp only at h
          have kN27 := k15l1_0 z0 z1 v6 v7 0 _ g26
          obtain ⟨N27, kN27⟩ := kN27
          cases h
          refine ev_call (fn := a15) rfl ⟨N17 + N27, fun n hn => ?_⟩
          have kN17 := kN17 n (by omega)
          simp only [h15l0_0, q15l0_0, wn, rc_WaterNode] at kN17
          have kN27 := kN27 n (by omega)
          simp only [h15l1_0, q15l1_0, wn, rc_WaterConduit, rc_WaterNode] at kN27
          simp only [W, reduceIte, Nat.reduceEqDiff, Nat.reduceAdd, Nat.reduceSub, Nat.reduceLT, Nat.reduceLeDiff, Nat.reduceMul, a15, a15l0, a15l1, rc_WaterConduit, rc_WaterNode, c29d, c28d, kN17, kN27, @x_loopAt]
      · dsimp only at h
        have kN17 := k15l0_0 z0 z1 v6 v7 0 _ g16
        obtain ⟨N17, kN17⟩ := kN17
        cases h
        refine ev_call (fn := a15) rfl ⟨N17, fun n hn => ?_⟩
        have kN17 := kN17 n (by omega)
        simp only [h15l0_0, q15l0_0, wn, rc_WaterConduit, rc_WaterNode] at kN17
        simp only [W, reduceIte, Nat.reduceEqDiff, Nat.reduceAdd, Nat.reduceSub, Nat.reduceLT, Nat.reduceLeDiff, Nat.reduceMul, a15, a15l0, a15l1, rc_WaterConduit, rc_WaterNode, c29d, c28d, kN17, @x_loopAt]
    · rw [if_neg c28] at h
      have c28d := df c28
      cases h
      refine ev_call (fn := a15) rfl ⟨0, fun n hn => ?_⟩
      simp only [W, reduceIte, Nat.reduceEqDiff, Nat.reduceAdd, Nat.reduceSub, Nat.reduceLT, Nat.reduceLeDiff, Nat.reduceMul, a15, a15l0, a15l1, rc_WaterConduit, rc_WaterNode, c29d, c28d, @x_loopAt]
  · rw [if_neg c29] at h
    have c29d := df c29
    cases h
    refine ev_call (fn := a15) rfl ⟨0, fun n hn => ?_⟩
    simp only [W, reduceIte, Nat.reduceEqDiff, Nat.reduceAdd, Nat.reduceSub, Nat.reduceLT, Nat.reduceLeDiff, Nat.reduceMul, a15, a15l0, a15l1, rc_WaterConduit, rc_WaterNode, c29d, @x_loopAt]
theorem c17_0 (z0 : Bool) (z1 : Bool) (v34 : List WaterNode) (v35 : List WaterConduit) (h : F17_0 v34 v35 = some ()) : Ev fun n => (ex tab n).call 17 [.agg [.slice 0 0 v34.length v34.length 4 false, .slice 1 0 v35.length v35.length 6 false]] [.row z0 true (rowC v34), .row z1 true (rowC v35)] = some (.agg [.slice 2 0 v34.length v34.length 4 false, .slice 3 0 v35.length v35.length 6 false], [.row z0 true (rowC v34), .row z1 true (rowC v35), .row true true (rowC v34), .row true true (rowC v35)]) := by
  unfold F17_0 at h
  obtain ⟨g36, h⟩ := un_roomd h
  obtain ⟨g37, h⟩ := un_roomd h
  cases h
  refine ev_call (fn := a17) rfl ⟨0, fun n hn => ?_⟩
  simp only [W, reduceIte, Nat.reduceEqDiff, Nat.reduceAdd, Nat.reduceSub, Nat.reduceLT, Nat.reduceLeDiff, Nat.reduceMul, a17, rc_WaterConduit, rc_WaterNode, g36, g37, wd]
theorem c72_0 (v42 : Bool) (v43 : Int) (r45 : Int) (h : F72_0 v42 v43 = some r45) : Ev fun n => (ex tab n).call 72 [.bool v42, .int .i64 v43] [] = some (.int .i64 r45, []) := by
  unfold F72_0 at h
  by_cases c44 : v42 = true
  · rw [if_pos c44] at h
    have c44d := c44
    cases h
    refine ev_call (fn := a72) rfl ⟨0, fun n hn => ?_⟩
    simp only [W, reduceIte, Nat.reduceEqDiff, Nat.reduceAdd, Nat.reduceSub, Nat.reduceLT, Nat.reduceLeDiff, Nat.reduceMul, a72, c44d]
  · rw [if_neg c44] at h
    have c44d := bf c44
    cases h
    refine ev_call (fn := a72) rfl ⟨0, fun n hn => ?_⟩
    simp only [W, reduceIte, Nat.reduceEqDiff, Nat.reduceAdd, Nat.reduceSub, Nat.reduceLT, Nat.reduceLeDiff, Nat.reduceMul, a72, c44d]
noncomputable def h71l0_0 (z0 : Bool) (v53 : Int) (v55 : List Int) : (Int) → Env × Heap
  | v54 => ([(5, .slice 0 0 v55.length v55.length 1 false), (6, .int .i64 v53), (7, .int .i64 v54)], [.row z0 true (rowC v55)])
noncomputable def q71l0_0 (z0 : Bool) (v53 : Int) (v55 : List Int) : ((Unit) ⊕ (Int)) → AExit × Env × Heap
  | .inl (_) => (.exit 0, [(2, .undef)], [.row z0 true (rowC v55)])
  | .inr (r61) => (.ret, [(2, .int .i64 r61)], [.row z0 true (rowC v55)])
theorem k71l0_0 (z0 : Bool) (v53 : Int) (v55 : List Int) (s : Int) (o : (Unit) ⊕ (Int)) (h : L71l0_0 v53 v55 s = some o) : Ev fun n => loopAt [5, 6, 7] [2] a71l0b (ex tab n) 1 (h71l0_0 z0 v53 v55 s) = some (q71l0_0 z0 v53 v55 o) := by
  refine iter_sound (S71l0_0 v53 v55) [5, 6, 7] [2] a71l0b 1 (h71l0_0 z0 v53 v55) (q71l0_0 z0 v53 v55) ?_ _ _ _ h
  rintro v54 z h
  simp only [S71l0_0] at h
  by_cases c60 : v53 ≤ v54
  · rw [if_pos c60] at h
    have c60d := dt c60
    cases h
    refine ⟨0, fun n hn => ?_⟩
    simp only [W, reduceIte, Nat.reduceEqDiff, Nat.reduceAdd, Nat.reduceSub, Nat.reduceLT, Nat.reduceLeDiff, Nat.reduceMul, h71l0_0, q71l0_0, a71l0b, c60d]
  · rw [if_neg c60] at h
    have c60d := df c60
    obtain ⟨j56, x57, g58, h⟩ := un2 h
    obtain ⟨g581, g582⟩ := geti_in g58
    have g583 := ac_Int g582
    try simp only [wn] at g581
    by_cases c59 : x57 = 0
    · rw [if_pos c59] at h
      have c59d := dt c59
      cases h
      refine ⟨0, fun n hn => ?_⟩
      simp only [W, reduceIte, Nat.reduceEqDiff, Nat.reduceAdd, Nat.reduceSub, Nat.reduceLT, Nat.reduceLeDiff, Nat.reduceMul, h71l0_0, q71l0_0, a71l0b, c60d, g581, g583, c59d]
    · rw [if_neg c59] at h
      have c59d := df c59
      cases h
      refine ⟨0, fun n hn => ?_⟩
      simp only [W, reduceIte, Nat.reduceEqDiff, Nat.reduceAdd, Nat.reduceSub, Nat.reduceLT, Nat.reduceLeDiff, Nat.reduceMul, h71l0_0, q71l0_0, a71l0b, c60d, g581, g583, c59d]
theorem c71_0 (z0 : Bool) (v52 : List Int) (r65 : Int) (h : F71_0 v52 = some r65) : Ev fun n => (ex tab n).call 71 [.slice 0 0 v52.length v52.length 1 false] [.row z0 true (rowC v52)] = some (.int .i64 r65, [.row z0 true (rowC v52)]) := by
  unfold F71_0 at h
  obtain ⟨g62_, g62, h⟩ := un1 h
  rcases g62_ with _ | r64
  · dsimp only at h
    have kN63 := k71l0_0 z0 (v52.length : Int) v52 0 _ g62
    obtain ⟨N63, kN63⟩ := kN63
    cases h
    refine ev_call (fn := a71) rfl ⟨N63, fun n hn => ?_⟩
    have kN63 := kN63 n (by omega)
    simp only [h71l0_0, q71l0_0, wn] at kN63
    simp only [W, reduceIte, Nat.reduceEqDiff, Nat.reduceAdd, Nat.reduceSub, Nat.reduceLT, Nat.reduceLeDiff, Nat.reduceMul, a71, a71l0, kN63, @x_loopAt]
  · dsimp only at h
    have kN63 := k71l0_0 z0 (v52.length : Int) v52 0 _ g62
    obtain ⟨N63, kN63⟩ := kN63
    cases h
    refine ev_call (fn := a71) rfl ⟨N63, fun n hn => ?_⟩
    have kN63 := kN63 n (by omega)
    simp only [h71l0_0, q71l0_0, wn] at kN63
    simp only [W, reduceIte, Nat.reduceEqDiff, Nat.reduceAdd, Nat.reduceSub, Nat.reduceLT, Nat.reduceLeDiff, Nat.reduceMul, a71, a71l0, kN63, @x_loopAt]
theorem c74_0 (v79 : Int) (v80 : Int) (v81 : Int) (r83 : Bool) (h : F74_0 v79 v80 v81 = some r83) : Ev fun n => (ex tab n).call 74 [.int .i64 v79, .int .i64 v80, .int .i64 v81] [] = some (.bool r83, []) := by
  unfold F74_0 at h
  by_cases c82 : v80 ≤ v79
  · rw [if_pos c82] at h
    have c82d := dt c82
    cases h
    refine ev_call (fn := a74) rfl ⟨0, fun n hn => ?_⟩
    simp only [W, reduceIte, Nat.reduceEqDiff, Nat.reduceAdd, Nat.reduceSub, Nat.reduceLT, Nat.reduceLeDiff, Nat.reduceMul, a74, c82d]
  · rw [if_neg c82] at h
    have c82d := df c82
    cases h
    refine ev_call (fn := a74) rfl ⟨0, fun n hn => ?_⟩
    simp only [W, reduceIte, Nat.reduceEqDiff, Nat.reduceAdd, Nat.reduceSub, Nat.reduceLT, Nat.reduceLeDiff, Nat.reduceMul, a74, c82d]
theorem c73_0 (v77 : Int) (v78 : Int) (r87 : Bool) (h : F73_0 v77 v78 = some r87) : Ev fun n => (ex tab n).call 73 [.int .i64 v77, .int .i64 v78] [] = some (.bool r87, []) := by
  unfold F73_0 at h
  obtain ⟨r86, g84, h⟩ := un1 h
  obtain ⟨N85, kN85⟩ := c74_0 v77 (aw .i64 (0 - v78)) v78 _ g84
  cases h
  refine ev_call (fn := a73) rfl ⟨N85, fun n hn => ?_⟩
  have kN85 := kN85 n (by omega)
  try simp only [wn] at kN85
  simp only [W, reduceIte, Nat.reduceEqDiff, Nat.reduceAdd, Nat.reduceSub, Nat.reduceLT, Nat.reduceLeDiff, Nat.reduceMul, a73, kN85]
noncomputable def h75l0_0 (v96 : ByteArray) (v97 : Int) (v99 : List UInt8) : (Int) → Env × Heap
  | v98 => ([(0, .str v96), (7, .slice 0 0 v99.length v99.length 1 false), (8, .int .i64 v97), (9, .int .i64 v98)], [.row false true (rowC v99)])
noncomputable def q75l0_0 (v96 : ByteArray) (v97 : Int) (v99 : List UInt8) : ((Unit) ⊕ (Unit)) → AExit × Env × Heap
  | .inl (_) => (.exit 0, [(0, .str v96), (2, .undef)], [])
  | .inr (_) => (.ret, [(0, .str v96), (2, .bool false)], [])
theorem k75l0_0 (v96 : ByteArray) (v97 : Int) (v99 : List UInt8) (s : Int) (o : (Unit) ⊕ (Unit)) (h : L75l0_0 v96 v97 v99 s = some o) : Ev fun n => loopAt [0, 7, 8, 9] [0, 2] a75l0b (ex tab n) 0 (h75l0_0 v96 v97 v99 s) = some (q75l0_0 v96 v97 v99 o) := by
  refine iter_sound (S75l0_0 v96 v97 v99) [0, 7, 8, 9] [0, 2] a75l0b 0 (h75l0_0 v96 v97 v99) (q75l0_0 v96 v97 v99) ?_ _ _ _ h
  rintro v98 z h
  simp only [S75l0_0] at h
  by_cases c117 : v97 ≤ v98
  · rw [if_pos c117] at h
    have c117d := dt c117
    cases h
    refine ⟨0, fun n hn => ?_⟩
    simp only [W, reduceIte, Nat.reduceEqDiff, Nat.reduceAdd, Nat.reduceSub, Nat.reduceLT, Nat.reduceLeDiff, Nat.reduceMul, h75l0_0, q75l0_0, a75l0b, c117d]
  · rw [if_neg c117] at h
    have c117d := df c117
    obtain ⟨j100, x101, g102, h⟩ := un2 h
    obtain ⟨g1021, g1022⟩ := geti_in g102
    have g1023 := ac_UInt8 g1022
    try simp only [wn] at g1021
    obtain ⟨r105, g103, h⟩ := un1 h
    obtain ⟨N104, kN104⟩ := c74_0 (aw .i64 (x101.toNat : Int)) 97 122 _ g103
    by_cases c116 : r105 = true
    · rw [if_pos c116] at h
      have c116d := c116
      cases h
      refine ⟨N104, fun n hn => ?_⟩
      have kN104 := kN104 n (by omega)
      try simp only [wn] at kN104
      simp only [W, reduceIte, Nat.reduceEqDiff, Nat.reduceAdd, Nat.reduceSub, Nat.reduceLT, Nat.reduceLeDiff, Nat.reduceMul, h75l0_0, q75l0_0, a75l0b, c117d, g1021, g1023, kN104, c116d]
    · rw [if_neg c116] at h
      have c116d := bf c116
      obtain ⟨r108, g106, h⟩ := un1 h
      obtain ⟨N107, kN107⟩ := c74_0 (aw .i64 (x101.toNat : Int)) 65 90 _ g106
      by_cases c115 : r108 = true
      · rw [if_pos c115] at h
        have c115d := c115
        cases h
        refine ⟨N104 + N107, fun n hn => ?_⟩
        have kN104 := kN104 n (by omega)
        try simp only [wn] at kN104
        have kN107 := kN107 n (by omega)
        try simp only [wn] at kN107
        simp only [W, reduceIte, Nat.reduceEqDiff, Nat.reduceAdd, Nat.reduceSub, Nat.reduceLT, Nat.reduceLeDiff, Nat.reduceMul, h75l0_0, q75l0_0, a75l0b, c117d, g1021, g1023, kN104, c116d, kN107, c115d]
      · rw [if_neg c115] at h
        have c115d := bf c115
        by_cases c114 : v98 = 0
        · rw [if_pos c114] at h
          have c114d := dt c114
          cases h
          refine ⟨N104 + N107, fun n hn => ?_⟩
          have kN104 := kN104 n (by omega)
          try simp only [wn] at kN104
          have kN107 := kN107 n (by omega)
          try simp only [wn] at kN107
          simp only [W, reduceIte, Nat.reduceEqDiff, Nat.reduceAdd, Nat.reduceSub, Nat.reduceLT, Nat.reduceLeDiff, Nat.reduceMul, h75l0_0, q75l0_0, a75l0b, c117d, g1021, g1023, kN104, c116d, kN107, c115d, c114d]
        · rw [if_neg c114] at h
          have c114d := df c114
          by_cases c113 : (x101.toNat : Int) = 45
          · rw [if_pos c113] at h
            have c113d := dt c113
            cases h
            refine ⟨N104 + N107, fun n hn => ?_⟩
            have kN104 := kN104 n (by omega)
            try simp only [wn] at kN104
            have kN107 := kN107 n (by omega)
            try simp only [wn] at kN107
            simp only [W, reduceIte, Nat.reduceEqDiff, Nat.reduceAdd, Nat.reduceSub, Nat.reduceLT, Nat.reduceLeDiff, Nat.reduceMul, h75l0_0, q75l0_0, a75l0b, c117d, g1021, g1023, kN104, c116d, kN107, c115d, c114d, c113d]
          · rw [if_neg c113] at h
            have c113d := df c113
            obtain ⟨r111, g109, h⟩ := un1 h
            obtain ⟨N110, kN110⟩ := c74_0 (aw .i64 (x101.toNat : Int)) 48 57 _ g109
            by_cases c112 : r111 = true
            · rw [if_pos c112] at h
              have c112d := c112
              cases h
              refine ⟨N104 + N107 + N110, fun n hn => ?_⟩
              have kN104 := kN104 n (by omega)
              try simp only [wn] at kN104
              have kN107 := kN107 n (by omega)
              try simp only [wn] at kN107
              have kN110 := kN110 n (by omega)
              try simp only [wn] at kN110
              simp only [W, reduceIte, Nat.reduceEqDiff, Nat.reduceAdd, Nat.reduceSub, Nat.reduceLT, Nat.reduceLeDiff, Nat.reduceMul, h75l0_0, q75l0_0, a75l0b, c117d, g1021, g1023, kN104, c116d, kN107, c115d, c114d, c113d, kN110, c112d]
            · rw [if_neg c112] at h
              have c112d := bf c112
              cases h
              refine ⟨N104 + N107 + N110, fun n hn => ?_⟩
              have kN104 := kN104 n (by omega)
              try simp only [wn] at kN104
              have kN107 := kN107 n (by omega)
              try simp only [wn] at kN107
              have kN110 := kN110 n (by omega)
              try simp only [wn] at kN110
              simp only [W, reduceIte, Nat.reduceEqDiff, Nat.reduceAdd, Nat.reduceSub, Nat.reduceLT, Nat.reduceLeDiff, Nat.reduceMul, h75l0_0, q75l0_0, a75l0b, c117d, g1021, g1023, kN104, c116d, kN107, c115d, c114d, c113d, kN110, c112d]
theorem c75_0 (v94 : ByteArray) (r123 : Bool) (h : F75_0 v94 = some r123) : Ev fun n => (ex tab n).call 75 [.str v94] [] = some (.bool r123, []) := by
  unfold F75_0 at h
  obtain ⟨g95, h⟩ := un_roomS h
  try simp only [Nat.reduceLeDiff] at g95
  obtain ⟨g118_, g118, h⟩ := un1 h
  rcases g118_ with _ | _
  · dsimp only at h
    have kN119 := k75l0_0 v94 (v94.size : Int) (v94.data.toList) 0 _ g118
    obtain ⟨N119, kN119⟩ := kN119
    obtain ⟨r122, g120, h⟩ := un1 h
    obtain ⟨N121, kN121⟩ := c74_0 (v94.size : Int) 1 12 _ g120
    cases h
    refine ev_call (fn := a75) rfl ⟨N119 + N121, fun n hn => ?_⟩
    have kN119 := kN119 n (by omega)
    simp only [h75l0_0, q75l0_0, wn] at kN119
    have kN121 := kN121 n (by omega)
    try simp only [wn] at kN121
    simp only [W, reduceIte, Nat.reduceEqDiff, Nat.reduceAdd, Nat.reduceSub, Nat.reduceLT, Nat.reduceLeDiff, Nat.reduceMul, a75, a75l0, g95, kN119, kN121, @x_loopAt]
  · dsimp only at h
    have kN119 := k75l0_0 v94 (v94.size : Int) (v94.data.toList) 0 _ g118
    obtain ⟨N119, kN119⟩ := kN119
    cases h
    refine ev_call (fn := a75) rfl ⟨N119, fun n hn => ?_⟩
    have kN119 := kN119 n (by omega)
    simp only [h75l0_0, q75l0_0, wn] at kN119
    simp only [W, reduceIte, Nat.reduceEqDiff, Nat.reduceAdd, Nat.reduceSub, Nat.reduceLT, Nat.reduceLeDiff, Nat.reduceMul, a75, a75l0, g95, kN119, @x_loopAt]
noncomputable def h16l0_0 (z0 : Bool) (z1 : Bool) (v69 : Int) (v71 : List WaterNode) (v72 : List WaterConduit) : (Int × (List (ByteArray × Bool))) → Env × Heap
  | (v70, v73) => ([(1, .ptr 2 0), (7, .map 3), (49, .slice 0 0 v71.length v71.length 4 false), (50, .int .i64 v69), (51, .int .i64 v70)], [.row z0 true (rowC v71), .row z1 true (rowC v72), .row true false [.slice 0 0 v71.length v71.length 4 false, .slice 1 0 v72.length v72.length 6 false], .map true (mapC v73)])
noncomputable def q16l0_0 (z0 : Bool) (z1 : Bool) (v69 : Int) (v71 : List WaterNode) (v72 : List WaterConduit) : ((Unit) ⊕ (Int × Int)) → AExit × Env × Heap
  | .inl (_) => (.exit 0, [(1, .ptr 2 0), (2, .undef), (3, .undef)], [.row z0 true (rowC v71), .row z1 true (rowC v72), .row true false [.slice 0 0 v71.length v71.length 4 false, .slice 1 0 v72.length v72.length 6 false]])
  | .inr (r164, r165) => (.ret, [(1, .ptr 2 0), (2, .int .i64 r164), (3, .int .i64 r165)], [.row z0 true (rowC v71), .row z1 true (rowC v72), .row true false [.slice 0 0 v71.length v71.length 4 false, .slice 1 0 v72.length v72.length 6 false]])
theorem k16l0_0 (z0 : Bool) (z1 : Bool) (v69 : Int) (v71 : List WaterNode) (v72 : List WaterConduit) (s : Int × (List (ByteArray × Bool))) (o : (Unit) ⊕ (Int × Int)) (h : L16l0_0 v69 v71 v72 s = some o) : Ev fun n => loopAt [1, 7, 49, 50, 51] [1, 2, 3] a16l0b (ex tab n) 2 (h16l0_0 z0 z1 v69 v71 v72 s) = some (q16l0_0 z0 z1 v69 v71 v72 o) := by
  refine iter_sound (S16l0_0 v69 v71 v72) [1, 7, 49, 50, 51] [1, 2, 3] a16l0b 2 (h16l0_0 z0 z1 v69 v71 v72) (q16l0_0 z0 z1 v69 v71 v72) ?_ _ _ _ h
  rintro ⟨v70, v73⟩ z h
  simp only [S16l0_0] at h
  by_cases c163 : v69 ≤ v70
  · rw [if_pos c163] at h
    have c163d := dt c163
    cases h
    refine ⟨0, fun n hn => ?_⟩
    simp only [W, reduceIte, Nat.reduceEqDiff, Nat.reduceAdd, Nat.reduceSub, Nat.reduceLT, Nat.reduceLeDiff, Nat.reduceMul, h16l0_0, q16l0_0, a16l0b, rc_WaterNode, c163d, wd]
  · rw [if_neg c163] at h
    have c163d := df c163
    obtain ⟨j74, x75, g76, h⟩ := un2 h
    obtain ⟨g761, g762⟩ := geti_in g76
    have g763 := ac_WaterNode g762
    try simp only [wn] at g761
    obtain ⟨r90, g88, h⟩ := un1 h
    obtain ⟨N89, kN89⟩ := c73_0 x75.fDraw 10000 _ g88
    by_cases c162 : x75.fLake = true
    · rw [if_pos c162] at h
      have c162d := c162
      obtain ⟨r93, g91, h⟩ := un1 h
      obtain ⟨N92, kN92⟩ := c74_0 x75.fHead 0 1000000 _ g91
      obtain ⟨r126, g124, h⟩ := un1 h
      obtain ⟨N125, kN125⟩ := c75_0 x75.fName _ g124
      obtain ⟨r129, g127, h⟩ := un1 h
      obtain ⟨N128, kN128⟩ := c72_0 r126 4 _ g127
      obtain ⟨r132, g130, h⟩ := un1 h
      obtain ⟨N131, kN131⟩ := c72_0 (!(getM x75.fName false v73)) 5 _ g130
      obtain ⟨r135, g133, h⟩ := un1 h
      obtain ⟨N134, kN134⟩ := c72_0 r93 2 _ g133
      obtain ⟨r138, g136, h⟩ := un1 h
      obtain ⟨N137, kN137⟩ := c72_0 (decide (x75.fDraw = 0)) 3 _ g136
      obtain ⟨r141, g139, h⟩ := un1 h
      obtain ⟨N140, kN140⟩ := c71_0 true ([r129, r132, r135, r138] : List Int) _ g139
      by_cases c142 : r141 = 0
      · rw [if_pos c142] at h
        have c142d := dt c142
        cases h
        refine ⟨N89 + N92 + N125 + N128 + N131 + N134 + N137 + N140, fun n hn => ?_⟩
        have kN89 := kN89 n (by omega)
        try simp only [wn, rc_WaterNode] at kN89
        have kN92 := kN92 n (by omega)
        try simp only [wn, rc_WaterNode] at kN92
        have kN125 := kN125 n (by omega)
        try simp only [wn, rc_WaterNode] at kN125
        have kN128 := kN128 n (by omega)
        try simp only [wn, rc_WaterNode] at kN128
        have kN131 := kN131 n (by omega)
        try simp only [wn, rc_WaterNode] at kN131
        have kN134 := kN134 n (by omega)
        try simp only [wn, rc_WaterNode] at kN134
        have kN137 := kN137 n (by omega)
        try simp only [wn, rc_WaterNode] at kN137
        have kN140 := kN140 n (by omega)
        try simp only [wn, rc_WaterNode] at kN140
        simp only [W, reduceIte, Nat.reduceEqDiff, Nat.reduceAdd, Nat.reduceSub, Nat.reduceLT, Nat.reduceLeDiff, Nat.reduceMul, h16l0_0, q16l0_0, a16l0b, rc_WaterNode, c163d, g761, g763, kN89, c162d, kN92, kN125, kN128, kN131, kN134, kN137, kN140, c142d, wd]
      · rw [if_neg c142] at h
        have c142d := df c142
        cases h
        refine ⟨N89 + N92 + N125 + N128 + N131 + N134 + N137 + N140, fun n hn => ?_⟩
        have kN89 := kN89 n (by omega)
        try simp only [wn, rc_WaterNode] at kN89
        have kN92 := kN92 n (by omega)
        try simp only [wn, rc_WaterNode] at kN92
        have kN125 := kN125 n (by omega)
        try simp only [wn, rc_WaterNode] at kN125
        have kN128 := kN128 n (by omega)
        try simp only [wn, rc_WaterNode] at kN128
        have kN131 := kN131 n (by omega)
        try simp only [wn, rc_WaterNode] at kN131
        have kN134 := kN134 n (by omega)
        try simp only [wn, rc_WaterNode] at kN134
        have kN137 := kN137 n (by omega)
        try simp only [wn, rc_WaterNode] at kN137
        have kN140 := kN140 n (by omega)
        try simp only [wn, rc_WaterNode] at kN140
        simp only [W, reduceIte, Nat.reduceEqDiff, Nat.reduceAdd, Nat.reduceSub, Nat.reduceLT, Nat.reduceLeDiff, Nat.reduceMul, h16l0_0, q16l0_0, a16l0b, rc_WaterNode, c163d, g761, g763, kN89, c162d, kN92, kN125, kN128, kN131, kN134, kN137, kN140, c142d, wd]
    · rw [if_neg c162] at h
      have c162d := bf c162
      obtain ⟨r145, g143, h⟩ := un1 h
      obtain ⟨N144, kN144⟩ := c75_0 x75.fName _ g143
      obtain ⟨r148, g146, h⟩ := un1 h
      obtain ⟨N147, kN147⟩ := c72_0 r145 4 _ g146
      obtain ⟨r151, g149, h⟩ := un1 h
      obtain ⟨N150, kN150⟩ := c72_0 (!(getM x75.fName false v73)) 5 _ g149
      obtain ⟨r154, g152, h⟩ := un1 h
      obtain ⟨N153, kN153⟩ := c72_0 r90 2 _ g152
      obtain ⟨r157, g155, h⟩ := un1 h
      obtain ⟨N156, kN156⟩ := c72_0 (decide (x75.fHead = 0)) 3 _ g155
      obtain ⟨r160, g158, h⟩ := un1 h
      obtain ⟨N159, kN159⟩ := c71_0 true ([r148, r151, r154, r157] : List Int) _ g158
      by_cases c161 : r160 = 0
      · rw [if_pos c161] at h
        have c161d := dt c161
        cases h
        refine ⟨N89 + N144 + N147 + N150 + N153 + N156 + N159, fun n hn => ?_⟩
        have kN89 := kN89 n (by omega)
        try simp only [wn, rc_WaterNode] at kN89
        have kN144 := kN144 n (by omega)
        try simp only [wn, rc_WaterNode] at kN144
        have kN147 := kN147 n (by omega)
        try simp only [wn, rc_WaterNode] at kN147
        have kN150 := kN150 n (by omega)
        try simp only [wn, rc_WaterNode] at kN150
        have kN153 := kN153 n (by omega)
        try simp only [wn, rc_WaterNode] at kN153
        have kN156 := kN156 n (by omega)
        try simp only [wn, rc_WaterNode] at kN156
        have kN159 := kN159 n (by omega)
        try simp only [wn, rc_WaterNode] at kN159
        simp only [W, reduceIte, Nat.reduceEqDiff, Nat.reduceAdd, Nat.reduceSub, Nat.reduceLT, Nat.reduceLeDiff, Nat.reduceMul, h16l0_0, q16l0_0, a16l0b, rc_WaterNode, c163d, g761, g763, kN89, c162d, kN144, kN147, kN150, kN153, kN156, kN159, c161d, wd]
      · rw [if_neg c161] at h
        have c161d := df c161
        cases h
        refine ⟨N89 + N144 + N147 + N150 + N153 + N156 + N159, fun n hn => ?_⟩
        have kN89 := kN89 n (by omega)
        try simp only [wn, rc_WaterNode] at kN89
        have kN144 := kN144 n (by omega)
        try simp only [wn, rc_WaterNode] at kN144
        have kN147 := kN147 n (by omega)
        try simp only [wn, rc_WaterNode] at kN147
        have kN150 := kN150 n (by omega)
        try simp only [wn, rc_WaterNode] at kN150
        have kN153 := kN153 n (by omega)
        try simp only [wn, rc_WaterNode] at kN153
        have kN156 := kN156 n (by omega)
        try simp only [wn, rc_WaterNode] at kN156
        have kN159 := kN159 n (by omega)
        try simp only [wn, rc_WaterNode] at kN159
        simp only [W, reduceIte, Nat.reduceEqDiff, Nat.reduceAdd, Nat.reduceSub, Nat.reduceLT, Nat.reduceLeDiff, Nat.reduceMul, h16l0_0, q16l0_0, a16l0b, rc_WaterNode, c163d, g761, g763, kN89, c162d, kN144, kN147, kN150, kN153, kN156, kN159, c161d, wd]
theorem c76_0 (z0 : Bool) (z1 : Bool) (z2 : Bool) (v185 : Int) (v186 : List WaterNode) (v187 : List WaterConduit) (r191 : Bool) (h : F76_0 v185 v186 v187 = some r191) : Ev fun n => (ex tab n).call 76 [.int .i64 v185, .ptr 0 0] [.row z0 false [.slice 1 0 v186.length v186.length 4 false, .slice 2 0 v187.length v187.length 6 false], .row z1 true (rowC v186), .row z2 true (rowC v187)] = some (.bool r191, [.row z0 false [.slice 1 0 v186.length v186.length 4 false, .slice 2 0 v187.length v187.length 6 false], .row z1 true (rowC v186), .row z2 true (rowC v187)]) := by
  unfold F76_0 at h
  obtain ⟨r190, g188, h⟩ := un1 h
  obtain ⟨N189, kN189⟩ := c74_0 v185 0 (aw .i64 ((v186.length : Int) - 1)) _ g188
  cases h
  refine ev_call (fn := a76) rfl ⟨N189, fun n hn => ?_⟩
  have kN189 := kN189 n (by omega)
  try simp only [wn] at kN189
  simp only [W, reduceIte, Nat.reduceEqDiff, Nat.reduceAdd, Nat.reduceSub, Nat.reduceLT, Nat.reduceLeDiff, Nat.reduceMul, a76, kN189]
end Go.AI
