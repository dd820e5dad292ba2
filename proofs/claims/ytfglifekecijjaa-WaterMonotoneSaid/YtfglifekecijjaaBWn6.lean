import Derived.Test.YtfglifekecijjaaBAiY
import Derived.Test.YtfglifekecijjaaBAiTab
import Derived.Test.YtfglifekecijjaaBAiAwake
import Derived.Test.YtfglifekecijjaaBWnF
section
/-
  Functions, walked through: guidevanebase.IsName, guidevanebase.HasText, guidevanebase.Within, guidevaneref02.nodeErr.
-/
set_option linter.unusedVariables false
set_option linter.unusedSimpArgs false
set_option maxRecDepth 100000
set_option maxHeartbeats 4000000
namespace Go.AI
theorem c20_0 (v424 : Int) (v425 : Int) (v426 : Int) (r428 : Bool) (h : F20_0 v424 v425 v426 = some r428) : Ev fun n => (ex tab n).call 20 [.int .i64 v424, .int .i64 v425, .int .i64 v426] [] = some (.bool r428, []) := by
  unfold F20_0 at h
  by_cases c427 : v425 ≤ v424
  · rw [if_pos c427] at h
    have c427d := dt c427
    cases h
    refine ev_call (fn := a20) rfl ⟨0, fun n hn => ?_⟩
    simp (maxSteps := 2000000) only [W, reduceIte, Nat.reduceEqDiff, Nat.reduceAdd, Nat.reduceSub, Nat.reduceLT, Nat.reduceLeDiff, Nat.reduceMul, a20, c427d]
  · rw [if_neg c427] at h
    have c427d := df c427
    cases h
    refine ev_call (fn := a20) rfl ⟨0, fun n hn => ?_⟩
    simp (maxSteps := 2000000) only [W, reduceIte, Nat.reduceEqDiff, Nat.reduceAdd, Nat.reduceSub, Nat.reduceLT, Nat.reduceLeDiff, Nat.reduceMul, a20, c427d]
end Go.AI
end
section
/-
  Functions, walked through: guidevanelaw02.Few, guidevaneref02.Copy, water.unless, water.first, water.within, water.isSized, water.isName.
-/
set_option linter.unusedVariables false
set_option linter.unusedSimpArgs false
set_option maxRecDepth 100000
set_option maxHeartbeats 4000000
namespace Go.AI
theorem c72_0 (v45 : Bool) (v46 : Int) (r48 : Int) (h : F72_0 v45 v46 = some r48) : Ev fun n => (ex tab n).call 72 [.bool v45, .int .i64 v46] [] = some (.int .i64 r48, []) := by
  unfold F72_0 at h
  by_cases c47 : v45 = true
  · rw [if_pos c47] at h
    have c47d := c47
    cases h
    refine ev_call (fn := a72) rfl ⟨0, fun n hn => ?_⟩
    simp (maxSteps := 2000000) only [W, reduceIte, Nat.reduceEqDiff, Nat.reduceAdd, Nat.reduceSub, Nat.reduceLT, Nat.reduceLeDiff, Nat.reduceMul, a72, c47d]
  · rw [if_neg c47] at h
    have c47d := bf c47
    cases h
    refine ev_call (fn := a72) rfl ⟨0, fun n hn => ?_⟩
    simp (maxSteps := 2000000) only [W, reduceIte, Nat.reduceEqDiff, Nat.reduceAdd, Nat.reduceSub, Nat.reduceLT, Nat.reduceLeDiff, Nat.reduceMul, a72, c47d]
noncomputable def h71l0_0 (z0 : Bool) (v56 : Int) (v58 : List Int) : (Int) → Env × Heap
  | v57 => ([(5, .slice 0 0 v58.length v58.length 1 false), (6, .int .i64 v56), (7, .int .i64 v57)], [.row z0 true (rowC v58)])
noncomputable def q71l0_0 (z0 : Bool) (v56 : Int) (v58 : List Int) : ((Unit) ⊕ (Int)) → AExit × Env × Heap
  | .inl (_) => (.exit 0, [(2, .undef)], [.row z0 true (rowC v58)])
  | .inr (r64) => (.ret, [(2, .int .i64 r64)], [.row z0 true (rowC v58)])
theorem k71l0_0 (z0 : Bool) (v56 : Int) (v58 : List Int) (s : Int) (o : (Unit) ⊕ (Int)) (h : L71l0_0 v56 v58 s = some o) : Ev fun n => loopAt [5, 6, 7] [2] a71l0b (ex tab n) 1 (h71l0_0 z0 v56 v58 s) = some (q71l0_0 z0 v56 v58 o) := by
  refine iter_sound (S71l0_0 v56 v58) [5, 6, 7] [2] a71l0b 1 (h71l0_0 z0 v56 v58) (q71l0_0 z0 v56 v58) ?_ _ _ _ h
  rintro v57 z h
  simp only [S71l0_0] at h
  by_cases c59 : v56 ≤ v57
  · rw [if_pos c59] at h
    have c59d := dt c59
    cases h
    refine ⟨0, fun n hn => ?_⟩
    simp (maxSteps := 2000000) only [W, reduceIte, Nat.reduceEqDiff, Nat.reduceAdd, Nat.reduceSub, Nat.reduceLT, Nat.reduceLeDiff, Nat.reduceMul, h71l0_0, q71l0_0, a71l0b, c59d]
  · rw [if_neg c59] at h
    have c59d := df c59
    obtain ⟨j60, x61, g62, h⟩ := un2 h
    obtain ⟨g621, g622⟩ := geti_in g62
    have g623 := ac_Int g622
    try simp only [wn] at g621
    by_cases c63 : x61 = 0
    · rw [if_pos c63] at h
      have c63d := dt c63
      cases h
      refine ⟨0, fun n hn => ?_⟩
      simp (maxSteps := 2000000) only [W, reduceIte, Nat.reduceEqDiff, Nat.reduceAdd, Nat.reduceSub, Nat.reduceLT, Nat.reduceLeDiff, Nat.reduceMul, h71l0_0, q71l0_0, a71l0b, c59d, g621, g623, c63d]
    · rw [if_neg c63] at h
      have c63d := df c63
      cases h
      refine ⟨0, fun n hn => ?_⟩
      simp (maxSteps := 2000000) only [W, reduceIte, Nat.reduceEqDiff, Nat.reduceAdd, Nat.reduceSub, Nat.reduceLT, Nat.reduceLeDiff, Nat.reduceMul, h71l0_0, q71l0_0, a71l0b, c59d, g621, g623, c63d]
theorem c71_0 (z0 : Bool) (v55 : List Int) (r68 : Int) (h : F71_0 v55 = some r68) : Ev fun n => (ex tab n).call 71 [.slice 0 0 v55.length v55.length 1 false] [.row z0 true (rowC v55)] = some (.int .i64 r68, [.row z0 true (rowC v55)]) := by
  unfold F71_0 at h
  obtain ⟨g65_, g65, h⟩ := un1 h
  rcases g65_ with _ | r67
  · dsimp only at h
    have kN66 := k71l0_0 z0 (v55.length : Int) v55 0 _ g65
    obtain ⟨N66, kN66⟩ := kN66
    cases h
    refine ev_call (fn := a71) rfl ⟨N66, fun n hn => ?_⟩
    have kN66 := kN66 n (by omega)
    simp (maxSteps := 2000000) only [h71l0_0, q71l0_0, wn] at kN66
    simp (maxSteps := 2000000) only [W, reduceIte, Nat.reduceEqDiff, Nat.reduceAdd, Nat.reduceSub, Nat.reduceLT, Nat.reduceLeDiff, Nat.reduceMul, a71, a71l0, kN66, @x_loopAt]
  · dsimp only at h
    have kN66 := k71l0_0 z0 (v55.length : Int) v55 0 _ g65
    obtain ⟨N66, kN66⟩ := kN66
    cases h
    refine ev_call (fn := a71) rfl ⟨N66, fun n hn => ?_⟩
    have kN66 := kN66 n (by omega)
    simp (maxSteps := 2000000) only [h71l0_0, q71l0_0, wn] at kN66
    simp (maxSteps := 2000000) only [W, reduceIte, Nat.reduceEqDiff, Nat.reduceAdd, Nat.reduceSub, Nat.reduceLT, Nat.reduceLeDiff, Nat.reduceMul, a71, a71l0, kN66, @x_loopAt]
theorem c74_0 (v84 : Int) (v85 : Int) (v86 : Int) (r88 : Bool) (h : F74_0 v84 v85 v86 = some r88) : Ev fun n => (ex tab n).call 74 [.int .i64 v84, .int .i64 v85, .int .i64 v86] [] = some (.bool r88, []) := by
  unfold F74_0 at h
  by_cases c87 : v85 ≤ v84
  · rw [if_pos c87] at h
    have c87d := dt c87
    cases h
    refine ev_call (fn := a74) rfl ⟨0, fun n hn => ?_⟩
    simp (maxSteps := 2000000) only [W, reduceIte, Nat.reduceEqDiff, Nat.reduceAdd, Nat.reduceSub, Nat.reduceLT, Nat.reduceLeDiff, Nat.reduceMul, a74, c87d]
  · rw [if_neg c87] at h
    have c87d := df c87
    cases h
    refine ev_call (fn := a74) rfl ⟨0, fun n hn => ?_⟩
    simp (maxSteps := 2000000) only [W, reduceIte, Nat.reduceEqDiff, Nat.reduceAdd, Nat.reduceSub, Nat.reduceLT, Nat.reduceLeDiff, Nat.reduceMul, a74, c87d]
end Go.AI
end
section
/-
  Functions, walked through: water.CheckNet$1.
-/
set_option linter.unusedVariables false
set_option linter.unusedSimpArgs false
set_option maxRecDepth 100000
set_option maxHeartbeats 4000000
namespace Go.AI
end Go.AI
end
section
/-
  Functions, walked through: water.CheckNet, water.loss, water.LossOf.
-/
set_option linter.unusedVariables false
set_option linter.unusedSimpArgs false
set_option maxRecDepth 100000
set_option maxHeartbeats 4000000
namespace Go.AI
end Go.AI
end
section
/-
  Functions, walked through: guidevaneref02.conduitErr, guidevaneref02.CheckNet, guidevaneref02.FlowErr, guidevanebase.Size, guidevaneref02.Loss.
-/
set_option linter.unusedVariables false
set_option linter.unusedSimpArgs false
set_option maxRecDepth 100000
set_option maxHeartbeats 4000000
namespace Go.AI
end Go.AI
end
section
/-
  Functions, walked through: guidevanelaw02.WaterNets, guidevaneref02.ResistErr, guidevaneref02.ResistsErr, guidevaneref02.DropErr, guidevanebase.CopyInts, water.resistsErr$1, slices.IndexFunc[[]int,int], slices.ContainsFunc[[]int,int], water.resistsErr, water.dropErr, water.through$1, water.least.
-/
set_option linter.unusedVariables false
set_option linter.unusedSimpArgs false
set_option maxRecDepth 100000
set_option maxHeartbeats 4000000
namespace Go.AI
theorem c44_0 (v554 : Int) (r559 : Int) (h : F44_0 v554 = some r559) : Ev fun n => (ex tab n).call 44 [.int .i64 v554] [] = some (.int .i64 r559, []) := by
  unfold F44_0 at h
  obtain ⟨r557, g555, h⟩ := un1 h
  obtain ⟨N556, kN556⟩ := c20_0 v554 1 1000 _ g555
  by_cases c558 : r557 = true
  · rw [if_pos c558] at h
    have c558d := c558
    cases h
    refine ev_call (fn := a44) rfl ⟨N556, fun n hn => ?_⟩
    have kN556 := kN556 n (by omega)
    try simp (maxSteps := 2000000) only [wn] at kN556
    simp (maxSteps := 2000000) only [W, reduceIte, Nat.reduceEqDiff, Nat.reduceAdd, Nat.reduceSub, Nat.reduceLT, Nat.reduceLeDiff, Nat.reduceMul, a44, kN556, c558d]
  · rw [if_neg c558] at h
    have c558d := bf c558
    cases h
    refine ev_call (fn := a44) rfl ⟨N556, fun n hn => ?_⟩
    have kN556 := kN556 n (by omega)
    try simp (maxSteps := 2000000) only [wn] at kN556
    simp (maxSteps := 2000000) only [W, reduceIte, Nat.reduceEqDiff, Nat.reduceAdd, Nat.reduceSub, Nat.reduceLT, Nat.reduceLeDiff, Nat.reduceMul, a44, kN556, c558d]
noncomputable def h23l0_0 (z0 : Bool) (v549 : List Int) : (Int) → Env × Heap
  | v548 => ([(0, .slice 0 0 v549.length v549.length 1 false), (3, .int .i64 v548)], [.row z0 true (rowC v549)])
noncomputable def q23l0_0 (z0 : Bool) (v549 : List Int) : ((Unit) ⊕ (Int)) → AExit × Env × Heap
  | .inl (_) => (.exit 0, [(2, .undef)], [.row z0 true (rowC v549)])
  | .inr (r564) => (.ret, [(2, .int .i64 r564)], [.row z0 true (rowC v549)])
theorem k23l0_0 (z0 : Bool) (v549 : List Int) (s : Int) (o : (Unit) ⊕ (Int)) (h : L23l0_0 v549 s = some o) : Ev fun n => loopAt [0, 3] [2] a23l0b (ex tab n) 1 (h23l0_0 z0 v549 s) = some (q23l0_0 z0 v549 o) := by
  refine iter_sound (S23l0_0 v549) [0, 3] [2] a23l0b 1 (h23l0_0 z0 v549) (q23l0_0 z0 v549) ?_ _ _ _ h
  rintro v548 z h
  simp only [S23l0_0] at h
  by_cases c550 : (v549.length : Int) ≤ v548
  · rw [if_pos c550] at h
    have c550d := dt c550
    cases h
    refine ⟨0, fun n hn => ?_⟩
    simp (maxSteps := 2000000) only [W, reduceIte, Nat.reduceEqDiff, Nat.reduceAdd, Nat.reduceSub, Nat.reduceLT, Nat.reduceLeDiff, Nat.reduceMul, h23l0_0, q23l0_0, a23l0b, c550d]
  · rw [if_neg c550] at h
    have c550d := df c550
    obtain ⟨j551, x552, g553, h⟩ := un2 h
    obtain ⟨g5531, g5532⟩ := geti_in g553
    have g5533 := ac_Int g5532
    try simp only [wn] at g5531
    obtain ⟨r562, g560, h⟩ := un1 h
    obtain ⟨N561, kN561⟩ := c44_0 x552 _ g560
    by_cases c563 : r562 = 0
    · rw [if_pos c563] at h
      have c563d := dt c563
      cases h
      refine ⟨N561, fun n hn => ?_⟩
      have kN561 := kN561 n (by omega)
      try simp (maxSteps := 2000000) only [wn] at kN561
      simp (maxSteps := 2000000) only [W, reduceIte, Nat.reduceEqDiff, Nat.reduceAdd, Nat.reduceSub, Nat.reduceLT, Nat.reduceLeDiff, Nat.reduceMul, h23l0_0, q23l0_0, a23l0b, c550d, g5531, g5533, kN561, c563d]
    · rw [if_neg c563] at h
      have c563d := df c563
      cases h
      refine ⟨N561, fun n hn => ?_⟩
      have kN561 := kN561 n (by omega)
      try simp (maxSteps := 2000000) only [wn] at kN561
      simp (maxSteps := 2000000) only [W, reduceIte, Nat.reduceEqDiff, Nat.reduceAdd, Nat.reduceSub, Nat.reduceLT, Nat.reduceLeDiff, Nat.reduceMul, h23l0_0, q23l0_0, a23l0b, c550d, g5531, g5533, kN561, c563d]
theorem c23_0 (z0 : Bool) (v545 : List Int) (r568 : Int) (h : F23_0 v545 = some r568) : Ev fun n => (ex tab n).call 23 [.slice 0 0 v545.length v545.length 1 false] [.row z0 true (rowC v545)] = some (.int .i64 r568, [.row z0 true (rowC v545)]) := by
  unfold F23_0 at h
  by_cases c546 : (v545.length : Int) = 0
  · rw [if_pos c546] at h
    have c546d := dt c546
    cases h
    refine ev_call (fn := a23) rfl ⟨0, fun n hn => ?_⟩
    simp (maxSteps := 2000000) only [W, reduceIte, Nat.reduceEqDiff, Nat.reduceAdd, Nat.reduceSub, Nat.reduceLT, Nat.reduceLeDiff, Nat.reduceMul, a23, a23l0, c546d, @x_loopAt]
  · rw [if_neg c546] at h
    have c546d := df c546
    by_cases c547 : (v545.length : Int) ≤ 8
    · rw [if_pos c547] at h
      have c547d := dt c547
      obtain ⟨g565_, g565, h⟩ := un1 h
      rcases g565_ with _ | r567
      · dsimp only at h
        have kN566 := k23l0_0 z0 v545 0 _ g565
        obtain ⟨N566, kN566⟩ := kN566
        cases h
        refine ev_call (fn := a23) rfl ⟨N566, fun n hn => ?_⟩
        have kN566 := kN566 n (by omega)
        simp (maxSteps := 2000000) only [h23l0_0, q23l0_0, wn] at kN566
        simp (maxSteps := 2000000) only [W, reduceIte, Nat.reduceEqDiff, Nat.reduceAdd, Nat.reduceSub, Nat.reduceLT, Nat.reduceLeDiff, Nat.reduceMul, a23, a23l0, c546d, c547d, kN566, @x_loopAt]
      · dsimp only at h
        have kN566 := k23l0_0 z0 v545 0 _ g565
        obtain ⟨N566, kN566⟩ := kN566
        cases h
        refine ev_call (fn := a23) rfl ⟨N566, fun n hn => ?_⟩
        have kN566 := kN566 n (by omega)
        simp (maxSteps := 2000000) only [h23l0_0, q23l0_0, wn] at kN566
        simp (maxSteps := 2000000) only [W, reduceIte, Nat.reduceEqDiff, Nat.reduceAdd, Nat.reduceSub, Nat.reduceLT, Nat.reduceLeDiff, Nat.reduceMul, a23, a23l0, c546d, c547d, kN566, @x_loopAt]
    · rw [if_neg c547] at h
      have c547d := df c547
      cases h
      refine ev_call (fn := a23) rfl ⟨0, fun n hn => ?_⟩
      simp (maxSteps := 2000000) only [W, reduceIte, Nat.reduceEqDiff, Nat.reduceAdd, Nat.reduceSub, Nat.reduceLT, Nat.reduceLeDiff, Nat.reduceMul, a23, a23l0, c546d, c547d, @x_loopAt]
theorem c24_0 (v574 : Int) (r579 : Int) (h : F24_0 v574 = some r579) : Ev fun n => (ex tab n).call 24 [.int .i64 v574] [] = some (.int .i64 r579, []) := by
  unfold F24_0 at h
  obtain ⟨r577, g575, h⟩ := un1 h
  obtain ⟨N576, kN576⟩ := c20_0 v574 0 1000000000 _ g575
  by_cases c578 : r577 = true
  · rw [if_pos c578] at h
    have c578d := c578
    cases h
    refine ev_call (fn := a24) rfl ⟨N576, fun n hn => ?_⟩
    have kN576 := kN576 n (by omega)
    try simp (maxSteps := 2000000) only [wn] at kN576
    simp (maxSteps := 2000000) only [W, reduceIte, Nat.reduceEqDiff, Nat.reduceAdd, Nat.reduceSub, Nat.reduceLT, Nat.reduceLeDiff, Nat.reduceMul, a24, kN576, c578d]
  · rw [if_neg c578] at h
    have c578d := bf c578
    cases h
    refine ev_call (fn := a24) rfl ⟨N576, fun n hn => ?_⟩
    have kN576 := kN576 n (by omega)
    try simp (maxSteps := 2000000) only [wn] at kN576
    simp (maxSteps := 2000000) only [W, reduceIte, Nat.reduceEqDiff, Nat.reduceAdd, Nat.reduceSub, Nat.reduceLT, Nat.reduceLeDiff, Nat.reduceMul, a24, kN576, c578d]
theorem c26_0 (z0 : Bool) (v596 : List Int) (h : F26_0 v596 = some ()) : Ev fun n => (ex tab n).call 26 [.slice 0 0 v596.length v596.length 1 false] [.row z0 true (rowC v596)] = some (.slice 1 0 v596.length v596.length 1 false, [.row z0 true (rowC v596), .row true true (rowC v596)]) := by
  unfold F26_0 at h
  obtain ⟨g597, h⟩ := un_roomd h
  cases h
  refine ev_call (fn := a26) rfl ⟨0, fun n hn => ?_⟩
  simp (maxSteps := 2000000) only [W, reduceIte, Nat.reduceEqDiff, Nat.reduceAdd, Nat.reduceSub, Nat.reduceLT, Nat.reduceLeDiff, Nat.reduceMul, a26, g597]
theorem c133_0 (v613 : Int) (r617 : Bool) (h : F133_0 v613 = some r617) : Ev fun n => (ex tab n).call 133 [.int .i64 v613] [] = some (.bool r617, []) := by
  unfold F133_0 at h
  obtain ⟨r616, g614, h⟩ := un1 h
  obtain ⟨N615, kN615⟩ := c74_0 v613 1 1000 _ g614
  cases h
  refine ev_call (fn := a133) rfl ⟨N615, fun n hn => ?_⟩
  have kN615 := kN615 n (by omega)
  try simp (maxSteps := 2000000) only [wn] at kN615
  simp (maxSteps := 2000000) only [W, reduceIte, Nat.reduceEqDiff, Nat.reduceAdd, Nat.reduceSub, Nat.reduceLT, Nat.reduceLeDiff, Nat.reduceMul, a133, kN615]
noncomputable def h149l0_0 (z0 : Bool) (v606 : Int) (v608 : List Int) : (Int) → Env × Heap
  | v607 => ([(0, .slice 0 0 v608.length v608.length 1 false), (1, .func 133 [] []), (7, .int .i64 v606), (8, .int .i64 v607)], [.row z0 true (rowC v608)])
noncomputable def q149l0_0 (z0 : Bool) (v606 : Int) (v608 : List Int) : ((Unit) ⊕ (Int)) → AExit × Env × Heap
  | .inl (_) => (.exit 0, [(4, .undef)], [.row z0 true (rowC v608)])
  | .inr (r622) => (.ret, [(4, .int .i64 r622)], [.row z0 true (rowC v608)])
theorem k149l0_0 (z0 : Bool) (v606 : Int) (v608 : List Int) (s : Int) (o : (Unit) ⊕ (Int)) (h : L149l0_0 v606 v608 s = some o) : Ev fun n => loopAt [0, 1, 7, 8] [4] a149l0b (ex tab n) 1 (h149l0_0 z0 v606 v608 s) = some (q149l0_0 z0 v606 v608 o) := by
  refine iter_sound (S149l0_0 v606 v608) [0, 1, 7, 8] [4] a149l0b 1 (h149l0_0 z0 v606 v608) (q149l0_0 z0 v606 v608) ?_ _ _ _ h
  rintro v607 z h
  simp only [S149l0_0] at h
  by_cases c609 : v606 ≤ v607
  · rw [if_pos c609] at h
    have c609d := dt c609
    cases h
    refine ⟨0, fun n hn => ?_⟩
    simp (maxSteps := 2000000) only [W, reduceIte, Nat.reduceEqDiff, Nat.reduceAdd, Nat.reduceSub, Nat.reduceLT, Nat.reduceLeDiff, Nat.reduceMul, h149l0_0, q149l0_0, a149l0b, c609d]
  · rw [if_neg c609] at h
    have c609d := df c609
    obtain ⟨j610, x611, g612, h⟩ := un2 h
    obtain ⟨g6121, g6122⟩ := geti_in g612
    have g6123 := ac_Int g6122
    try simp only [wn] at g6121
    obtain ⟨r620, g618, h⟩ := un1 h
    obtain ⟨N619, kN619⟩ := c133_0 x611 _ g618
    by_cases c621 : r620 = true
    · rw [if_pos c621] at h
      have c621d := c621
      cases h
      refine ⟨N619, fun n hn => ?_⟩
      have kN619 := kN619 n (by omega)
      try simp (maxSteps := 2000000) only [wn] at kN619
      simp (maxSteps := 2000000) only [W, reduceIte, Nat.reduceEqDiff, Nat.reduceAdd, Nat.reduceSub, Nat.reduceLT, Nat.reduceLeDiff, Nat.reduceMul, h149l0_0, q149l0_0, a149l0b, c609d, g6121, g6123, kN619, c621d]
    · rw [if_neg c621] at h
      have c621d := bf c621
      cases h
      refine ⟨N619, fun n hn => ?_⟩
      have kN619 := kN619 n (by omega)
      try simp (maxSteps := 2000000) only [wn] at kN619
      simp (maxSteps := 2000000) only [W, reduceIte, Nat.reduceEqDiff, Nat.reduceAdd, Nat.reduceSub, Nat.reduceLT, Nat.reduceLeDiff, Nat.reduceMul, h149l0_0, q149l0_0, a149l0b, c609d, g6121, g6123, kN619, c621d]
theorem c149_0 (z0 : Bool) (v605 : List Int) (r626 : Int) (h : F149_0 v605 = some r626) : Ev fun n => (ex tab n).call 149 [.slice 0 0 v605.length v605.length 1 false, .func 133 [] []] [.row z0 true (rowC v605)] = some (.int .i64 r626, [.row z0 true (rowC v605)]) := by
  unfold F149_0 at h
  obtain ⟨g623_, g623, h⟩ := un1 h
  rcases g623_ with _ | r625
  · dsimp only at h
    have kN624 := k149l0_0 z0 (v605.length : Int) v605 0 _ g623
    obtain ⟨N624, kN624⟩ := kN624
    cases h
    refine ev_call (fn := a149) rfl ⟨N624, fun n hn => ?_⟩
    have kN624 := kN624 n (by omega)
    simp (maxSteps := 2000000) only [h149l0_0, q149l0_0, wn] at kN624
    simp (maxSteps := 2000000) only [W, reduceIte, Nat.reduceEqDiff, Nat.reduceAdd, Nat.reduceSub, Nat.reduceLT, Nat.reduceLeDiff, Nat.reduceMul, a149, a149l0, kN624, @x_loopAt]
  · dsimp only at h
    have kN624 := k149l0_0 z0 (v605.length : Int) v605 0 _ g623
    obtain ⟨N624, kN624⟩ := kN624
    cases h
    refine ev_call (fn := a149) rfl ⟨N624, fun n hn => ?_⟩
    have kN624 := kN624 n (by omega)
    simp (maxSteps := 2000000) only [h149l0_0, q149l0_0, wn] at kN624
    simp (maxSteps := 2000000) only [W, reduceIte, Nat.reduceEqDiff, Nat.reduceAdd, Nat.reduceSub, Nat.reduceLT, Nat.reduceLeDiff, Nat.reduceMul, a149, a149l0, kN624, @x_loopAt]
theorem c119_0 (z0 : Bool) (v604 : List Int) (r630 : Bool) (h : F119_0 v604 = some r630) : Ev fun n => (ex tab n).call 119 [.slice 0 0 v604.length v604.length 1 false, .func 133 [] []] [.row z0 true (rowC v604)] = some (.bool r630, [.row z0 true (rowC v604)]) := by
  unfold F119_0 at h
  obtain ⟨r629, g627, h⟩ := un1 h
  obtain ⟨N628, kN628⟩ := c149_0 z0 v604 _ g627
  cases h
  refine ev_call (fn := a119) rfl ⟨N628, fun n hn => ?_⟩
  have kN628 := kN628 n (by omega)
  try simp (maxSteps := 2000000) only [wn] at kN628
  simp (maxSteps := 2000000) only [W, reduceIte, Nat.reduceEqDiff, Nat.reduceAdd, Nat.reduceSub, Nat.reduceLT, Nat.reduceLeDiff, Nat.reduceMul, a119, kN628]
theorem c80_0 (z0 : Bool) (v603 : List Int) (r646 : Int) (h : F80_0 v603 = some r646) : Ev fun n => (ex tab n).call 80 [.slice 0 0 v603.length v603.length 1 false] [.row z0 true (rowC v603)] = some (.int .i64 r646, [.row z0 true (rowC v603)]) := by
  unfold F80_0 at h
  obtain ⟨r633, g631, h⟩ := un1 h
  obtain ⟨N632, kN632⟩ := c119_0 z0 v603 _ g631
  obtain ⟨r636, g634, h⟩ := un1 h
  obtain ⟨N635, kN635⟩ := c72_0 (!(decide ((v603.length : Int) ≤ 0))) 10 _ g634
  obtain ⟨r639, g637, h⟩ := un1 h
  obtain ⟨N638, kN638⟩ := c72_0 (decide ((v603.length : Int) ≤ 8)) 8 _ g637
  obtain ⟨r642, g640, h⟩ := un1 h
  obtain ⟨N641, kN641⟩ := c72_0 (!r633) 2 _ g640
  obtain ⟨r645, g643, h⟩ := un1 h
  obtain ⟨N644, kN644⟩ := c71_0 true ([r636, r639, r642] : List Int) _ g643
  cases h
  refine ev_call (fn := a80) rfl ⟨N632 + N635 + N638 + N641 + N644, fun n hn => ?_⟩
  have kN632 := kN632 n (by omega)
  try simp (maxSteps := 2000000) only [wn] at kN632
  have kN635 := kN635 n (by omega)
  try simp (maxSteps := 2000000) only [wn] at kN635
  have kN638 := kN638 n (by omega)
  try simp (maxSteps := 2000000) only [wn] at kN638
  have kN641 := kN641 n (by omega)
  try simp (maxSteps := 2000000) only [wn] at kN641
  have kN644 := kN644 n (by omega)
  try simp (maxSteps := 2000000) only [wn] at kN644
  simp (maxSteps := 2000000) only [W, reduceIte, Nat.reduceEqDiff, Nat.reduceAdd, Nat.reduceSub, Nat.reduceLT, Nat.reduceLeDiff, Nat.reduceMul, a80, kN632, kN635, kN638, kN641, kN644]
theorem c81_0 (v650 : Int) (r657 : Int) (h : F81_0 v650 = some r657) : Ev fun n => (ex tab n).call 81 [.int .i64 v650] [] = some (.int .i64 r657, []) := by
  unfold F81_0 at h
  obtain ⟨r653, g651, h⟩ := un1 h
  obtain ⟨N652, kN652⟩ := c74_0 v650 0 1000000000 _ g651
  obtain ⟨r656, g654, h⟩ := un1 h
  obtain ⟨N655, kN655⟩ := c72_0 r653 2 _ g654
  cases h
  refine ev_call (fn := a81) rfl ⟨N652 + N655, fun n hn => ?_⟩
  have kN652 := kN652 n (by omega)
  try simp (maxSteps := 2000000) only [wn] at kN652
  have kN655 := kN655 n (by omega)
  try simp (maxSteps := 2000000) only [wn] at kN655
  simp (maxSteps := 2000000) only [W, reduceIte, Nat.reduceEqDiff, Nat.reduceAdd, Nat.reduceSub, Nat.reduceLT, Nat.reduceLeDiff, Nat.reduceMul, a81, kN652, kN655]
theorem c134_0 (z0 : Bool) (z1 : Bool) (v691 : Int) (v692 : Int) (v693 : Int) (r694 : Bool) (h : F134_0 v691 v692 v693 = some r694) : Ev fun n => (ex tab n).call 134 [.int .i64 v691, .ptr 0 0, .ptr 1 0] [.row z0 true [.int .i64 v692], .row z1 true [.int .i64 v693]] = some (.bool r694, [.row z0 true [.int .i64 v692], .row z1 true [.int .i64 v693]]) := by
  unfold F134_0 at h
  cases h
  refine ev_call (fn := a134) rfl ⟨0, fun n hn => ?_⟩
  simp (maxSteps := 2000000) only [W, reduceIte, Nat.reduceEqDiff, Nat.reduceAdd, Nat.reduceSub, Nat.reduceLT, Nat.reduceLeDiff, Nat.reduceMul, a134]
noncomputable def h84l0_0 (z0 : Bool) (z1 : Bool) (v687 : Int) (v688 : Int) : (Int × Int) → Env × Heap
  | (v685, v686) => ([(0, .int .i64 v685), (1, .int .i64 v686), (2, .func 134 [] [.ptr 0 0, .ptr 1 0])], [.row z0 true [.int .i64 v687], .row z1 true [.int .i64 v688]])
noncomputable def q84l0_0 (z0 : Bool) (z1 : Bool) (v687 : Int) (v688 : Int) : (Int) → AExit × Env × Heap
  | r699 => (.exit 0, [(0, .int .i64 r699), (6, .undef)], [.row z0 true [.int .i64 v687], .row z1 true [.int .i64 v688]])
theorem k84l0_0 (z0 : Bool) (z1 : Bool) (v687 : Int) (v688 : Int) (s : Int × Int) (o : Int) (h : L84l0_0 v687 v688 s = some o) : Ev fun n => loopAt [0, 1, 2] [0, 6] a84l0b (ex tab n) 2 (h84l0_0 z0 z1 v687 v688 s) = some (q84l0_0 z0 z1 v687 v688 o) := by
  refine iter_sound (S84l0_0 v687 v688) [0, 1, 2] [0, 6] a84l0b 2 (h84l0_0 z0 z1 v687 v688) (q84l0_0 z0 z1 v687 v688) ?_ _ _ _ h
  rintro ⟨v685, v686⟩ z h
  simp only [S84l0_0] at h
  by_cases c689 : v686 ≤ v685
  · rw [if_pos c689] at h
    have c689d := dt c689
    cases h
    refine ⟨0, fun n hn => ?_⟩
    simp (maxSteps := 2000000) only [W, reduceIte, Nat.reduceEqDiff, Nat.reduceAdd, Nat.reduceSub, Nat.reduceLT, Nat.reduceLeDiff, Nat.reduceMul, h84l0_0, q84l0_0, a84l0b, c689d]
  · rw [if_neg c689] at h
    have c689d := df c689
    have d690 := fun x => bin_quo .i64 x 2 (by decide)
    obtain ⟨r697, g695, h⟩ := un1 h
    obtain ⟨N696, kN696⟩ := c134_0 z0 z1 (aw .i64 (v685 + (aw .i64 (Int.tdiv (aw .i64 (v686 - v685)) 2)))) v687 v688 _ g695
    by_cases c698 : r697 = true
    · rw [if_pos c698] at h
      have c698d := c698
      cases h
      refine ⟨N696, fun n hn => ?_⟩
      have kN696 := kN696 n (by omega)
      try simp (maxSteps := 2000000) only [wn] at kN696
      simp (maxSteps := 2000000) only [W, reduceIte, Nat.reduceEqDiff, Nat.reduceAdd, Nat.reduceSub, Nat.reduceLT, Nat.reduceLeDiff, Nat.reduceMul, h84l0_0, q84l0_0, a84l0b, c689d, d690, kN696, c698d]
    · rw [if_neg c698] at h
      have c698d := bf c698
      cases h
      refine ⟨N696, fun n hn => ?_⟩
      have kN696 := kN696 n (by omega)
      try simp (maxSteps := 2000000) only [wn] at kN696
      simp (maxSteps := 2000000) only [W, reduceIte, Nat.reduceEqDiff, Nat.reduceAdd, Nat.reduceSub, Nat.reduceLT, Nat.reduceLeDiff, Nat.reduceMul, h84l0_0, q84l0_0, a84l0b, c689d, d690, kN696, c698d]
theorem c84_0 (z0 : Bool) (z1 : Bool) (v681 : Int) (v682 : Int) (v683 : Int) (v684 : Int) (r703 : Int) (h : F84_0 v681 v682 v683 v684 = some r703) : Ev fun n => (ex tab n).call 84 [.int .i64 v681, .int .i64 v682, .func 134 [] [.ptr 0 0, .ptr 1 0]] [.row z0 true [.int .i64 v683], .row z1 true [.int .i64 v684]] = some (.int .i64 r703, [.row z0 true [.int .i64 v683], .row z1 true [.int .i64 v684]]) := by
  unfold F84_0 at h
  obtain ⟨r702, g700, h⟩ := un1 h
  have kN701 := k84l0_0 z0 z1 v683 v684 (v681, v682) _ g700
  obtain ⟨N701, kN701⟩ := kN701
  cases h
  refine ev_call (fn := a84) rfl ⟨N701, fun n hn => ?_⟩
  have kN701 := kN701 n (by omega)
  simp (maxSteps := 2000000) only [h84l0_0, q84l0_0, wn] at kN701
  simp (maxSteps := 2000000) only [W, reduceIte, Nat.reduceEqDiff, Nat.reduceAdd, Nat.reduceSub, Nat.reduceLT, Nat.reduceLeDiff, Nat.reduceMul, a84, a84l0, kN701, @x_loopAt]
end Go.AI
end
section
/-
  Functions, walked through: water.through, water.parallel, water.ParallelOf, guidevanebase.CopyInts, water.FlowThrough, water.DropFor$1, water.least, water.DropFor$2, water.least, water.DropFor.
-/
set_option linter.unusedVariables false
set_option linter.unusedSimpArgs false
set_option maxRecDepth 100000
set_option maxHeartbeats 4000000
namespace Go.AI
theorem c83_0 (v679 : Int) (v680 : Int) (r708 : Int) (r709 : Int) (h : F83_0 v679 v680 = some (r708, r709)) : Ev fun n => (ex tab n).call 83 [.int .i64 v679, .int .i64 v680] [] = some (.agg [.int .i64 r708, .int .i64 r709], []) := by
  unfold F83_0 at h
  obtain ⟨r706, g704, h⟩ := un1 h
  obtain ⟨N705, kN705⟩ := c84_0 true true 0 31623 v679 v680 _ g704
  by_cases c707 : (aw .i64 ((aw .i64 (v679 * r706)) * r706)) ≤ v680
  · rw [if_pos c707] at h
    have c707d := dt c707
    cases h
    refine ev_call (fn := a83) rfl ⟨N705, fun n hn => ?_⟩
    have kN705 := kN705 n (by omega)
    try simp (maxSteps := 2000000) only [wn] at kN705
    simp (maxSteps := 2000000) only [W, reduceIte, Nat.reduceEqDiff, Nat.reduceAdd, Nat.reduceSub, Nat.reduceLT, Nat.reduceLeDiff, Nat.reduceMul, a83, kN705, c707d]
  · rw [if_neg c707] at h
    have c707d := df c707
    cases h
    refine ev_call (fn := a83) rfl ⟨N705, fun n hn => ?_⟩
    have kN705 := kN705 n (by omega)
    try simp (maxSteps := 2000000) only [wn] at kN705
    simp (maxSteps := 2000000) only [W, reduceIte, Nat.reduceEqDiff, Nat.reduceAdd, Nat.reduceSub, Nat.reduceLT, Nat.reduceLeDiff, Nat.reduceMul, a83, kN705, c707d]
noncomputable def h82l0_0 (z0 : Bool) (v714 : Int) (v715 : Int) (v717 : List Int) : (Int × Int × Int) → Env × Heap
  | (v716, v720, v721) => ([(1, .int .i64 v714), (4, .ptr 1 0), (5, .ptr 2 0), (9, .slice 0 0 v717.length v717.length 1 false), (10, .int .i64 v715), (11, .int .i64 v716)], [.row z0 true (rowC v717), .row true true [.int .i64 0, .int .i64 0], .row true true [.int .i64 v720, .int .i64 v721]])
noncomputable def q82l0_0 (z0 : Bool) (v714 : Int) (v715 : Int) (v717 : List Int) : (Int × Int) → AExit × Env × Heap
  | (r730, r731) => (.exit 0, [(4, .ptr 1 0), (5, .ptr 2 0)], [.row z0 true (rowC v717), .row true true [.int .i64 0, .int .i64 0], .row true true [.int .i64 r730, .int .i64 r731]])
theorem k82l0_0 (z0 : Bool) (v714 : Int) (v715 : Int) (v717 : List Int) (s : Int × Int × Int) (o : Int × Int) (h : L82l0_0 v714 v715 v717 s = some o) : Ev fun n => loopAt [1, 4, 5, 9, 10, 11] [4, 5] a82l0b (ex tab n) 1 (h82l0_0 z0 v714 v715 v717 s) = some (q82l0_0 z0 v714 v715 v717 o) := by
  refine iter_sound (S82l0_0 v714 v715 v717) [1, 4, 5, 9, 10, 11] [4, 5] a82l0b 1 (h82l0_0 z0 v714 v715 v717) (q82l0_0 z0 v714 v715 v717) ?_ _ _ _ h
  rintro ⟨v716, v720, v721⟩ z h
  simp only [S82l0_0] at h
  by_cases c722 : v715 ≤ v716
  · rw [if_pos c722] at h
    have c722d := dt c722
    cases h
    refine ⟨0, fun n hn => ?_⟩
    simp (maxSteps := 2000000) only [W, reduceIte, Nat.reduceEqDiff, Nat.reduceAdd, Nat.reduceSub, Nat.reduceLT, Nat.reduceLeDiff, Nat.reduceMul, h82l0_0, q82l0_0, a82l0b, c722d]
  · rw [if_neg c722] at h
    have c722d := df c722
    obtain ⟨j723, x724, g725, h⟩ := un2 h
    obtain ⟨g7251, g7252⟩ := geti_in g725
    have g7253 := ac_Int g7252
    try simp only [wn] at g7251
    obtain ⟨r728, r729, g726, h⟩ := un2 h
    obtain ⟨N727, kN727⟩ := c83_0 x724 v714 _ _ g726
    cases h
    refine ⟨N727, fun n hn => ?_⟩
    have kN727 := kN727 n (by omega)
    try simp (maxSteps := 2000000) only [wn] at kN727
    simp (maxSteps := 2000000) only [W, reduceIte, Nat.reduceEqDiff, Nat.reduceAdd, Nat.reduceSub, Nat.reduceLT, Nat.reduceLeDiff, Nat.reduceMul, h82l0_0, q82l0_0, a82l0b, c722d, g7251, g7253, kN727]
theorem c82_0 (z0 : Bool) (v665 : Int) (v666 : List Int) (r736 : Int) (r737 : Int) (h : F82_0 v665 v666 = some (r736, r737)) : Ev fun n => (ex tab n).call 82 [.slice 0 0 v666.length v666.length 1 false, .int .i64 v665] [.row z0 true (rowC v666)] = some (.agg [.int .i64 r736, .int .i64 r737], [.row z0 true (rowC v666)]) := by
  unfold F82_0 at h
  obtain ⟨r734, r735, g732, h⟩ := un2 h
  have kN733 := k82l0_0 z0 v665 (v666.length : Int) v666 (0, 0, 0) _ g732
  obtain ⟨N733, kN733⟩ := kN733
  cases h
  refine ev_call (fn := a82) rfl ⟨N733, fun n hn => ?_⟩
  have kN733 := kN733 n (by omega)
  simp (maxSteps := 2000000) only [h82l0_0, q82l0_0, wn] at kN733
  simp (maxSteps := 2000000) only [W, reduceIte, Nat.reduceEqDiff, Nat.reduceAdd, Nat.reduceSub, Nat.reduceLT, Nat.reduceLeDiff, Nat.reduceMul, a82, a82l0, kN733, @x_loopAt]
theorem c25_0 (z0 : Bool) (v601 : Int) (v602 : List Int) (r742 : Int) (r743 : Int) (r744 : Int) (h : F25_0 v601 v602 = some (r742, r743, r744)) : Ev fun n => (ex tab n).call 25 [.slice 0 0 v602.length v602.length 1 false, .int .i64 v601] [.row z0 true (rowC v602)] = some (.tup [.agg [.int .i64 r742, .int .i64 r743], .int .i64 r744], [.row z0 true (rowC v602)]) := by
  unfold F25_0 at h
  obtain ⟨r649, g647, h⟩ := un1 h
  obtain ⟨N648, kN648⟩ := c80_0 z0 v602 _ g647
  obtain ⟨r660, g658, h⟩ := un1 h
  obtain ⟨N659, kN659⟩ := c81_0 v601 _ g658
  obtain ⟨r663, g661, h⟩ := un1 h
  obtain ⟨N662, kN662⟩ := c71_0 true ([r649, r660] : List Int) _ g661
  by_cases c664 : r663 = 0
  · rw [if_pos c664] at h
    have c664d := dt c664
    obtain ⟨r740, r741, g738, h⟩ := un2 h
    obtain ⟨N739, kN739⟩ := c82_0 z0 v601 v602 _ _ g738
    cases h
    refine ev_call (fn := a25) rfl ⟨N648 + N659 + N662 + N739, fun n hn => ?_⟩
    have kN648 := kN648 n (by omega)
    try simp (maxSteps := 2000000) only [wn] at kN648
    have kN659 := kN659 n (by omega)
    try simp (maxSteps := 2000000) only [wn] at kN659
    have kN662 := kN662 n (by omega)
    try simp (maxSteps := 2000000) only [wn] at kN662
    have kN739 := kN739 n (by omega)
    try simp (maxSteps := 2000000) only [wn] at kN739
    simp (maxSteps := 2000000) only [W, reduceIte, Nat.reduceEqDiff, Nat.reduceAdd, Nat.reduceSub, Nat.reduceLT, Nat.reduceLeDiff, Nat.reduceMul, a25, kN648, kN659, kN662, c664d, kN739]
  · rw [if_neg c664] at h
    have c664d := df c664
    cases h
    refine ev_call (fn := a25) rfl ⟨N648 + N659 + N662, fun n hn => ?_⟩
    have kN648 := kN648 n (by omega)
    try simp (maxSteps := 2000000) only [wn] at kN648
    have kN659 := kN659 n (by omega)
    try simp (maxSteps := 2000000) only [wn] at kN659
    have kN662 := kN662 n (by omega)
    try simp (maxSteps := 2000000) only [wn] at kN662
    simp (maxSteps := 2000000) only [W, reduceIte, Nat.reduceEqDiff, Nat.reduceAdd, Nat.reduceSub, Nat.reduceLT, Nat.reduceLeDiff, Nat.reduceMul, a25, kN648, kN659, kN662, c664d]
theorem c26_1 (z0 : Bool) (v760 : Nat) (v761 : Nat) (v762 : List Int) (r766 : List Int) (h : F26_1 v760 v761 v762 = some r766) : Ev fun n => (ex tab n).call 26 [.slice 0 0 v760 v761 1 false] [.row z0 true (rowC v762)] = some (.slice 1 0 r766.length r766.length 1 false, [.row z0 true (rowC v762), .row true true (rowC r766)]) := by
  unfold F26_1 at h
  obtain ⟨l764, g763, h⟩ := un1 h
  have g7633 := part_row g763
  try simp only [wn] at g7633
  obtain ⟨g765, h⟩ := un_roomd h
  cases h
  refine ev_call (fn := a26) rfl ⟨0, fun n hn => ?_⟩
  simp (maxSteps := 2000000) only [W, reduceIte, Nat.reduceEqDiff, Nat.reduceAdd, Nat.reduceSub, Nat.reduceLT, Nat.reduceLeDiff, Nat.reduceMul, a26, g7633, g765]
theorem c27_0 (v801 : Int) (v802 : Int) (r817 : Int) (r818 : Int) (r819 : Int) (h : F27_0 v801 v802 = some (r817, r818, r819)) : Ev fun n => (ex tab n).call 27 [.int .i64 v801, .int .i64 v802] [] = some (.tup [.agg [.int .i64 r817, .int .i64 r818], .int .i64 r819], []) := by
  unfold F27_0 at h
  obtain ⟨r805, g803, h⟩ := un1 h
  obtain ⟨N804, kN804⟩ := c80_0 true ([v801] : List Int) _ g803
  obtain ⟨r808, g806, h⟩ := un1 h
  obtain ⟨N807, kN807⟩ := c81_0 v802 _ g806
  obtain ⟨r811, g809, h⟩ := un1 h
  obtain ⟨N810, kN810⟩ := c71_0 true ([r805, r808] : List Int) _ g809
  by_cases c812 : r811 = 0
  · rw [if_pos c812] at h
    have c812d := dt c812
    obtain ⟨r815, r816, g813, h⟩ := un2 h
    obtain ⟨N814, kN814⟩ := c83_0 v801 v802 _ _ g813
    cases h
    refine ev_call (fn := a27) rfl ⟨N804 + N807 + N810 + N814, fun n hn => ?_⟩
    have kN804 := kN804 n (by omega)
    try simp (maxSteps := 2000000) only [wn] at kN804
    have kN807 := kN807 n (by omega)
    try simp (maxSteps := 2000000) only [wn] at kN807
    have kN810 := kN810 n (by omega)
    try simp (maxSteps := 2000000) only [wn] at kN810
    have kN814 := kN814 n (by omega)
    try simp (maxSteps := 2000000) only [wn] at kN814
    simp (maxSteps := 2000000) only [W, reduceIte, Nat.reduceEqDiff, Nat.reduceAdd, Nat.reduceSub, Nat.reduceLT, Nat.reduceLeDiff, Nat.reduceMul, a27, kN804, kN807, kN810, c812d, kN814]
  · rw [if_neg c812] at h
    have c812d := df c812
    cases h
    refine ev_call (fn := a27) rfl ⟨N804 + N807 + N810, fun n hn => ?_⟩
    have kN804 := kN804 n (by omega)
    try simp (maxSteps := 2000000) only [wn] at kN804
    have kN807 := kN807 n (by omega)
    try simp (maxSteps := 2000000) only [wn] at kN807
    have kN810 := kN810 n (by omega)
    try simp (maxSteps := 2000000) only [wn] at kN810
    simp (maxSteps := 2000000) only [W, reduceIte, Nat.reduceEqDiff, Nat.reduceAdd, Nat.reduceSub, Nat.reduceLT, Nat.reduceLeDiff, Nat.reduceMul, a27, kN804, kN807, kN810, c812d]
noncomputable def h4l0_0 (z0 : Bool) (v791 : Int) (v793 : List Int) (v794 : Int) (v795 : Int) : (Int) → Env × Heap
  | v792 => ([(0, .slice 0 0 v793.length v793.length 1 false), (2, .int .i64 v791), (4, .ptr 1 0), (13, .int .i64 v792)], [.row z0 true (rowC v793), .row true true [.int .i64 v794, .int .i64 v795]])
noncomputable def q4l0_0 (z0 : Bool) (v791 : Int) (v793 : List Int) (v794 : Int) (v795 : Int) : ((Unit) ⊕ (Unit)) → AExit × Env × Heap
  | .inl (_) => (.exit 0, [(0, .slice 0 0 v793.length v793.length 1 false), (2, .int .i64 v791), (6, .undef)], [.row z0 true (rowC v793)])
  | .inr (_) => (.ret, [(0, .slice 0 0 v793.length v793.length 1 false), (2, .int .i64 v791), (6, .bool false)], [.row z0 true (rowC v793)])
theorem k4l0_0 (z0 : Bool) (v791 : Int) (v793 : List Int) (v794 : Int) (v795 : Int) (s : Int) (o : (Unit) ⊕ (Unit)) (h : L4l0_0 v791 v793 v794 v795 s = some o) : Ev fun n => loopAt [0, 2, 4, 13] [0, 2, 6] a4l0b (ex tab n) 1 (h4l0_0 z0 v791 v793 v794 v795 s) = some (q4l0_0 z0 v791 v793 v794 v795 o) := by
  refine iter_sound (S4l0_0 v791 v793 v794 v795) [0, 2, 4, 13] [0, 2, 6] a4l0b 1 (h4l0_0 z0 v791 v793 v794 v795) (q4l0_0 z0 v791 v793 v794 v795) ?_ _ _ _ h
  rintro v792 z h
  simp only [S4l0_0] at h
  by_cases c796 : (v793.length : Int) ≤ v792
  · rw [if_pos c796] at h
    have c796d := dt c796
    cases h
    refine ⟨0, fun n hn => ?_⟩
    simp (maxSteps := 2000000) only [W, reduceIte, Nat.reduceEqDiff, Nat.reduceAdd, Nat.reduceSub, Nat.reduceLT, Nat.reduceLeDiff, Nat.reduceMul, h4l0_0, q4l0_0, a4l0b, c796d, wd]
  · rw [if_neg c796] at h
    have c796d := df c796
    obtain ⟨j797, x798, g799, h⟩ := un2 h
    obtain ⟨g7991, g7992⟩ := geti_in g799
    have g7993 := ac_Int g7992
    try simp only [wn] at g7991
    have d800 : inx (0 : Int) 2 = some 0 := by rfl
    obtain ⟨r822, r823, r824, g820, h⟩ := un3 h
    obtain ⟨N821, kN821⟩ := c27_0 x798 v794 _ _ _ g820
    by_cases c825 : r824 = 0
    · rw [if_pos c825] at h
      have c825d := dt c825
      obtain ⟨r828, g826, h⟩ := un1 h
      obtain ⟨N827, kN827⟩ := c20_0 r822 0 r823 _ g826
      by_cases c829 : r828 = true
      · rw [if_pos c829] at h
        have c829d := c829
        by_cases c830 : r823 ≤ 40000
        · rw [if_pos c830] at h
          have c830d := dt c830
          have d831 : inx (0 : Int) 2 = some 0 := by rfl
          by_cases c832 : (aw .i64 ((aw .i64 (x798 * r822)) * r822)) ≤ v794
          · rw [if_pos c832] at h
            have c832d := dt c832
            have d833 : inx (0 : Int) 2 = some 0 := by rfl
            by_cases c834 : v794 ≤ (aw .i64 ((aw .i64 (x798 * r823)) * r823))
            · rw [if_pos c834] at h
              have c834d := dt c834
              cases h
              refine ⟨N821 + N827, fun n hn => ?_⟩
              have kN821 := kN821 n (by omega)
              try simp (maxSteps := 2000000) only [wn] at kN821
              have kN827 := kN827 n (by omega)
              try simp (maxSteps := 2000000) only [wn] at kN827
              simp (maxSteps := 2000000) only [W, reduceIte, Nat.reduceEqDiff, Nat.reduceAdd, Nat.reduceSub, Nat.reduceLT, Nat.reduceLeDiff, Nat.reduceMul, h4l0_0, q4l0_0, a4l0b, c796d, g7991, g7993, d800, kN821, c825d, kN827, c829d, c830d, d831, c832d, d833, c834d, wd]
            · rw [if_neg c834] at h
              have c834d := df c834
              cases h
              refine ⟨N821 + N827, fun n hn => ?_⟩
              have kN821 := kN821 n (by omega)
              try simp (maxSteps := 2000000) only [wn] at kN821
              have kN827 := kN827 n (by omega)
              try simp (maxSteps := 2000000) only [wn] at kN827
              simp (maxSteps := 2000000) only [W, reduceIte, Nat.reduceEqDiff, Nat.reduceAdd, Nat.reduceSub, Nat.reduceLT, Nat.reduceLeDiff, Nat.reduceMul, h4l0_0, q4l0_0, a4l0b, c796d, g7991, g7993, d800, kN821, c825d, kN827, c829d, c830d, d831, c832d, d833, c834d, wd]
          · rw [if_neg c832] at h
            have c832d := df c832
            cases h
            refine ⟨N821 + N827, fun n hn => ?_⟩
            have kN821 := kN821 n (by omega)
            try simp (maxSteps := 2000000) only [wn] at kN821
            have kN827 := kN827 n (by omega)
            try simp (maxSteps := 2000000) only [wn] at kN827
            simp (maxSteps := 2000000) only [W, reduceIte, Nat.reduceEqDiff, Nat.reduceAdd, Nat.reduceSub, Nat.reduceLT, Nat.reduceLeDiff, Nat.reduceMul, h4l0_0, q4l0_0, a4l0b, c796d, g7991, g7993, d800, kN821, c825d, kN827, c829d, c830d, d831, c832d, wd]
        · rw [if_neg c830] at h
          have c830d := df c830
          cases h
          refine ⟨N821 + N827, fun n hn => ?_⟩
          have kN821 := kN821 n (by omega)
          try simp (maxSteps := 2000000) only [wn] at kN821
          have kN827 := kN827 n (by omega)
          try simp (maxSteps := 2000000) only [wn] at kN827
          simp (maxSteps := 2000000) only [W, reduceIte, Nat.reduceEqDiff, Nat.reduceAdd, Nat.reduceSub, Nat.reduceLT, Nat.reduceLeDiff, Nat.reduceMul, h4l0_0, q4l0_0, a4l0b, c796d, g7991, g7993, d800, kN821, c825d, kN827, c829d, c830d, wd]
      · rw [if_neg c829] at h
        have c829d := bf c829
        cases h
        refine ⟨N821 + N827, fun n hn => ?_⟩
        have kN821 := kN821 n (by omega)
        try simp (maxSteps := 2000000) only [wn] at kN821
        have kN827 := kN827 n (by omega)
        try simp (maxSteps := 2000000) only [wn] at kN827
        simp (maxSteps := 2000000) only [W, reduceIte, Nat.reduceEqDiff, Nat.reduceAdd, Nat.reduceSub, Nat.reduceLT, Nat.reduceLeDiff, Nat.reduceMul, h4l0_0, q4l0_0, a4l0b, c796d, g7991, g7993, d800, kN821, c825d, kN827, c829d, wd]
    · rw [if_neg c825] at h
      have c825d := df c825
      cases h
      refine ⟨N821, fun n hn => ?_⟩
      have kN821 := kN821 n (by omega)
      try simp (maxSteps := 2000000) only [wn] at kN821
      simp (maxSteps := 2000000) only [W, reduceIte, Nat.reduceEqDiff, Nat.reduceAdd, Nat.reduceSub, Nat.reduceLT, Nat.reduceLeDiff, Nat.reduceMul, h4l0_0, q4l0_0, a4l0b, c796d, g7991, g7993, d800, kN821, c825d, wd]
theorem c85_0 (z0 : Bool) (z1 : Bool) (z2 : Bool) (v864 : Int) (v865 : List Int) (v866 : Int) (r871 : Bool) (h : F85_0 v864 v865 v866 = some r871) : Ev fun n => (ex tab n).call 85 [.int .i64 v864, .ptr 0 0, .ptr 2 0] [.row z0 false [.slice 1 0 v865.length v865.length 1 false], .row z1 true (rowC v865), .row z2 true [.int .i64 v866]] = some (.bool r871, [.row z0 false [.slice 1 0 v865.length v865.length 1 false], .row z1 true (rowC v865), .row z2 true [.int .i64 v866]]) := by
  unfold F85_0 at h
  obtain ⟨r869, r870, g867, h⟩ := un2 h
  obtain ⟨N868, kN868⟩ := c82_0 false v864 v865 _ _ g867
  cases h
  refine ev_call (fn := a85) rfl ⟨N868, fun n hn => ?_⟩
  have kN868 := kN868 n (by omega)
  try simp (maxSteps := 2000000) only [wn] at kN868
  simp (maxSteps := 2000000) only [W, reduceIte, Nat.reduceEqDiff, Nat.reduceAdd, Nat.reduceSub, Nat.reduceLT, Nat.reduceLeDiff, Nat.reduceMul, a85, kN868, wd]
noncomputable def h84l0_1 (z0 : Bool) (z1 : Bool) (z2 : Bool) (v860 : List Int) (v861 : Int) : (Int × Int) → Env × Heap
  | (v858, v859) => ([(0, .int .i64 v858), (1, .int .i64 v859), (2, .func 85 [] [.ptr 0 0, .ptr 2 0])], [.row z0 false [.slice 1 0 v860.length v860.length 1 false], .row z1 true (rowC v860), .row z2 true [.int .i64 v861]])
noncomputable def q84l0_1 (z0 : Bool) (z1 : Bool) (z2 : Bool) (v860 : List Int) (v861 : Int) : (Int) → AExit × Env × Heap
  | r876 => (.exit 0, [(0, .int .i64 r876), (6, .undef)], [.row z0 false [.slice 1 0 v860.length v860.length 1 false], .row z1 true (rowC v860), .row z2 true [.int .i64 v861]])
theorem k84l0_1 (z0 : Bool) (z1 : Bool) (z2 : Bool) (v860 : List Int) (v861 : Int) (s : Int × Int) (o : Int) (h : L84l0_1 v860 v861 s = some o) : Ev fun n => loopAt [0, 1, 2] [0, 6] a84l0b (ex tab n) 3 (h84l0_1 z0 z1 z2 v860 v861 s) = some (q84l0_1 z0 z1 z2 v860 v861 o) := by
  refine iter_sound (S84l0_1 v860 v861) [0, 1, 2] [0, 6] a84l0b 3 (h84l0_1 z0 z1 z2 v860 v861) (q84l0_1 z0 z1 z2 v860 v861) ?_ _ _ _ h
  rintro ⟨v858, v859⟩ z h
  simp only [S84l0_1] at h
  by_cases c862 : v859 ≤ v858
  · rw [if_pos c862] at h
    have c862d := dt c862
    cases h
    refine ⟨0, fun n hn => ?_⟩
    simp (maxSteps := 2000000) only [W, reduceIte, Nat.reduceEqDiff, Nat.reduceAdd, Nat.reduceSub, Nat.reduceLT, Nat.reduceLeDiff, Nat.reduceMul, h84l0_1, q84l0_1, a84l0b, c862d]
  · rw [if_neg c862] at h
    have c862d := df c862
    have d863 := fun x => bin_quo .i64 x 2 (by decide)
    obtain ⟨r874, g872, h⟩ := un1 h
    obtain ⟨N873, kN873⟩ := c85_0 z0 z1 z2 (aw .i64 (v858 + (aw .i64 (Int.tdiv (aw .i64 (v859 - v858)) 2)))) v860 v861 _ g872
    by_cases c875 : r874 = true
    · rw [if_pos c875] at h
      have c875d := c875
      cases h
      refine ⟨N873, fun n hn => ?_⟩
      have kN873 := kN873 n (by omega)
      try simp (maxSteps := 2000000) only [wn] at kN873
      simp (maxSteps := 2000000) only [W, reduceIte, Nat.reduceEqDiff, Nat.reduceAdd, Nat.reduceSub, Nat.reduceLT, Nat.reduceLeDiff, Nat.reduceMul, h84l0_1, q84l0_1, a84l0b, c862d, d863, kN873, c875d]
    · rw [if_neg c875] at h
      have c875d := bf c875
      cases h
      refine ⟨N873, fun n hn => ?_⟩
      have kN873 := kN873 n (by omega)
      try simp (maxSteps := 2000000) only [wn] at kN873
      simp (maxSteps := 2000000) only [W, reduceIte, Nat.reduceEqDiff, Nat.reduceAdd, Nat.reduceSub, Nat.reduceLT, Nat.reduceLeDiff, Nat.reduceMul, h84l0_1, q84l0_1, a84l0b, c862d, d863, kN873, c875d]
theorem c84_1 (z0 : Bool) (z1 : Bool) (z2 : Bool) (v854 : Int) (v855 : Int) (v856 : List Int) (v857 : Int) (r880 : Int) (h : F84_1 v854 v855 v856 v857 = some r880) : Ev fun n => (ex tab n).call 84 [.int .i64 v854, .int .i64 v855, .func 85 [] [.ptr 0 0, .ptr 2 0]] [.row z0 false [.slice 1 0 v856.length v856.length 1 false], .row z1 true (rowC v856), .row z2 true [.int .i64 v857]] = some (.int .i64 r880, [.row z0 false [.slice 1 0 v856.length v856.length 1 false], .row z1 true (rowC v856), .row z2 true [.int .i64 v857]]) := by
  unfold F84_1 at h
  obtain ⟨r879, g877, h⟩ := un1 h
  have kN878 := k84l0_1 z0 z1 z2 v856 v857 (v854, v855) _ g877
  obtain ⟨N878, kN878⟩ := kN878
  cases h
  refine ev_call (fn := a84) rfl ⟨N878, fun n hn => ?_⟩
  have kN878 := kN878 n (by omega)
  simp (maxSteps := 2000000) only [h84l0_1, q84l0_1, wn] at kN878
  simp (maxSteps := 2000000) only [W, reduceIte, Nat.reduceEqDiff, Nat.reduceAdd, Nat.reduceSub, Nat.reduceLT, Nat.reduceLeDiff, Nat.reduceMul, a84, a84l0, kN878, @x_loopAt]
theorem c86_0 (z0 : Bool) (z1 : Bool) (z2 : Bool) (v894 : Int) (v895 : List Int) (v896 : Int) (r901 : Bool) (h : F86_0 v894 v895 v896 = some r901) : Ev fun n => (ex tab n).call 86 [.int .i64 v894, .ptr 0 0, .ptr 2 0] [.row z0 false [.slice 1 0 v895.length v895.length 1 false], .row z1 true (rowC v895), .row z2 true [.int .i64 v896]] = some (.bool r901, [.row z0 false [.slice 1 0 v895.length v895.length 1 false], .row z1 true (rowC v895), .row z2 true [.int .i64 v896]]) := by
  unfold F86_0 at h
  obtain ⟨r899, r900, g897, h⟩ := un2 h
  obtain ⟨N898, kN898⟩ := c82_0 false v894 v895 _ _ g897
  cases h
  refine ev_call (fn := a86) rfl ⟨N898, fun n hn => ?_⟩
  have kN898 := kN898 n (by omega)
  try simp (maxSteps := 2000000) only [wn] at kN898
  simp (maxSteps := 2000000) only [W, reduceIte, Nat.reduceEqDiff, Nat.reduceAdd, Nat.reduceSub, Nat.reduceLT, Nat.reduceLeDiff, Nat.reduceMul, a86, kN898, wd]
noncomputable def h84l0_2 (z0 : Bool) (z1 : Bool) (z2 : Bool) (v890 : List Int) (v891 : Int) : (Int × Int) → Env × Heap
  | (v888, v889) => ([(0, .int .i64 v888), (1, .int .i64 v889), (2, .func 86 [] [.ptr 0 0, .ptr 2 0])], [.row z0 false [.slice 1 0 v890.length v890.length 1 false], .row z1 true (rowC v890), .row z2 true [.int .i64 v891]])
noncomputable def q84l0_2 (z0 : Bool) (z1 : Bool) (z2 : Bool) (v890 : List Int) (v891 : Int) : (Int) → AExit × Env × Heap
  | r906 => (.exit 0, [(0, .int .i64 r906), (6, .undef)], [.row z0 false [.slice 1 0 v890.length v890.length 1 false], .row z1 true (rowC v890), .row z2 true [.int .i64 v891]])
theorem k84l0_2 (z0 : Bool) (z1 : Bool) (z2 : Bool) (v890 : List Int) (v891 : Int) (s : Int × Int) (o : Int) (h : L84l0_2 v890 v891 s = some o) : Ev fun n => loopAt [0, 1, 2] [0, 6] a84l0b (ex tab n) 3 (h84l0_2 z0 z1 z2 v890 v891 s) = some (q84l0_2 z0 z1 z2 v890 v891 o) := by
  refine iter_sound (S84l0_2 v890 v891) [0, 1, 2] [0, 6] a84l0b 3 (h84l0_2 z0 z1 z2 v890 v891) (q84l0_2 z0 z1 z2 v890 v891) ?_ _ _ _ h
  rintro ⟨v888, v889⟩ z h
  simp only [S84l0_2] at h
  by_cases c892 : v889 ≤ v888
  · rw [if_pos c892] at h
    have c892d := dt c892
    cases h
    refine ⟨0, fun n hn => ?_⟩
    simp (maxSteps := 2000000) only [W, reduceIte, Nat.reduceEqDiff, Nat.reduceAdd, Nat.reduceSub, Nat.reduceLT, Nat.reduceLeDiff, Nat.reduceMul, h84l0_2, q84l0_2, a84l0b, c892d]
  · rw [if_neg c892] at h
    have c892d := df c892
    have d893 := fun x => bin_quo .i64 x 2 (by decide)
    obtain ⟨r904, g902, h⟩ := un1 h
    obtain ⟨N903, kN903⟩ := c86_0 z0 z1 z2 (aw .i64 (v888 + (aw .i64 (Int.tdiv (aw .i64 (v889 - v888)) 2)))) v890 v891 _ g902
    by_cases c905 : r904 = true
    · rw [if_pos c905] at h
      have c905d := c905
      cases h
      refine ⟨N903, fun n hn => ?_⟩
      have kN903 := kN903 n (by omega)
      try simp (maxSteps := 2000000) only [wn] at kN903
      simp (maxSteps := 2000000) only [W, reduceIte, Nat.reduceEqDiff, Nat.reduceAdd, Nat.reduceSub, Nat.reduceLT, Nat.reduceLeDiff, Nat.reduceMul, h84l0_2, q84l0_2, a84l0b, c892d, d893, kN903, c905d]
    · rw [if_neg c905] at h
      have c905d := bf c905
      cases h
      refine ⟨N903, fun n hn => ?_⟩
      have kN903 := kN903 n (by omega)
      try simp (maxSteps := 2000000) only [wn] at kN903
      simp (maxSteps := 2000000) only [W, reduceIte, Nat.reduceEqDiff, Nat.reduceAdd, Nat.reduceSub, Nat.reduceLT, Nat.reduceLeDiff, Nat.reduceMul, h84l0_2, q84l0_2, a84l0b, c892d, d893, kN903, c905d]
theorem c84_2 (z0 : Bool) (z1 : Bool) (z2 : Bool) (v884 : Int) (v885 : Int) (v886 : List Int) (v887 : Int) (r910 : Int) (h : F84_2 v884 v885 v886 v887 = some r910) : Ev fun n => (ex tab n).call 84 [.int .i64 v884, .int .i64 v885, .func 86 [] [.ptr 0 0, .ptr 2 0]] [.row z0 false [.slice 1 0 v886.length v886.length 1 false], .row z1 true (rowC v886), .row z2 true [.int .i64 v887]] = some (.int .i64 r910, [.row z0 false [.slice 1 0 v886.length v886.length 1 false], .row z1 true (rowC v886), .row z2 true [.int .i64 v887]]) := by
  unfold F84_2 at h
  obtain ⟨r909, g907, h⟩ := un1 h
  have kN908 := k84l0_2 z0 z1 z2 v886 v887 (v884, v885) _ g907
  obtain ⟨N908, kN908⟩ := kN908
  cases h
  refine ev_call (fn := a84) rfl ⟨N908, fun n hn => ?_⟩
  have kN908 := kN908 n (by omega)
  simp (maxSteps := 2000000) only [h84l0_2, q84l0_2, wn] at kN908
  simp (maxSteps := 2000000) only [W, reduceIte, Nat.reduceEqDiff, Nat.reduceAdd, Nat.reduceSub, Nat.reduceLT, Nat.reduceLeDiff, Nat.reduceMul, a84, a84l0, kN908, @x_loopAt]
theorem c28_0 (z0 : Bool) (v839 : Int) (v840 : List Int) (r915 : Int) (r916 : Int) (r917 : Int) (h : F28_0 v839 v840 = some (r915, r916, r917)) : Ev fun n => (ex tab n).call 28 [.slice 0 0 v840.length v840.length 1 false, .int .i64 v839] [.row z0 true (rowC v840)] = some (.tup [.agg [.int .i64 r915, .int .i64 r916], .int .i64 r917], [.row z0 true (rowC v840)]) := by
  unfold F28_0 at h
  obtain ⟨r843, g841, h⟩ := un1 h
  obtain ⟨N842, kN842⟩ := c80_0 false v840 _ g841
  obtain ⟨r846, g844, h⟩ := un1 h
  obtain ⟨N845, kN845⟩ := c74_0 v839 0 10000 _ g844
  obtain ⟨r849, g847, h⟩ := un1 h
  obtain ⟨N848, kN848⟩ := c72_0 r846 2 _ g847
  obtain ⟨r852, g850, h⟩ := un1 h
  obtain ⟨N851, kN851⟩ := c71_0 true ([r843, r849] : List Int) _ g850
  by_cases c853 : r852 = 0
  · rw [if_pos c853] at h
    have c853d := dt c853
    obtain ⟨r883, g881, h⟩ := un1 h
    obtain ⟨N882, kN882⟩ := c84_1 true z0 true 0 1000000001 v840 v839 _ g881
    obtain ⟨r913, g911, h⟩ := un1 h
    obtain ⟨N912, kN912⟩ := c84_2 true z0 true r883 1000000001 v840 v839 _ g911
    by_cases c914 : r913 ≤ 1000000000
    · rw [if_pos c914] at h
      have c914d := dt c914
      cases h
      refine ev_call (fn := a28) rfl ⟨N842 + N845 + N848 + N851 + N882 + N912, fun n hn => ?_⟩
      have kN842 := kN842 n (by omega)
      try simp (maxSteps := 2000000) only [wn] at kN842
      have kN845 := kN845 n (by omega)
      try simp (maxSteps := 2000000) only [wn] at kN845
      have kN848 := kN848 n (by omega)
      try simp (maxSteps := 2000000) only [wn] at kN848
      have kN851 := kN851 n (by omega)
      try simp (maxSteps := 2000000) only [wn] at kN851
      have kN882 := kN882 n (by omega)
      try simp (maxSteps := 2000000) only [wn] at kN882
      have kN912 := kN912 n (by omega)
      try simp (maxSteps := 2000000) only [wn] at kN912
      simp (maxSteps := 2000000) only [W, reduceIte, Nat.reduceEqDiff, Nat.reduceAdd, Nat.reduceSub, Nat.reduceLT, Nat.reduceLeDiff, Nat.reduceMul, a28, kN842, kN845, kN848, kN851, c853d, kN882, kN912, c914d, wd]
    · rw [if_neg c914] at h
      have c914d := df c914
      cases h
      refine ev_call (fn := a28) rfl ⟨N842 + N845 + N848 + N851 + N882 + N912, fun n hn => ?_⟩
      have kN842 := kN842 n (by omega)
      try simp (maxSteps := 2000000) only [wn] at kN842
      have kN845 := kN845 n (by omega)
      try simp (maxSteps := 2000000) only [wn] at kN845
      have kN848 := kN848 n (by omega)
      try simp (maxSteps := 2000000) only [wn] at kN848
      have kN851 := kN851 n (by omega)
      try simp (maxSteps := 2000000) only [wn] at kN851
      have kN882 := kN882 n (by omega)
      try simp (maxSteps := 2000000) only [wn] at kN882
      have kN912 := kN912 n (by omega)
      try simp (maxSteps := 2000000) only [wn] at kN912
      simp (maxSteps := 2000000) only [W, reduceIte, Nat.reduceEqDiff, Nat.reduceAdd, Nat.reduceSub, Nat.reduceLT, Nat.reduceLeDiff, Nat.reduceMul, a28, kN842, kN845, kN848, kN851, c853d, kN882, kN912, c914d, wd]
  · rw [if_neg c853] at h
    have c853d := df c853
    cases h
    refine ev_call (fn := a28) rfl ⟨N842 + N845 + N848 + N851, fun n hn => ?_⟩
    have kN842 := kN842 n (by omega)
    try simp (maxSteps := 2000000) only [wn] at kN842
    have kN845 := kN845 n (by omega)
    try simp (maxSteps := 2000000) only [wn] at kN845
    have kN848 := kN848 n (by omega)
    try simp (maxSteps := 2000000) only [wn] at kN848
    have kN851 := kN851 n (by omega)
    try simp (maxSteps := 2000000) only [wn] at kN851
    simp (maxSteps := 2000000) only [W, reduceIte, Nat.reduceEqDiff, Nat.reduceAdd, Nat.reduceSub, Nat.reduceLT, Nat.reduceLeDiff, Nat.reduceMul, a28, kN842, kN845, kN848, kN851, c853d, wd]
end Go.AI
end
