import Derived.Test.YtfglifekecijjaaDAiY
import Derived.Test.YtfglifekecijjaaDAiTab
import Derived.Test.YtfglifekecijjaaDAiAwake
import Derived.Test.YtfglifekecijjaaDWnF
section
/-
  Functions, walked through: guidevanebase.IsName, guidevanebase.HasText, guidevanebase.Within, guidevaneref02.nodeErr.
-/
set_option linter.unusedVariables false
set_option linter.unusedSimpArgs false
set_option maxRecDepth 100000
set_option maxHeartbeats 4000000
namespace Go.AI
theorem c20_0 (v424 : Int) (v425 : Int) (v426 : Int) (r428 : Bool) (h : F20_0 v424 v425 v426 = some r428) : Ev fun n => (ex tab n).call 20 [.int .i64 v424, .int .i64 v425, .int .i64 v426] [] = some (.bool r428, []) := by
  unfold F20_0 at h
  by_cases c427 : v425 ≤ v424
  · rw [if_pos c427] at h
    have c427d := dt c427
    cases h
    refine ev_call (fn := a20) rfl ⟨0, fun n hn => ?_⟩
    simp (maxSteps := 2000000) only [W, reduceIte, Nat.reduceEqDiff, Nat.reduceAdd, Nat.reduceSub, Nat.reduceLT, Nat.reduceLeDiff, Nat.reduceMul, a20, c427d]
  · rw [if_neg c427] at h
    have c427d := df c427
    cases h
    refine ev_call (fn := a20) rfl ⟨0, fun n hn => ?_⟩
    simp (maxSteps := 2000000) only [W, reduceIte, Nat.reduceEqDiff, Nat.reduceAdd, Nat.reduceSub, Nat.reduceLT, Nat.reduceLeDiff, Nat.reduceMul, a20, c427d]
end Go.AI
end
section
/-
  Functions, walked through: guidevanelaw02.Few, guidevaneref02.Copy, water.unless, water.first, water.within, water.isSized, water.isName.
-/
set_option linter.unusedVariables false
set_option linter.unusedSimpArgs false
set_option maxRecDepth 100000
set_option maxHeartbeats 4000000
namespace Go.AI
theorem c72_0 (v45 : Bool) (v46 : Int) (r48 : Int) (h : F72_0 v45 v46 = some r48) : Ev fun n => (ex tab n).call 72 [.bool v45, .int .i64 v46] [] = some (.int .i64 r48, []) := by
  unfold F72_0 at h
  by_cases c47 : v45 = true
  · rw [if_pos c47] at h
    have c47d := c47
    cases h
    refine ev_call (fn := a72) rfl ⟨0, fun n hn => ?_⟩
    simp (maxSteps := 2000000) only [W, reduceIte, Nat.reduceEqDiff, Nat.reduceAdd, Nat.reduceSub, Nat.reduceLT, Nat.reduceLeDiff, Nat.reduceMul, a72, c47d]
  · rw [if_neg c47] at h
    have c47d := bf c47
    cases h
    refine ev_call (fn := a72) rfl ⟨0, fun n hn => ?_⟩
    simp (maxSteps := 2000000) only [W, reduceIte, Nat.reduceEqDiff, Nat.reduceAdd, Nat.reduceSub, Nat.reduceLT, Nat.reduceLeDiff, Nat.reduceMul, a72, c47d]
noncomputable def h71l0_0 (z0 : Bool) (v56 : Int) (v58 : List Int) : (Int) → Env × Heap
  | v57 => ([(5, .slice 0 0 v58.length v58.length 1 false), (6, .int .i64 v56), (7, .int .i64 v57)], [.row z0 true (rowC v58)])
noncomputable def q71l0_0 (z0 : Bool) (v56 : Int) (v58 : List Int) : ((Unit) ⊕ (Int)) → AExit × Env × Heap
  | .inl (_) => (.exit 0, [(2, .undef)], [.row z0 true (rowC v58)])
  | .inr (r64) => (.ret, [(2, .int .i64 r64)], [.row z0 true (rowC v58)])
theorem k71l0_0 (z0 : Bool) (v56 : Int) (v58 : List Int) (s : Int) (o : (Unit) ⊕ (Int)) (h : L71l0_0 v56 v58 s = some o) : Ev fun n => loopAt [5, 6, 7] [2] a71l0b (ex tab n) 1 (h71l0_0 z0 v56 v58 s) = some (q71l0_0 z0 v56 v58 o) := by
  refine iter_sound (S71l0_0 v56 v58) [5, 6, 7] [2] a71l0b 1 (h71l0_0 z0 v56 v58) (q71l0_0 z0 v56 v58) ?_ _ _ _ h
  rintro v57 z h
  simp only [S71l0_0] at h
  by_cases c59 : v56 ≤ v57
  · rw [if_pos c59] at h
    have c59d := dt c59
    cases h
    refine ⟨0, fun n hn => ?_⟩
    simp (maxSteps := 2000000) only [W, reduceIte, Nat.reduceEqDiff, Nat.reduceAdd, Nat.reduceSub, Nat.reduceLT, Nat.reduceLeDiff, Nat.reduceMul, h71l0_0, q71l0_0, a71l0b, c59d]
  · rw [if_neg c59] at h
    have c59d := df c59
    obtain ⟨j60, x61, g62, h⟩ := un2 h
    obtain ⟨g621, g622⟩ := geti_in g62
    have g623 := ac_Int g622
    try simp only [wn] at g621
    by_cases c63 : x61 = 0
    · rw [if_pos c63] at h
      have c63d := dt c63
      cases h
      refine ⟨0, fun n hn => ?_⟩
      simp (maxSteps := 2000000) only [W, reduceIte, Nat.reduceEqDiff, Nat.reduceAdd, Nat.reduceSub, Nat.reduceLT, Nat.reduceLeDiff, Nat.reduceMul, h71l0_0, q71l0_0, a71l0b, c59d, g621, g623, c63d]
    · rw [if_neg c63] at h
      have c63d := df c63
      cases h
      refine ⟨0, fun n hn => ?_⟩
      simp (maxSteps := 2000000) only [W, reduceIte, Nat.reduceEqDiff, Nat.reduceAdd, Nat.reduceSub, Nat.reduceLT, Nat.reduceLeDiff, Nat.reduceMul, h71l0_0, q71l0_0, a71l0b, c59d, g621, g623, c63d]
theorem c71_0 (z0 : Bool) (v55 : List Int) (r68 : Int) (h : F71_0 v55 = some r68) : Ev fun n => (ex tab n).call 71 [.slice 0 0 v55.length v55.length 1 false] [.row z0 true (rowC v55)] = some (.int .i64 r68, [.row z0 true (rowC v55)]) := by
  unfold F71_0 at h
  obtain ⟨g65_, g65, h⟩ := un1 h
  rcases g65_ with _ | r67
  · dsimp only at h
    have kN66 := k71l0_0 z0 (v55.length : Int) v55 0 _ g65
    obtain ⟨N66, kN66⟩ := kN66
    cases h
    refine ev_call (fn := a71) rfl ⟨N66, fun n hn => ?_⟩
    have kN66 := kN66 n (by omega)
    simp (maxSteps := 2000000) only [h71l0_0, q71l0_0, wn] at kN66
    simp (maxSteps := 2000000) only [W, reduceIte, Nat.reduceEqDiff, Nat.reduceAdd, Nat.reduceSub, Nat.reduceLT, Nat.reduceLeDiff, Nat.reduceMul, a71, a71l0, kN66, @x_loopAt]
  · dsimp only at h
    have kN66 := k71l0_0 z0 (v55.length : Int) v55 0 _ g65
    obtain ⟨N66, kN66⟩ := kN66
    cases h
    refine ev_call (fn := a71) rfl ⟨N66, fun n hn => ?_⟩
    have kN66 := kN66 n (by omega)
    simp (maxSteps := 2000000) only [h71l0_0, q71l0_0, wn] at kN66
    simp (maxSteps := 2000000) only [W, reduceIte, Nat.reduceEqDiff, Nat.reduceAdd, Nat.reduceSub, Nat.reduceLT, Nat.reduceLeDiff, Nat.reduceMul, a71, a71l0, kN66, @x_loopAt]
theorem c74_0 (v84 : Int) (v85 : Int) (v86 : Int) (r88 : Bool) (h : F74_0 v84 v85 v86 = some r88) : Ev fun n => (ex tab n).call 74 [.int .i64 v84, .int .i64 v85, .int .i64 v86] [] = some (.bool r88, []) := by
  unfold F74_0 at h
  by_cases c87 : v85 ≤ v84
  · rw [if_pos c87] at h
    have c87d := dt c87
    cases h
    refine ev_call (fn := a74) rfl ⟨0, fun n hn => ?_⟩
    simp (maxSteps := 2000000) only [W, reduceIte, Nat.reduceEqDiff, Nat.reduceAdd, Nat.reduceSub, Nat.reduceLT, Nat.reduceLeDiff, Nat.reduceMul, a74, c87d]
  · rw [if_neg c87] at h
    have c87d := df c87
    cases h
    refine ev_call (fn := a74) rfl ⟨0, fun n hn => ?_⟩
    simp (maxSteps := 2000000) only [W, reduceIte, Nat.reduceEqDiff, Nat.reduceAdd, Nat.reduceSub, Nat.reduceLT, Nat.reduceLeDiff, Nat.reduceMul, a74, c87d]
end Go.AI
end
section
/-
  Functions, walked through: water.CheckNet$1.
-/
set_option linter.unusedVariables false
set_option linter.unusedSimpArgs false
set_option maxRecDepth 100000
set_option maxHeartbeats 4000000
namespace Go.AI
end Go.AI
end
section
/-
  Functions, walked through: water.CheckNet, water.loss, water.LossOf.
-/
set_option linter.unusedVariables false
set_option linter.unusedSimpArgs false
set_option maxRecDepth 100000
set_option maxHeartbeats 4000000
namespace Go.AI
end Go.AI
end
section
/-
  Functions, walked through: guidevaneref02.conduitErr, guidevaneref02.CheckNet, guidevaneref02.FlowErr, guidevanebase.Size, guidevaneref02.Loss.
-/
set_option linter.unusedVariables false
set_option linter.unusedSimpArgs false
set_option maxRecDepth 100000
set_option maxHeartbeats 4000000
namespace Go.AI
end Go.AI
end
section
/-
  Functions, walked through: guidevanelaw02.WaterNets, guidevaneref02.ResistErr, guidevaneref02.ResistsErr, guidevaneref02.DropErr, guidevanebase.CopyInts, water.resistsErr$1, slices.IndexFunc[[]int,int], slices.ContainsFunc[[]int,int], water.resistsErr, water.dropErr, water.through$1, water.least.
-/
set_option linter.unusedVariables false
set_option linter.unusedSimpArgs false
set_option maxRecDepth 100000
set_option maxHeartbeats 4000000
namespace Go.AI
theorem c44_0 (v554 : Int) (r559 : Int) (h : F44_0 v554 = some r559) : Ev fun n => (ex tab n).call 44 [.int .i64 v554] [] = some (.int .i64 r559, []) := by
  unfold F44_0 at h
  obtain ⟨r557, g555, h⟩ := un1 h
  obtain ⟨N556, kN556⟩ := c20_0 v554 1 1000 _ g555
  by_cases c558 : r557 = true
  · rw [if_pos c558] at h
    have c558d := c558
    cases h
    refine ev_call (fn := a44) rfl ⟨N556, fun n hn => ?_⟩
    have kN556 := kN556 n (by omega)
    try simp (maxSteps := 2000000) only [wn] at kN556
    simp (maxSteps := 2000000) only [W, reduceIte, Nat.reduceEqDiff, Nat.reduceAdd, Nat.reduceSub, Nat.reduceLT, Nat.reduceLeDiff, Nat.reduceMul, a44, kN556, c558d]
  · rw [if_neg c558] at h
    have c558d := bf c558
    cases h
    refine ev_call (fn := a44) rfl ⟨N556, fun n hn => ?_⟩
    have kN556 := kN556 n (by omega)
    try simp (maxSteps := 2000000) only [wn] at kN556
    simp (maxSteps := 2000000) only [W, reduceIte, Nat.reduceEqDiff, Nat.reduceAdd, Nat.reduceSub, Nat.reduceLT, Nat.reduceLeDiff, Nat.reduceMul, a44, kN556, c558d]
noncomputable def h23l0_0 (z0 : Bool) (v549 : List Int) : (Int) → Env × Heap
  | v548 => ([(0, .slice 0 0 v549.length v549.length 1 false), (3, .int .i64 v548)], [.row z0 true (rowC v549)])
noncomputable def q23l0_0 (z0 : Bool) (v549 : List Int) : ((Unit) ⊕ (Int)) → AExit × Env × Heap
  | .inl (_) => (.exit 0, [(2, .undef)], [.row z0 true (rowC v549)])
  | .inr (r564) => (.ret, [(2, .int .i64 r564)], [.row z0 true (rowC v549)])
theorem k23l0_0 (z0 : Bool) (v549 : List Int) (s : Int) (o : (Unit) ⊕ (Int)) (h : L23l0_0 v549 s = some o) : Ev fun n => loopAt [0, 3] [2] a23l0b (ex tab n) 1 (h23l0_0 z0 v549 s) = some (q23l0_0 z0 v549 o) := by
  refine iter_sound (S23l0_0 v549) [0, 3] [2] a23l0b 1 (h23l0_0 z0 v549) (q23l0_0 z0 v549) ?_ _ _ _ h
  rintro v548 z h
  simp only [S23l0_0] at h
  by_cases c550 : (v549.length : Int) ≤ v548
  · rw [if_pos c550] at h
    have c550d := dt c550
    cases h
    refine ⟨0, fun n hn => ?_⟩
    simp (maxSteps := 2000000) only [W, reduceIte, Nat.reduceEqDiff, Nat.reduceAdd, Nat.reduceSub, Nat.reduceLT, Nat.reduceLeDiff, Nat.reduceMul, h23l0_0, q23l0_0, a23l0b, c550d]
  · rw [if_neg c550] at h
    have c550d := df c550
    obtain ⟨j551, x552, g553, h⟩ := un2 h
    obtain ⟨g5531, g5532⟩ := geti_in g553
    have g5533 := ac_Int g5532
    try simp only [wn] at g5531
    obtain ⟨r562, g560, h⟩ := un1 h
    obtain ⟨N561, kN561⟩ := c44_0 x552 _ g560
    by_cases c563 : r562 = 0
    · rw [if_pos c563] at h
      have c563d := dt c563
      cases h
      refine ⟨N561, fun n hn => ?_⟩
      have kN561 := kN561 n (by omega)
      try simp (maxSteps := 2000000) only [wn] at kN561
      simp (maxSteps := 2000000) only [W, reduceIte, Nat.reduceEqDiff, Nat.reduceAdd, Nat.reduceSub, Nat.reduceLT, Nat.reduceLeDiff, Nat.reduceMul, h23l0_0, q23l0_0, a23l0b, c550d, g5531, g5533, kN561, c563d]
    · rw [if_neg c563] at h
      have c563d := df c563
      cases h
      refine ⟨N561, fun n hn => ?_⟩
      have kN561 := kN561 n (by omega)
      try simp (maxSteps := 2000000) only [wn] at kN561
      simp (maxSteps := 2000000) only [W, reduceIte, Nat.reduceEqDiff, Nat.reduceAdd, Nat.reduceSub, Nat.reduceLT, Nat.reduceLeDiff, Nat.reduceMul, h23l0_0, q23l0_0, a23l0b, c550d, g5531, g5533, kN561, c563d]
theorem c23_0 (z0 : Bool) (v545 : List Int) (r568 : Int) (h : F23_0 v545 = some r568) : Ev fun n => (ex tab n).call 23 [.slice 0 0 v545.length v545.length 1 false] [.row z0 true (rowC v545)] = some (.int .i64 r568, [.row z0 true (rowC v545)]) := by
  unfold F23_0 at h
  by_cases c546 : (v545.length : Int) = 0
  · rw [if_pos c546] at h
    have c546d := dt c546
    cases h
    refine ev_call (fn := a23) rfl ⟨0, fun n hn => ?_⟩
    simp (maxSteps := 2000000) only [W, reduceIte, Nat.reduceEqDiff, Nat.reduceAdd, Nat.reduceSub, Nat.reduceLT, Nat.reduceLeDiff, Nat.reduceMul, a23, a23l0, c546d, @x_loopAt]
  · rw [if_neg c546] at h
    have c546d := df c546
    by_cases c547 : (v545.length : Int) ≤ 8
    · rw [if_pos c547] at h
      have c547d := dt c547
      obtain ⟨g565_, g565, h⟩ := un1 h
      rcases g565_ with _ | r567
      · dsimp only at h
        have kN566 := k23l0_0 z0 v545 0 _ g565
        obtain ⟨N566, kN566⟩ := kN566
        cases h
        refine ev_call (fn := a23) rfl ⟨N566, fun n hn => ?_⟩
        have kN566 := kN566 n (by omega)
        simp (maxSteps := 2000000) only [h23l0_0, q23l0_0, wn] at kN566
        simp (maxSteps := 2000000) only [W, reduceIte, Nat.reduceEqDiff, Nat.reduceAdd, Nat.reduceSub, Nat.reduceLT, Nat.reduceLeDiff, Nat.reduceMul, a23, a23l0, c546d, c547d, kN566, @x_loopAt]
      · dsimp only at h
        have kN566 := k23l0_0 z0 v545 0 _ g565
        obtain ⟨N566, kN566⟩ := kN566
        cases h
        refine ev_call (fn := a23) rfl ⟨N566, fun n hn => ?_⟩
        have kN566 := kN566 n (by omega)
        simp (maxSteps := 2000000) only [h23l0_0, q23l0_0, wn] at kN566
        simp (maxSteps := 2000000) only [W, reduceIte, Nat.reduceEqDiff, Nat.reduceAdd, Nat.reduceSub, Nat.reduceLT, Nat.reduceLeDiff, Nat.reduceMul, a23, a23l0, c546d, c547d, kN566, @x_loopAt]
    · rw [if_neg c547] at h
      have c547d := df c547
      cases h
      refine ev_call (fn := a23) rfl ⟨0, fun n hn => ?_⟩
      simp (maxSteps := 2000000) only [W, reduceIte, Nat.reduceEqDiff, Nat.reduceAdd, Nat.reduceSub, Nat.reduceLT, Nat.reduceLeDiff, Nat.reduceMul, a23, a23l0, c546d, c547d, @x_loopAt]
theorem c24_0 (v574 : Int) (r579 : Int) (h : F24_0 v574 = some r579) : Ev fun n => (ex tab n).call 24 [.int .i64 v574] [] = some (.int .i64 r579, []) := by
  unfold F24_0 at h
  obtain ⟨r577, g575, h⟩ := un1 h
  obtain ⟨N576, kN576⟩ := c20_0 v574 0 1000000000 _ g575
  by_cases c578 : r577 = true
  · rw [if_pos c578] at h
    have c578d := c578
    cases h
    refine ev_call (fn := a24) rfl ⟨N576, fun n hn => ?_⟩
    have kN576 := kN576 n (by omega)
    try simp (maxSteps := 2000000) only [wn] at kN576
    simp (maxSteps := 2000000) only [W, reduceIte, Nat.reduceEqDiff, Nat.reduceAdd, Nat.reduceSub, Nat.reduceLT, Nat.reduceLeDiff, Nat.reduceMul, a24, kN576, c578d]
  · rw [if_neg c578] at h
    have c578d := bf c578
    cases h
    refine ev_call (fn := a24) rfl ⟨N576, fun n hn => ?_⟩
    have kN576 := kN576 n (by omega)
    try simp (maxSteps := 2000000) only [wn] at kN576
    simp (maxSteps := 2000000) only [W, reduceIte, Nat.reduceEqDiff, Nat.reduceAdd, Nat.reduceSub, Nat.reduceLT, Nat.reduceLeDiff, Nat.reduceMul, a24, kN576, c578d]
theorem c26_0 (z0 : Bool) (v596 : List Int) (h : F26_0 v596 = some ()) : Ev fun n => (ex tab n).call 26 [.slice 0 0 v596.length v596.length 1 false] [.row z0 true (rowC v596)] = some (.slice 1 0 v596.length v596.length 1 false, [.row z0 true (rowC v596), .row true true (rowC v596)]) := by
  unfold F26_0 at h
  obtain ⟨g597, h⟩ := un_roomd h
  cases h
  refine ev_call (fn := a26) rfl ⟨0, fun n hn => ?_⟩
  simp (maxSteps := 2000000) only [W, reduceIte, Nat.reduceEqDiff, Nat.reduceAdd, Nat.reduceSub, Nat.reduceLT, Nat.reduceLeDiff, Nat.reduceMul, a26, g597]
theorem c133_0 (v613 : Int) (r617 : Bool) (h : F133_0 v613 = some r617) : Ev fun n => (ex tab n).call 133 [.int .i64 v613] [] = some (.bool r617, []) := by
  unfold F133_0 at h
  obtain ⟨r616, g614, h⟩ := un1 h
  obtain ⟨N615, kN615⟩ := c74_0 v613 1 1000 _ g614
  cases h
  refine ev_call (fn := a133) rfl ⟨N615, fun n hn => ?_⟩
  have kN615 := kN615 n (by omega)
  try simp (maxSteps := 2000000) only [wn] at kN615
  simp (maxSteps := 2000000) only [W, reduceIte, Nat.reduceEqDiff, Nat.reduceAdd, Nat.reduceSub, Nat.reduceLT, Nat.reduceLeDiff, Nat.reduceMul, a133, kN615]
noncomputable def h149l0_0 (z0 : Bool) (v606 : Int) (v608 : List Int) : (Int) → Env × Heap
  | v607 => ([(0, .slice 0 0 v608.length v608.length 1 false), (1, .func 133 [] []), (7, .int .i64 v606), (8, .int .i64 v607)], [.row z0 true (rowC v608)])
noncomputable def q149l0_0 (z0 : Bool) (v606 : Int) (v608 : List Int) : ((Unit) ⊕ (Int)) → AExit × Env × Heap
  | .inl (_) => (.exit 0, [(4, .undef)], [.row z0 true (rowC v608)])
  | .inr (r622) => (.ret, [(4, .int .i64 r622)], [.row z0 true (rowC v608)])
theorem k149l0_0 (z0 : Bool) (v606 : Int) (v608 : List Int) (s : Int) (o : (Unit) ⊕ (Int)) (h : L149l0_0 v606 v608 s = some o) : Ev fun n => loopAt [0, 1, 7, 8] [4] a149l0b (ex tab n) 1 (h149l0_0 z0 v606 v608 s) = some (q149l0_0 z0 v606 v608 o) := by
  refine iter_sound (S149l0_0 v606 v608) [0, 1, 7, 8] [4] a149l0b 1 (h149l0_0 z0 v606 v608) (q149l0_0 z0 v606 v608) ?_ _ _ _ h
  rintro v607 z h
  simp only [S149l0_0] at h
  by_cases c609 : v606 ≤ v607
  · rw [if_pos c609] at h
    have c609d := dt c609
    cases h
    refine ⟨0, fun n hn => ?_⟩
    simp (maxSteps := 2000000) only [W, reduceIte, Nat.reduceEqDiff, Nat.reduceAdd, Nat.reduceSub, Nat.reduceLT, Nat.reduceLeDiff, Nat.reduceMul, h149l0_0, q149l0_0, a149l0b, c609d]
  · rw [if_neg c609] at h
    have c609d := df c609
    obtain ⟨j610, x611, g612, h⟩ := un2 h
    obtain ⟨g6121, g6122⟩ := geti_in g612
    have g6123 := ac_Int g6122
    try simp only [wn] at g6121
    obtain ⟨r620, g618, h⟩ := un1 h
    obtain ⟨N619, kN619⟩ := c133_0 x611 _ g618
    by_cases c621 : r620 = true
    · rw [if_pos c621] at h
      have c621d := c621
      cases h
      refine ⟨N619, fun n hn => ?_⟩
      have kN619 := kN619 n (by omega)
      try simp (maxSteps := 2000000) only [wn] at kN619
      simp (maxSteps := 2000000) only [W, reduceIte, Nat.reduceEqDiff, Nat.reduceAdd, Nat.reduceSub, Nat.reduceLT, Nat.reduceLeDiff, Nat.reduceMul, h149l0_0, q149l0_0, a149l0b, c609d, g6121, g6123, kN619, c621d]
    · rw [if_neg c621] at h
      have c621d := bf c621
      cases h
      refine ⟨N619, fun n hn => ?_⟩
      have kN619 := kN619 n (by omega)
      try simp (maxSteps := 2000000) only [wn] at kN619
      simp (maxSteps := 2000000) only [W, reduceIte, Nat.reduceEqDiff, Nat.reduceAdd, Nat.reduceSub, Nat.reduceLT, Nat.reduceLeDiff, Nat.reduceMul, h149l0_0, q149l0_0, a149l0b, c609d, g6121, g6123, kN619, c621d]
theorem c149_0 (z0 : Bool) (v605 : List Int) (r626 : Int) (h : F149_0 v605 = some r626) : Ev fun n => (ex tab n).call 149 [.slice 0 0 v605.length v605.length 1 false, .func 133 [] []] [.row z0 true (rowC v605)] = some (.int .i64 r626, [.row z0 true (rowC v605)]) := by
  unfold F149_0 at h
  obtain ⟨g623_, g623, h⟩ := un1 h
  rcases g623_ with _ | r625
  · dsimp only at h
    have kN624 := k149l0_0 z0 (v605.length : Int) v605 0 _ g623
    obtain ⟨N624, kN624⟩ := kN624
    cases h
    refine ev_call (fn := a149) rfl ⟨N624, fun n hn => ?_⟩
    have kN624 := kN624 n (by omega)
    simp (maxSteps := 2000000) only [h149l0_0, q149l0_0, wn] at kN624
    simp (maxSteps := 2000000) only [W, reduceIte, Nat.reduceEqDiff, Nat.reduceAdd, Nat.reduceSub, Nat.reduceLT, Nat.reduceLeDiff, Nat.reduceMul, a149, a149l0, kN624, @x_loopAt]
  · dsimp only at h
    have kN624 := k149l0_0 z0 (v605.length : Int) v605 0 _ g623
    obtain ⟨N624, kN624⟩ := kN624
    cases h
    refine ev_call (fn := a149) rfl ⟨N624, fun n hn => ?_⟩
    have kN624 := kN624 n (by omega)
    simp (maxSteps := 2000000) only [h149l0_0, q149l0_0, wn] at kN624
    simp (maxSteps := 2000000) only [W, reduceIte, Nat.reduceEqDiff, Nat.reduceAdd, Nat.reduceSub, Nat.reduceLT, Nat.reduceLeDiff, Nat.reduceMul, a149, a149l0, kN624, @x_loopAt]
theorem c119_0 (z0 : Bool) (v604 : List Int) (r630 : Bool) (h : F119_0 v604 = some r630) : Ev fun n => (ex tab n).call 119 [.slice 0 0 v604.length v604.length 1 false, .func 133 [] []] [.row z0 true (rowC v604)] = some (.bool r630, [.row z0 true (rowC v604)]) := by
  unfold F119_0 at h
  obtain ⟨r629, g627, h⟩ := un1 h
  obtain ⟨N628, kN628⟩ := c149_0 z0 v604 _ g627
  cases h
  refine ev_call (fn := a119) rfl ⟨N628, fun n hn => ?_⟩
  have kN628 := kN628 n (by omega)
  try simp (maxSteps := 2000000) only [wn] at kN628
  simp (maxSteps := 2000000) only [W, reduceIte, Nat.reduceEqDiff, Nat.reduceAdd, Nat.reduceSub, Nat.reduceLT, Nat.reduceLeDiff, Nat.reduceMul, a119, kN628]
theorem c80_0 (z0 : Bool) (v603 : List Int) (r646 : Int) (h : F80_0 v603 = some r646) : Ev fun n => (ex tab n).call 80 [.slice 0 0 v603.length v603.length 1 false] [.row z0 true (rowC v603)] = some (.int .i64 r646, [.row z0 true (rowC v603)]) := by
  unfold F80_0 at h
  obtain ⟨r633, g631, h⟩ := un1 h
  obtain ⟨N632, kN632⟩ := c119_0 z0 v603 _ g631
  obtain ⟨r636, g634, h⟩ := un1 h
  obtain ⟨N635, kN635⟩ := c72_0 (!(decide ((v603.length : Int) ≤ 0))) 10 _ g634
  obtain ⟨r639, g637, h⟩ := un1 h
  obtain ⟨N638, kN638⟩ := c72_0 (decide ((v603.length : Int) ≤ 8)) 8 _ g637
  obtain ⟨r642, g640, h⟩ := un1 h
  obtain ⟨N641, kN641⟩ := c72_0 (!r633) 2 _ g640
  obtain ⟨r645, g643, h⟩ := un1 h
  obtain ⟨N644, kN644⟩ := c71_0 true ([r636, r639, r642] : List Int) _ g643
  cases h
  refine ev_call (fn := a80) rfl ⟨N632 + N635 + N638 + N641 + N644, fun n hn => ?_⟩
  have kN632 := kN632 n (by omega)
  try simp (maxSteps := 2000000) only [wn] at kN632
  have kN635 := kN635 n (by omega)
  try simp (maxSteps := 2000000) only [wn] at kN635
  have kN638 := kN638 n (by omega)
  try simp (maxSteps := 2000000) only [wn] at kN638
  have kN641 := kN641 n (by omega)
  try simp (maxSteps := 2000000) only [wn] at kN641
  have kN644 := kN644 n (by omega)
  try simp (maxSteps := 2000000) only [wn] at kN644
  simp (maxSteps := 2000000) only [W, reduceIte, Nat.reduceEqDiff, Nat.reduceAdd, Nat.reduceSub, Nat.reduceLT, Nat.reduceLeDiff, Nat.reduceMul, a80, kN632, kN635, kN638, kN641, kN644]
theorem c81_0 (v650 : Int) (r657 : Int) (h : F81_0 v650 = some r657) : Ev fun n => (ex tab n).call 81 [.int .i64 v650] [] = some (.int .i64 r657, []) := by
  unfold F81_0 at h
  obtain ⟨r653, g651, h⟩ := un1 h
  obtain ⟨N652, kN652⟩ := c74_0 v650 0 1000000000 _ g651
  obtain ⟨r656, g654, h⟩ := un1 h
  obtain ⟨N655, kN655⟩ := c72_0 r653 2 _ g654
  cases h
  refine ev_call (fn := a81) rfl ⟨N652 + N655, fun n hn => ?_⟩
  have kN652 := kN652 n (by omega)
  try simp (maxSteps := 2000000) only [wn] at kN652
  have kN655 := kN655 n (by omega)
  try simp (maxSteps := 2000000) only [wn] at kN655
  simp (maxSteps := 2000000) only [W, reduceIte, Nat.reduceEqDiff, Nat.reduceAdd, Nat.reduceSub, Nat.reduceLT, Nat.reduceLeDiff, Nat.reduceMul, a81, kN652, kN655]
theorem c134_0 (z0 : Bool) (z1 : Bool) (v691 : Int) (v692 : Int) (v693 : Int) (r694 : Bool) (h : F134_0 v691 v692 v693 = some r694) : Ev fun n => (ex tab n).call 134 [.int .i64 v691, .ptr 0 0, .ptr 1 0] [.row z0 true [.int .i64 v692], .row z1 true [.int .i64 v693]] = some (.bool r694, [.row z0 true [.int .i64 v692], .row z1 true [.int .i64 v693]]) := by
  unfold F134_0 at h
  cases h
  refine ev_call (fn := a134) rfl ⟨0, fun n hn => ?_⟩
  simp (maxSteps := 2000000) only [W, reduceIte, Nat.reduceEqDiff, Nat.reduceAdd, Nat.reduceSub, Nat.reduceLT, Nat.reduceLeDiff, Nat.reduceMul, a134]
noncomputable def h84l0_0 (z0 : Bool) (z1 : Bool) (v687 : Int) (v688 : Int) : (Int × Int) → Env × Heap
  | (v685, v686) => ([(0, .int .i64 v685), (1, .int .i64 v686), (2, .func 134 [] [.ptr 0 0, .ptr 1 0])], [.row z0 true [.int .i64 v687], .row z1 true [.int .i64 v688]])
noncomputable def q84l0_0 (z0 : Bool) (z1 : Bool) (v687 : Int) (v688 : Int) : (Int) → AExit × Env × Heap
  | r699 => (.exit 0, [(0, .int .i64 r699), (6, .undef)], [.row z0 true [.int .i64 v687], .row z1 true [.int .i64 v688]])
theorem k84l0_0 (z0 : Bool) (z1 : Bool) (v687 : Int) (v688 : Int) (s : Int × Int) (o : Int) (h : L84l0_0 v687 v688 s = some o) : Ev fun n => loopAt [0, 1, 2] [0, 6] a84l0b (ex tab n) 2 (h84l0_0 z0 z1 v687 v688 s) = some (q84l0_0 z0 z1 v687 v688 o) := by
  refine iter_sound (S84l0_0 v687 v688) [0, 1, 2] [0, 6] a84l0b 2 (h84l0_0 z0 z1 v687 v688) (q84l0_0 z0 z1 v687 v688) ?_ _ _ _ h
  rintro ⟨v685, v686⟩ z h
  simp only [S84l0_0] at h
  by_cases c689 : v686 ≤ v685
  · rw [if_pos c689] at h
    have c689d := dt c689
    cases h
    refine ⟨0, fun n hn => ?_⟩
    simp (maxSteps := 2000000) only [W, reduceIte, Nat.reduceEqDiff, Nat.reduceAdd, Nat.reduceSub, Nat.reduceLT, Nat.reduceLeDiff, Nat.reduceMul, h84l0_0, q84l0_0, a84l0b, c689d]
  · rw [if_neg c689] at h
    have c689d := df c689
    have d690 := fun x => bin_quo .i64 x 2 (by decide)
    obtain ⟨r697, g695, h⟩ := un1 h
    obtain ⟨N696, kN696⟩ := c134_0 z0 z1 (aw .i64 (v685 + (aw .i64 (Int.tdiv (aw .i64 (v686 - v685)) 2)))) v687 v688 _ g695
    by_cases c698 : r697 = true
    · rw [if_pos c698] at h
      have c698d := c698
      cases h
      refine ⟨N696, fun n hn => ?_⟩
      have kN696 := kN696 n (by omega)
      try simp (maxSteps := 2000000) only [wn] at kN696
      simp (maxSteps := 2000000) only [W, reduceIte, Nat.reduceEqDiff, Nat.reduceAdd, Nat.reduceSub, Nat.reduceLT, Nat.reduceLeDiff, Nat.reduceMul, h84l0_0, q84l0_0, a84l0b, c689d, d690, kN696, c698d]
    · rw [if_neg c698] at h
      have c698d := bf c698
      cases h
      refine ⟨N696, fun n hn => ?_⟩
      have kN696 := kN696 n (by omega)
      try simp (maxSteps := 2000000) only [wn] at kN696
      simp (maxSteps := 2000000) only [W, reduceIte, Nat.reduceEqDiff, Nat.reduceAdd, Nat.reduceSub, Nat.reduceLT, Nat.reduceLeDiff, Nat.reduceMul, h84l0_0, q84l0_0, a84l0b, c689d, d690, kN696, c698d]
theorem c84_0 (z0 : Bool) (z1 : Bool) (v681 : Int) (v682 : Int) (v683 : Int) (v684 : Int) (r703 : Int) (h : F84_0 v681 v682 v683 v684 = some r703) : Ev fun n => (ex tab n).call 84 [.int .i64 v681, .int .i64 v682, .func 134 [] [.ptr 0 0, .ptr 1 0]] [.row z0 true [.int .i64 v683], .row z1 true [.int .i64 v684]] = some (.int .i64 r703, [.row z0 true [.int .i64 v683], .row z1 true [.int .i64 v684]]) := by
  unfold F84_0 at h
  obtain ⟨r702, g700, h⟩ := un1 h
  have kN701 := k84l0_0 z0 z1 v683 v684 (v681, v682) _ g700
  obtain ⟨N701, kN701⟩ := kN701
  cases h
  refine ev_call (fn := a84) rfl ⟨N701, fun n hn => ?_⟩
  have kN701 := kN701 n (by omega)
  simp (maxSteps := 2000000) only [h84l0_0, q84l0_0, wn] at kN701
  simp (maxSteps := 2000000) only [W, reduceIte, Nat.reduceEqDiff, Nat.reduceAdd, Nat.reduceSub, Nat.reduceLT, Nat.reduceLeDiff, Nat.reduceMul, a84, a84l0, kN701, @x_loopAt]
end Go.AI
end
section
/-
  Functions, walked through: water.through, water.parallel, water.ParallelOf, guidevanebase.CopyInts, water.FlowThrough, water.DropFor$1, water.least, water.DropFor$2, water.least, water.DropFor.
-/
set_option linter.unusedVariables false
set_option linter.unusedSimpArgs false
set_option maxRecDepth 100000
set_option maxHeartbeats 4000000
namespace Go.AI
theorem c83_0 (v679 : Int) (v680 : Int) (r708 : Int) (r709 : Int) (h : F83_0 v679 v680 = some (r708, r709)) : Ev fun n => (ex tab n).call 83 [.int .i64 v679, .int .i64 v680] [] = some (.agg [.int .i64 r708, .int .i64 r709], []) := by
  unfold F83_0 at h
  obtain ⟨r706, g704, h⟩ := un1 h
  obtain ⟨N705, kN705⟩ := c84_0 true true 0 31623 v679 v680 _ g704
  by_cases c707 : (aw .i64 ((aw .i64 (v679 * r706)) * r706)) ≤ v680
  · rw [if_pos c707] at h
    have c707d := dt c707
    cases h
    refine ev_call (fn := a83) rfl ⟨N705, fun n hn => ?_⟩
    have kN705 := kN705 n (by omega)
    try simp (maxSteps := 2000000) only [wn] at kN705
    simp (maxSteps := 2000000) only [W, reduceIte, Nat.reduceEqDiff, Nat.reduceAdd, Nat.reduceSub, Nat.reduceLT, Nat.reduceLeDiff, Nat.reduceMul, a83, kN705, c707d]
  · rw [if_neg c707] at h
    have c707d := df c707
    cases h
    refine ev_call (fn := a83) rfl ⟨N705, fun n hn => ?_⟩
    have kN705 := kN705 n (by omega)
    try simp (maxSteps := 2000000) only [wn] at kN705
    simp (maxSteps := 2000000) only [W, reduceIte, Nat.reduceEqDiff, Nat.reduceAdd, Nat.reduceSub, Nat.reduceLT, Nat.reduceLeDiff, Nat.reduceMul, a83, kN705, c707d]
noncomputable def h82l0_0 (z0 : Bool) (v714 : Int) (v715 : Int) (v717 : List Int) : (Int × Int × Int) → Env × Heap
  | (v716, v720, v721) => ([(1, .int .i64 v714), (4, .ptr 1 0), (5, .ptr 2 0), (9, .slice 0 0 v717.length v717.length 1 false), (10, .int .i64 v715), (11, .int .i64 v716)], [.row z0 true (rowC v717), .row true true [.int .i64 0, .int .i64 0], .row true true [.int .i64 v720, .int .i64 v721]])
noncomputable def q82l0_0 (z0 : Bool) (v714 : Int) (v715 : Int) (v717 : List Int) : (Int × Int) → AExit × Env × Heap
  | (r730, r731) => (.exit 0, [(4, .ptr 1 0), (5, .ptr 2 0)], [.row z0 true (rowC v717), .row true true [.int .i64 0, .int .i64 0], .row true true [.int .i64 r730, .int .i64 r731]])
theorem k82l0_0 (z0 : Bool) (v714 : Int) (v715 : Int) (v717 : List Int) (s : Int × Int × Int) (o : Int × Int) (h : L82l0_0 v714 v715 v717 s = some o) : Ev fun n => loopAt [1, 4, 5, 9, 10, 11] [4, 5] a82l0b (ex tab n) 1 (h82l0_0 z0 v714 v715 v717 s) = some (q82l0_0 z0 v714 v715 v717 o) := by
  refine iter_sound (S82l0_0 v714 v715 v717) [1, 4, 5, 9, 10, 11] [4, 5] a82l0b 1 (h82l0_0 z0 v714 v715 v717) (q82l0_0 z0 v714 v715 v717) ?_ _ _ _ h
  rintro ⟨v716, v720, v721⟩ z h
  simp only [S82l0_0] at h
  by_cases c722 : v715 ≤ v716
  · rw [if_pos c722] at h
    have c722d := dt c722
    cases h
    refine ⟨0, fun n hn => ?_⟩
    simp (maxSteps := 2000000) only [W, reduceIte, Nat.reduceEqDiff, Nat.reduceAdd, Nat.reduceSub, Nat.reduceLT, Nat.reduceLeDiff, Nat.reduceMul, h82l0_0, q82l0_0, a82l0b, c722d]
  · rw [if_neg c722] at h
    have c722d := df c722
    obtain ⟨j723, x724, g725, h⟩ := un2 h
    obtain ⟨g7251, g7252⟩ := geti_in g725
    have g7253 := ac_Int g7252
    try simp only [wn] at g7251
    obtain ⟨r728, r729, g726, h⟩ := un2 h
    obtain ⟨N727, kN727⟩ := c83_0 x724 v714 _ _ g726
    cases h
    refine ⟨N727, fun n hn => ?_⟩
    have kN727 := kN727 n (by omega)
    try simp (maxSteps := 2000000) only [wn] at kN727
    simp (maxSteps := 2000000) only [W, reduceIte, Nat.reduceEqDiff, Nat.reduceAdd, Nat.reduceSub, Nat.reduceLT, Nat.reduceLeDiff, Nat.reduceMul, h82l0_0, q82l0_0, a82l0b, c722d, g7251, g7253, kN727]
theorem c82_0 (z0 : Bool) (v665 : Int) (v666 : List Int) (r736 : Int) (r737 : Int) (h : F82_0 v665 v666 = some (r736, r737)) : Ev fun n => (ex tab n).call 82 [.slice 0 0 v666.length v666.length 1 false, .int .i64 v665] [.row z0 true (rowC v666)] = some (.agg [.int .i64 r736, .int .i64 r737], [.row z0 true (rowC v666)]) := by
  unfold F82_0 at h
  obtain ⟨r734, r735, g732, h⟩ := un2 h
  have kN733 := k82l0_0 z0 v665 (v666.length : Int) v666 (0, 0, 0) _ g732
  obtain ⟨N733, kN733⟩ := kN733
  cases h
  refine ev_call (fn := a82) rfl ⟨N733, fun n hn => ?_⟩
  have kN733 := kN733 n (by omega)
  simp (maxSteps := 2000000) only [h82l0_0, q82l0_0, wn] at kN733
  simp (maxSteps := 2000000) only [W, reduceIte, Nat.reduceEqDiff, Nat.reduceAdd, Nat.reduceSub, Nat.reduceLT, Nat.reduceLeDiff, Nat.reduceMul, a82, a82l0, kN733, @x_loopAt]
theorem c25_0 (z0 : Bool) (v601 : Int) (v602 : List Int) (r742 : Int) (r743 : Int) (r744 : Int) (h : F25_0 v601 v602 = some (r742, r743, r744)) : Ev fun n => (ex tab n).call 25 [.slice 0 0 v602.length v602.length 1 false, .int .i64 v601] [.row z0 true (rowC v602)] = some (.tup [.agg [.int .i64 r742, .int .i64 r743], .int .i64 r744], [.row z0 true (rowC v602)]) := by
  unfold F25_0 at h
  obtain ⟨r649, g647, h⟩ := un1 h
  obtain ⟨N648, kN648⟩ := c80_0 z0 v602 _ g647
  obtain ⟨r660, g658, h⟩ := un1 h
  obtain ⟨N659, kN659⟩ := c81_0 v601 _ g658
  obtain ⟨r663, g661, h⟩ := un1 h
  obtain ⟨N662, kN662⟩ := c71_0 true ([r649, r660] : List Int) _ g661
  by_cases c664 : r663 = 0
  · rw [if_pos c664] at h
    have c664d := dt c664
    obtain ⟨r740, r741, g738, h⟩ := un2 h
    obtain ⟨N739, kN739⟩ := c82_0 z0 v601 v602 _ _ g738
    cases h
    refine ev_call (fn := a25) rfl ⟨N648 + N659 + N662 + N739, fun n hn => ?_⟩
    have kN648 := kN648 n (by omega)
    try simp (maxSteps := 2000000) only [wn] at kN648
    have kN659 := kN659 n (by omega)
    try simp (maxSteps := 2000000) only [wn] at kN659
    have kN662 := kN662 n (by omega)
    try simp (maxSteps := 2000000) only [wn] at kN662
    have kN739 := kN739 n (by omega)
    try simp (maxSteps := 2000000) only [wn] at kN739
    simp (maxSteps := 2000000) only [W, reduceIte, Nat.reduceEqDiff, Nat.reduceAdd, Nat.reduceSub, Nat.reduceLT, Nat.reduceLeDiff, Nat.reduceMul, a25, kN648, kN659, kN662, c664d, kN739]
  · rw [if_neg c664] at h
    have c664d := df c664
    cases h
    refine ev_call (fn := a25) rfl ⟨N648 + N659 + N662, fun n hn => ?_⟩
    have kN648 := kN648 n (by omega)
    try simp (maxSteps := 2000000) only [wn] at kN648
    have kN659 := kN659 n (by omega)
    try simp (maxSteps := 2000000) only [wn] at kN659
    have kN662 := kN662 n (by omega)
    try simp (maxSteps := 2000000) only [wn] at kN662
    simp (maxSteps := 2000000) only [W, reduceIte, Nat.reduceEqDiff, Nat.reduceAdd, Nat.reduceSub, Nat.reduceLT, Nat.reduceLeDiff, Nat.reduceMul, a25, kN648, kN659, kN662, c664d]
theorem c27_0 (v801 : Int) (v802 : Int) (r817 : Int) (r818 : Int) (r819 : Int) (h : F27_0 v801 v802 = some (r817, r818, r819)) : Ev fun n => (ex tab n).call 27 [.int .i64 v801, .int .i64 v802] [] = some (.tup [.agg [.int .i64 r817, .int .i64 r818], .int .i64 r819], []) := by
  unfold F27_0 at h
  obtain ⟨r805, g803, h⟩ := un1 h
  obtain ⟨N804, kN804⟩ := c80_0 true ([v801] : List Int) _ g803
  obtain ⟨r808, g806, h⟩ := un1 h
  obtain ⟨N807, kN807⟩ := c81_0 v802 _ g806
  obtain ⟨r811, g809, h⟩ := un1 h
  obtain ⟨N810, kN810⟩ := c71_0 true ([r805, r808] : List Int) _ g809
  by_cases c812 : r811 = 0
  · rw [if_pos c812] at h
    have c812d := dt c812
    obtain ⟨r815, r816, g813, h⟩ := un2 h
    obtain ⟨N814, kN814⟩ := c83_0 v801 v802 _ _ g813
    cases h
    refine ev_call (fn := a27) rfl ⟨N804 + N807 + N810 + N814, fun n hn => ?_⟩
    have kN804 := kN804 n (by omega)
    try simp (maxSteps := 2000000) only [wn] at kN804
    have kN807 := kN807 n (by omega)
    try simp (maxSteps := 2000000) only [wn] at kN807
    have kN810 := kN810 n (by omega)
    try simp (maxSteps := 2000000) only [wn] at kN810
    have kN814 := kN814 n (by omega)
    try simp (maxSteps := 2000000) only [wn] at kN814
    simp (maxSteps := 2000000) only [W, reduceIte, Nat.reduceEqDiff, Nat.reduceAdd, Nat.reduceSub, Nat.reduceLT, Nat.reduceLeDiff, Nat.reduceMul, a27, kN804, kN807, kN810, c812d, kN814]
  · rw [if_neg c812] at h
    have c812d := df c812
    cases h
    refine ev_call (fn := a27) rfl ⟨N804 + N807 + N810, fun n hn => ?_⟩
    have kN804 := kN804 n (by omega)
    try simp (maxSteps := 2000000) only [wn] at kN804
    have kN807 := kN807 n (by omega)
    try simp (maxSteps := 2000000) only [wn] at kN807
    have kN810 := kN810 n (by omega)
    try simp (maxSteps := 2000000) only [wn] at kN810
    simp (maxSteps := 2000000) only [W, reduceIte, Nat.reduceEqDiff, Nat.reduceAdd, Nat.reduceSub, Nat.reduceLT, Nat.reduceLeDiff, Nat.reduceMul, a27, kN804, kN807, kN810, c812d]
theorem c85_0 (z0 : Bool) (z1 : Bool) (z2 : Bool) (v864 : Int) (v865 : List Int) (v866 : Int) (r871 : Bool) (h : F85_0 v864 v865 v866 = some r871) : Ev fun n => (ex tab n).call 85 [.int .i64 v864, .ptr 0 0, .ptr 2 0] [.row z0 false [.slice 1 0 v865.length v865.length 1 false], .row z1 true (rowC v865), .row z2 true [.int .i64 v866]] = some (.bool r871, [.row z0 false [.slice 1 0 v865.length v865.length 1 false], .row z1 true (rowC v865), .row z2 true [.int .i64 v866]]) := by
  unfold F85_0 at h
  obtain ⟨r869, r870, g867, h⟩ := un2 h
  obtain ⟨N868, kN868⟩ := c82_0 false v864 v865 _ _ g867
  cases h
  refine ev_call (fn := a85) rfl ⟨N868, fun n hn => ?_⟩
  have kN868 := kN868 n (by omega)
  try simp (maxSteps := 2000000) only [wn] at kN868
  simp (maxSteps := 2000000) only [W, reduceIte, Nat.reduceEqDiff, Nat.reduceAdd, Nat.reduceSub, Nat.reduceLT, Nat.reduceLeDiff, Nat.reduceMul, a85, kN868, wd]
noncomputable def h84l0_1 (z0 : Bool) (z1 : Bool) (z2 : Bool) (v860 : List Int) (v861 : Int) : (Int × Int) → Env × Heap
  | (v858, v859) => ([(0, .int .i64 v858), (1, .int .i64 v859), (2, .func 85 [] [.ptr 0 0, .ptr 2 0])], [.row z0 false [.slice 1 0 v860.length v860.length 1 false], .row z1 true (rowC v860), .row z2 true [.int .i64 v861]])
noncomputable def q84l0_1 (z0 : Bool) (z1 : Bool) (z2 : Bool) (v860 : List Int) (v861 : Int) : (Int) → AExit × Env × Heap
  | r876 => (.exit 0, [(0, .int .i64 r876), (6, .undef)], [.row z0 false [.slice 1 0 v860.length v860.length 1 false], .row z1 true (rowC v860), .row z2 true [.int .i64 v861]])
theorem k84l0_1 (z0 : Bool) (z1 : Bool) (z2 : Bool) (v860 : List Int) (v861 : Int) (s : Int × Int) (o : Int) (h : L84l0_1 v860 v861 s = some o) : Ev fun n => loopAt [0, 1, 2] [0, 6] a84l0b (ex tab n) 3 (h84l0_1 z0 z1 z2 v860 v861 s) = some (q84l0_1 z0 z1 z2 v860 v861 o) := by
  refine iter_sound (S84l0_1 v860 v861) [0, 1, 2] [0, 6] a84l0b 3 (h84l0_1 z0 z1 z2 v860 v861) (q84l0_1 z0 z1 z2 v860 v861) ?_ _ _ _ h
  rintro ⟨v858, v859⟩ z h
  simp only [S84l0_1] at h
  by_cases c862 : v859 ≤ v858
  · rw [if_pos c862] at h
    have c862d := dt c862
    cases h
    refine ⟨0, fun n hn => ?_⟩
    simp (maxSteps := 2000000) only [W, reduceIte, Nat.reduceEqDiff, Nat.reduceAdd, Nat.reduceSub, Nat.reduceLT, Nat.reduceLeDiff, Nat.reduceMul, h84l0_1, q84l0_1, a84l0b, c862d]
  · rw [if_neg c862] at h
    have c862d := df c862
    have d863 := fun x => bin_quo .i64 x 2 (by decide)
    obtain ⟨r874, g872, h⟩ := un1 h
    obtain ⟨N873, kN873⟩ := c85_0 z0 z1 z2 (aw .i64 (v858 + (aw .i64 (Int.tdiv (aw .i64 (v859 - v858)) 2)))) v860 v861 _ g872
    by_cases c875 : r874 = true
    · rw [if_pos c875] at h
      have c875d := c875
      cases h
      refine ⟨N873, fun n hn => ?_⟩
      have kN873 := kN873 n (by omega)
      try simp (maxSteps := 2000000) only [wn] at kN873
      simp (maxSteps := 2000000) only [W, reduceIte, Nat.reduceEqDiff, Nat.reduceAdd, Nat.reduceSub, Nat.reduceLT, Nat.reduceLeDiff, Nat.reduceMul, h84l0_1, q84l0_1, a84l0b, c862d, d863, kN873, c875d]
    · rw [if_neg c875] at h
      have c875d := bf c875
      cases h
      refine ⟨N873, fun n hn => ?_⟩
      have kN873 := kN873 n (by omega)
      try simp (maxSteps := 2000000) only [wn] at kN873
      simp (maxSteps := 2000000) only [W, reduceIte, Nat.reduceEqDiff, Nat.reduceAdd, Nat.reduceSub, Nat.reduceLT, Nat.reduceLeDiff, Nat.reduceMul, h84l0_1, q84l0_1, a84l0b, c862d, d863, kN873, c875d]
theorem c84_1 (z0 : Bool) (z1 : Bool) (z2 : Bool) (v854 : Int) (v855 : Int) (v856 : List Int) (v857 : Int) (r880 : Int) (h : F84_1 v854 v855 v856 v857 = some r880) : Ev fun n => (ex tab n).call 84 [.int .i64 v854, .int .i64 v855, .func 85 [] [.ptr 0 0, .ptr 2 0]] [.row z0 false [.slice 1 0 v856.length v856.length 1 false], .row z1 true (rowC v856), .row z2 true [.int .i64 v857]] = some (.int .i64 r880, [.row z0 false [.slice 1 0 v856.length v856.length 1 false], .row z1 true (rowC v856), .row z2 true [.int .i64 v857]]) := by
  unfold F84_1 at h
  obtain ⟨r879, g877, h⟩ := un1 h
  have kN878 := k84l0_1 z0 z1 z2 v856 v857 (v854, v855) _ g877
  obtain ⟨N878, kN878⟩ := kN878
  cases h
  refine ev_call (fn := a84) rfl ⟨N878, fun n hn => ?_⟩
  have kN878 := kN878 n (by omega)
  simp (maxSteps := 2000000) only [h84l0_1, q84l0_1, wn] at kN878
  simp (maxSteps := 2000000) only [W, reduceIte, Nat.reduceEqDiff, Nat.reduceAdd, Nat.reduceSub, Nat.reduceLT, Nat.reduceLeDiff, Nat.reduceMul, a84, a84l0, kN878, @x_loopAt]
theorem c86_0 (z0 : Bool) (z1 : Bool) (z2 : Bool) (v894 : Int) (v895 : List Int) (v896 : Int) (r901 : Bool) (h : F86_0 v894 v895 v896 = some r901) : Ev fun n => (ex tab n).call 86 [.int .i64 v894, .ptr 0 0, .ptr 2 0] [.row z0 false [.slice 1 0 v895.length v895.length 1 false], .row z1 true (rowC v895), .row z2 true [.int .i64 v896]] = some (.bool r901, [.row z0 false [.slice 1 0 v895.length v895.length 1 false], .row z1 true (rowC v895), .row z2 true [.int .i64 v896]]) := by
  unfold F86_0 at h
  obtain ⟨r899, r900, g897, h⟩ := un2 h
  obtain ⟨N898, kN898⟩ := c82_0 false v894 v895 _ _ g897
  cases h
  refine ev_call (fn := a86) rfl ⟨N898, fun n hn => ?_⟩
  have kN898 := kN898 n (by omega)
  try simp (maxSteps := 2000000) only [wn] at kN898
  simp (maxSteps := 2000000) only [W, reduceIte, Nat.reduceEqDiff, Nat.reduceAdd, Nat.reduceSub, Nat.reduceLT, Nat.reduceLeDiff, Nat.reduceMul, a86, kN898, wd]
noncomputable def h84l0_2 (z0 : Bool) (z1 : Bool) (z2 : Bool) (v890 : List Int) (v891 : Int) : (Int × Int) → Env × Heap
  | (v888, v889) => ([(0, .int .i64 v888), (1, .int .i64 v889), (2, .func 86 [] [.ptr 0 0, .ptr 2 0])], [.row z0 false [.slice 1 0 v890.length v890.length 1 false], .row z1 true (rowC v890), .row z2 true [.int .i64 v891]])
noncomputable def q84l0_2 (z0 : Bool) (z1 : Bool) (z2 : Bool) (v890 : List Int) (v891 : Int) : (Int) → AExit × Env × Heap
  | r906 => (.exit 0, [(0, .int .i64 r906), (6, .undef)], [.row z0 false [.slice 1 0 v890.length v890.length 1 false], .row z1 true (rowC v890), .row z2 true [.int .i64 v891]])
theorem k84l0_2 (z0 : Bool) (z1 : Bool) (z2 : Bool) (v890 : List Int) (v891 : Int) (s : Int × Int) (o : Int) (h : L84l0_2 v890 v891 s = some o) : Ev fun n => loopAt [0, 1, 2] [0, 6] a84l0b (ex tab n) 3 (h84l0_2 z0 z1 z2 v890 v891 s) = some (q84l0_2 z0 z1 z2 v890 v891 o) := by
  refine iter_sound (S84l0_2 v890 v891) [0, 1, 2] [0, 6] a84l0b 3 (h84l0_2 z0 z1 z2 v890 v891) (q84l0_2 z0 z1 z2 v890 v891) ?_ _ _ _ h
  rintro ⟨v888, v889⟩ z h
  simp only [S84l0_2] at h
  by_cases c892 : v889 ≤ v888
  · rw [if_pos c892] at h
    have c892d := dt c892
    cases h
    refine ⟨0, fun n hn => ?_⟩
    simp (maxSteps := 2000000) only [W, reduceIte, Nat.reduceEqDiff, Nat.reduceAdd, Nat.reduceSub, Nat.reduceLT, Nat.reduceLeDiff, Nat.reduceMul, h84l0_2, q84l0_2, a84l0b, c892d]
  · rw [if_neg c892] at h
    have c892d := df c892
    have d893 := fun x => bin_quo .i64 x 2 (by decide)
    obtain ⟨r904, g902, h⟩ := un1 h
    obtain ⟨N903, kN903⟩ := c86_0 z0 z1 z2 (aw .i64 (v888 + (aw .i64 (Int.tdiv (aw .i64 (v889 - v888)) 2)))) v890 v891 _ g902
    by_cases c905 : r904 = true
    · rw [if_pos c905] at h
      have c905d := c905
      cases h
      refine ⟨N903, fun n hn => ?_⟩
      have kN903 := kN903 n (by omega)
      try simp (maxSteps := 2000000) only [wn] at kN903
      simp (maxSteps := 2000000) only [W, reduceIte, Nat.reduceEqDiff, Nat.reduceAdd, Nat.reduceSub, Nat.reduceLT, Nat.reduceLeDiff, Nat.reduceMul, h84l0_2, q84l0_2, a84l0b, c892d, d893, kN903, c905d]
    · rw [if_neg c905] at h
      have c905d := bf c905
      cases h
      refine ⟨N903, fun n hn => ?_⟩
      have kN903 := kN903 n (by omega)
      try simp (maxSteps := 2000000) only [wn] at kN903
      simp (maxSteps := 2000000) only [W, reduceIte, Nat.reduceEqDiff, Nat.reduceAdd, Nat.reduceSub, Nat.reduceLT, Nat.reduceLeDiff, Nat.reduceMul, h84l0_2, q84l0_2, a84l0b, c892d, d893, kN903, c905d]
theorem c84_2 (z0 : Bool) (z1 : Bool) (z2 : Bool) (v884 : Int) (v885 : Int) (v886 : List Int) (v887 : Int) (r910 : Int) (h : F84_2 v884 v885 v886 v887 = some r910) : Ev fun n => (ex tab n).call 84 [.int .i64 v884, .int .i64 v885, .func 86 [] [.ptr 0 0, .ptr 2 0]] [.row z0 false [.slice 1 0 v886.length v886.length 1 false], .row z1 true (rowC v886), .row z2 true [.int .i64 v887]] = some (.int .i64 r910, [.row z0 false [.slice 1 0 v886.length v886.length 1 false], .row z1 true (rowC v886), .row z2 true [.int .i64 v887]]) := by
  unfold F84_2 at h
  obtain ⟨r909, g907, h⟩ := un1 h
  have kN908 := k84l0_2 z0 z1 z2 v886 v887 (v884, v885) _ g907
  obtain ⟨N908, kN908⟩ := kN908
  cases h
  refine ev_call (fn := a84) rfl ⟨N908, fun n hn => ?_⟩
  have kN908 := kN908 n (by omega)
  simp (maxSteps := 2000000) only [h84l0_2, q84l0_2, wn] at kN908
  simp (maxSteps := 2000000) only [W, reduceIte, Nat.reduceEqDiff, Nat.reduceAdd, Nat.reduceSub, Nat.reduceLT, Nat.reduceLeDiff, Nat.reduceMul, a84, a84l0, kN908, @x_loopAt]
theorem c28_0 (z0 : Bool) (v839 : Int) (v840 : List Int) (r915 : Int) (r916 : Int) (r917 : Int) (h : F28_0 v839 v840 = some (r915, r916, r917)) : Ev fun n => (ex tab n).call 28 [.slice 0 0 v840.length v840.length 1 false, .int .i64 v839] [.row z0 true (rowC v840)] = some (.tup [.agg [.int .i64 r915, .int .i64 r916], .int .i64 r917], [.row z0 true (rowC v840)]) := by
  unfold F28_0 at h
  obtain ⟨r843, g841, h⟩ := un1 h
  obtain ⟨N842, kN842⟩ := c80_0 false v840 _ g841
  obtain ⟨r846, g844, h⟩ := un1 h
  obtain ⟨N845, kN845⟩ := c74_0 v839 0 10000 _ g844
  obtain ⟨r849, g847, h⟩ := un1 h
  obtain ⟨N848, kN848⟩ := c72_0 r846 2 _ g847
  obtain ⟨r852, g850, h⟩ := un1 h
  obtain ⟨N851, kN851⟩ := c71_0 true ([r843, r849] : List Int) _ g850
  by_cases c853 : r852 = 0
  · rw [if_pos c853] at h
    have c853d := dt c853
    obtain ⟨r883, g881, h⟩ := un1 h
    obtain ⟨N882, kN882⟩ := c84_1 true z0 true 0 1000000001 v840 v839 _ g881
    obtain ⟨r913, g911, h⟩ := un1 h
    obtain ⟨N912, kN912⟩ := c84_2 true z0 true r883 1000000001 v840 v839 _ g911
    by_cases c914 : r913 ≤ 1000000000
    · rw [if_pos c914] at h
      have c914d := dt c914
      cases h
      refine ev_call (fn := a28) rfl ⟨N842 + N845 + N848 + N851 + N882 + N912, fun n hn => ?_⟩
      have kN842 := kN842 n (by omega)
      try simp (maxSteps := 2000000) only [wn] at kN842
      have kN845 := kN845 n (by omega)
      try simp (maxSteps := 2000000) only [wn] at kN845
      have kN848 := kN848 n (by omega)
      try simp (maxSteps := 2000000) only [wn] at kN848
      have kN851 := kN851 n (by omega)
      try simp (maxSteps := 2000000) only [wn] at kN851
      have kN882 := kN882 n (by omega)
      try simp (maxSteps := 2000000) only [wn] at kN882
      have kN912 := kN912 n (by omega)
      try simp (maxSteps := 2000000) only [wn] at kN912
      simp (maxSteps := 2000000) only [W, reduceIte, Nat.reduceEqDiff, Nat.reduceAdd, Nat.reduceSub, Nat.reduceLT, Nat.reduceLeDiff, Nat.reduceMul, a28, kN842, kN845, kN848, kN851, c853d, kN882, kN912, c914d, wd]
    · rw [if_neg c914] at h
      have c914d := df c914
      cases h
      refine ev_call (fn := a28) rfl ⟨N842 + N845 + N848 + N851 + N882 + N912, fun n hn => ?_⟩
      have kN842 := kN842 n (by omega)
      try simp (maxSteps := 2000000) only [wn] at kN842
      have kN845 := kN845 n (by omega)
      try simp (maxSteps := 2000000) only [wn] at kN845
      have kN848 := kN848 n (by omega)
      try simp (maxSteps := 2000000) only [wn] at kN848
      have kN851 := kN851 n (by omega)
      try simp (maxSteps := 2000000) only [wn] at kN851
      have kN882 := kN882 n (by omega)
      try simp (maxSteps := 2000000) only [wn] at kN882
      have kN912 := kN912 n (by omega)
      try simp (maxSteps := 2000000) only [wn] at kN912
      simp (maxSteps := 2000000) only [W, reduceIte, Nat.reduceEqDiff, Nat.reduceAdd, Nat.reduceSub, Nat.reduceLT, Nat.reduceLeDiff, Nat.reduceMul, a28, kN842, kN845, kN848, kN851, c853d, kN882, kN912, c914d, wd]
  · rw [if_neg c853] at h
    have c853d := df c853
    cases h
    refine ev_call (fn := a28) rfl ⟨N842 + N845 + N848 + N851, fun n hn => ?_⟩
    have kN842 := kN842 n (by omega)
    try simp (maxSteps := 2000000) only [wn] at kN842
    have kN845 := kN845 n (by omega)
    try simp (maxSteps := 2000000) only [wn] at kN845
    have kN848 := kN848 n (by omega)
    try simp (maxSteps := 2000000) only [wn] at kN848
    have kN851 := kN851 n (by omega)
    try simp (maxSteps := 2000000) only [wn] at kN851
    simp (maxSteps := 2000000) only [W, reduceIte, Nat.reduceEqDiff, Nat.reduceAdd, Nat.reduceSub, Nat.reduceLT, Nat.reduceLeDiff, Nat.reduceMul, a28, kN842, kN845, kN848, kN851, c853d, wd]
end Go.AI
end
section
/-
  Functions, walked through: water.SerialOf, guidevanebase.Root, guidevanebase.Floor, guidevanebase.Ceil, guidevanebase.RootUp, guidevaneref02.Through, guidevaneref02.Parallel.
-/
set_option linter.unusedVariables false
set_option linter.unusedSimpArgs false
set_option maxRecDepth 100000
set_option maxHeartbeats 4000000
namespace Go.AI
noncomputable def h43l0_0 (z0 : Bool) (v2799 : Int) (v2801 : List Int) : (Int × Int) → Env × Heap
  | (v2798, v2800) => ([(5, .int .i64 v2798), (13, .slice 0 0 v2801.length v2801.length 1 false), (14, .int .i64 v2799), (15, .int .i64 v2800)], [.row z0 true (rowC v2801)])
noncomputable def q43l0_0 (z0 : Bool) (v2799 : Int) (v2801 : List Int) : (Int) → AExit × Env × Heap
  | r2806 => (.exit 0, [(2, .undef), (3, .undef), (5, .int .i64 r2806)], [.row z0 true (rowC v2801)])
theorem k43l0_0 (z0 : Bool) (v2799 : Int) (v2801 : List Int) (s : Int × Int) (o : Int) (h : L43l0_0 v2799 v2801 s = some o) : Ev fun n => loopAt [5, 13, 14, 15] [2, 3, 5] a43l0b (ex tab n) 1 (h43l0_0 z0 v2799 v2801 s) = some (q43l0_0 z0 v2799 v2801 o) := by
  refine iter_sound (S43l0_0 v2799 v2801) [5, 13, 14, 15] [2, 3, 5] a43l0b 1 (h43l0_0 z0 v2799 v2801) (q43l0_0 z0 v2799 v2801) ?_ _ _ _ h
  rintro ⟨v2798, v2800⟩ z h
  simp only [S43l0_0] at h
  by_cases c2802 : v2799 ≤ v2800
  · rw [if_pos c2802] at h
    have c2802d := dt c2802
    cases h
    refine ⟨0, fun n hn => ?_⟩
    simp (maxSteps := 2000000) only [W, reduceIte, Nat.reduceEqDiff, Nat.reduceAdd, Nat.reduceSub, Nat.reduceLT, Nat.reduceLeDiff, Nat.reduceMul, h43l0_0, q43l0_0, a43l0b, c2802d]
  · rw [if_neg c2802] at h
    have c2802d := df c2802
    obtain ⟨j2803, x2804, g2805, h⟩ := un2 h
    obtain ⟨g28051, g28052⟩ := geti_in g2805
    have g28053 := ac_Int g28052
    try simp only [wn] at g28051
    cases h
    refine ⟨0, fun n hn => ?_⟩
    simp (maxSteps := 2000000) only [W, reduceIte, Nat.reduceEqDiff, Nat.reduceAdd, Nat.reduceSub, Nat.reduceLT, Nat.reduceLeDiff, Nat.reduceMul, h43l0_0, q43l0_0, a43l0b, c2802d, g28051, g28053]
theorem c43_0 (z0 : Bool) (v2793 : List Int) (r2810 : Int) (r2811 : Int) (h : F43_0 v2793 = some (r2810, r2811)) : Ev fun n => (ex tab n).call 43 [.slice 0 0 v2793.length v2793.length 1 false] [.row z0 true (rowC v2793)] = some (.tup [.int .i64 r2810, .int .i64 r2811], [.row z0 true (rowC v2793)]) := by
  unfold F43_0 at h
  obtain ⟨r2796, g2794, h⟩ := un1 h
  obtain ⟨N2795, kN2795⟩ := c80_0 z0 v2793 _ g2794
  by_cases c2797 : r2796 = 0
  · rw [if_pos c2797] at h
    have c2797d := dt c2797
    obtain ⟨r2809, g2807, h⟩ := un1 h
    have kN2808 := k43l0_0 z0 (v2793.length : Int) v2793 (0, 0) _ g2807
    obtain ⟨N2808, kN2808⟩ := kN2808
    cases h
    refine ev_call (fn := a43) rfl ⟨N2795 + N2808, fun n hn => ?_⟩
    have kN2795 := kN2795 n (by omega)
    try simp (maxSteps := 2000000) only [wn] at kN2795
    have kN2808 := kN2808 n (by omega)
    simp (maxSteps := 2000000) only [h43l0_0, q43l0_0, wn] at kN2808
    simp (maxSteps := 2000000) only [W, reduceIte, Nat.reduceEqDiff, Nat.reduceAdd, Nat.reduceSub, Nat.reduceLT, Nat.reduceLeDiff, Nat.reduceMul, a43, a43l0, kN2795, c2797d, kN2808, @x_loopAt]
  · rw [if_neg c2797] at h
    have c2797d := df c2797
    cases h
    refine ev_call (fn := a43) rfl ⟨N2795, fun n hn => ?_⟩
    have kN2795 := kN2795 n (by omega)
    try simp (maxSteps := 2000000) only [wn] at kN2795
    simp (maxSteps := 2000000) only [W, reduceIte, Nat.reduceEqDiff, Nat.reduceAdd, Nat.reduceSub, Nat.reduceLT, Nat.reduceLeDiff, Nat.reduceMul, a43, a43l0, kN2795, c2797d, @x_loopAt]
noncomputable def h103l0_0 (v2865 : Int) : (Int × Int) → Env × Heap
  | (v2866, v2867) => ([(0, .int .i64 v2865), (3, .int .i64 v2866), (4, .int .i64 v2867)], [])
noncomputable def q103l0_0 (v2865 : Int) : (Int) → AExit × Env × Heap
  | r2872 => (.exit 0, [(2, .undef), (3, .int .i64 r2872)], [])
theorem k103l0_0 (v2865 : Int) (s : Int × Int) (o : Int) (h : L103l0_0 v2865 s = some o) : Ev fun n => loopAt [0, 3, 4] [2, 3] a103l0b (ex tab n) 0 (h103l0_0 v2865 s) = some (q103l0_0 v2865 o) := by
  refine iter_sound (S103l0_0 v2865) [0, 3, 4] [2, 3] a103l0b 0 (h103l0_0 v2865) (q103l0_0 v2865) ?_ _ _ _ h
  rintro ⟨v2866, v2867⟩ z h
  simp only [S103l0_0] at h
  by_cases c2868 : v2867 ≤ 0
  · rw [if_pos c2868] at h
    have c2868d := dt c2868
    cases h
    refine ⟨0, fun n hn => ?_⟩
    simp (maxSteps := 2000000) only [W, reduceIte, Nat.reduceEqDiff, Nat.reduceAdd, Nat.reduceSub, Nat.reduceLT, Nat.reduceLeDiff, Nat.reduceMul, h103l0_0, q103l0_0, a103l0b, c2868d]
  · rw [if_neg c2868] at h
    have c2868d := df c2868
    by_cases c2869 : (aw .i64 ((aw .i64 (v2866 + v2867)) * (aw .i64 (v2866 + v2867)))) ≤ v2865
    · rw [if_pos c2869] at h
      have c2869d := dt c2869
      have d2870 := fun x => bin_quo .i64 x 2 (by decide)
      cases h
      refine ⟨0, fun n hn => ?_⟩
      simp (maxSteps := 2000000) only [W, reduceIte, Nat.reduceEqDiff, Nat.reduceAdd, Nat.reduceSub, Nat.reduceLT, Nat.reduceLeDiff, Nat.reduceMul, h103l0_0, q103l0_0, a103l0b, c2868d, c2869d, d2870]
    · rw [if_neg c2869] at h
      have c2869d := df c2869
      have d2871 := fun x => bin_quo .i64 x 2 (by decide)
      cases h
      refine ⟨0, fun n hn => ?_⟩
      simp (maxSteps := 2000000) only [W, reduceIte, Nat.reduceEqDiff, Nat.reduceAdd, Nat.reduceSub, Nat.reduceLT, Nat.reduceLeDiff, Nat.reduceMul, h103l0_0, q103l0_0, a103l0b, c2868d, c2869d, d2871]
theorem c103_0 (v2864 : Int) (r2876 : Int) (h : F103_0 v2864 = some r2876) : Ev fun n => (ex tab n).call 103 [.int .i64 v2864] [] = some (.int .i64 r2876, []) := by
  unfold F103_0 at h
  obtain ⟨r2875, g2873, h⟩ := un1 h
  have kN2874 := k103l0_0 v2864 (0, 1073741824) _ g2873
  obtain ⟨N2874, kN2874⟩ := kN2874
  cases h
  refine ev_call (fn := a103) rfl ⟨N2874, fun n hn => ?_⟩
  have kN2874 := kN2874 n (by omega)
  simp (maxSteps := 2000000) only [h103l0_0, q103l0_0, wn] at kN2874
  simp (maxSteps := 2000000) only [W, reduceIte, Nat.reduceEqDiff, Nat.reduceAdd, Nat.reduceSub, Nat.reduceLT, Nat.reduceLeDiff, Nat.reduceMul, a103, a103l0, kN2874, @x_loopAt]
theorem c113_0 (v2882 : Int) (v2883 : Int) (r2888 : Int) (h : F113_0 v2882 v2883 = some r2888) : Ev fun n => (ex tab n).call 113 [.int .i64 v2882, .int .i64 v2883] [] = some (.int .i64 r2888, []) := by
  unfold F113_0 at h
  by_cases c2885 : v2883 = 0
  · rw [if_pos c2885] at h
    have c2885d := dt c2885
    cases h
  · rw [if_neg c2885] at h
    have c2885d := df c2885
    have d2884 := fun x => bin_quo .i64 x v2883 (by assumption)
    have d2886 := fun x => bin_rem .i64 x v2883 (by assumption)
    by_cases c2887 : 0 ≤ (Int.tmod v2882 v2883)
    · rw [if_pos c2887] at h
      have c2887d := dt c2887
      cases h
      refine ev_call (fn := a113) rfl ⟨0, fun n hn => ?_⟩
      simp (maxSteps := 2000000) only [W, reduceIte, Nat.reduceEqDiff, Nat.reduceAdd, Nat.reduceSub, Nat.reduceLT, Nat.reduceLeDiff, Nat.reduceMul, a113, c2885d, d2884, d2886, c2887d]
    · rw [if_neg c2887] at h
      have c2887d := df c2887
      cases h
      refine ev_call (fn := a113) rfl ⟨0, fun n hn => ?_⟩
      simp (maxSteps := 2000000) only [W, reduceIte, Nat.reduceEqDiff, Nat.reduceAdd, Nat.reduceSub, Nat.reduceLT, Nat.reduceLeDiff, Nat.reduceMul, a113, c2885d, d2884, d2886, c2887d]
theorem c105_0 (v2880 : Int) (v2881 : Int) (r2892 : Int) (h : F105_0 v2880 v2881 = some r2892) : Ev fun n => (ex tab n).call 105 [.int .i64 v2880, .int .i64 v2881] [] = some (.int .i64 r2892, []) := by
  unfold F105_0 at h
  obtain ⟨r2891, g2889, h⟩ := un1 h
  obtain ⟨N2890, kN2890⟩ := c113_0 (aw .i64 (0 - v2880)) v2881 _ g2889
  cases h
  refine ev_call (fn := a105) rfl ⟨N2890, fun n hn => ?_⟩
  have kN2890 := kN2890 n (by omega)
  try simp (maxSteps := 2000000) only [wn] at kN2890
  simp (maxSteps := 2000000) only [W, reduceIte, Nat.reduceEqDiff, Nat.reduceAdd, Nat.reduceSub, Nat.reduceLT, Nat.reduceLeDiff, Nat.reduceMul, a105, kN2890]
theorem c104_0 (v2896 : Int) (r2901 : Int) (h : F104_0 v2896 = some r2901) : Ev fun n => (ex tab n).call 104 [.int .i64 v2896] [] = some (.int .i64 r2901, []) := by
  unfold F104_0 at h
  obtain ⟨r2899, g2897, h⟩ := un1 h
  obtain ⟨N2898, kN2898⟩ := c103_0 v2896 _ g2897
  by_cases c2900 : v2896 ≤ (aw .i64 (r2899 * r2899))
  · rw [if_pos c2900] at h
    have c2900d := dt c2900
    cases h
    refine ev_call (fn := a104) rfl ⟨N2898, fun n hn => ?_⟩
    have kN2898 := kN2898 n (by omega)
    try simp (maxSteps := 2000000) only [wn] at kN2898
    simp (maxSteps := 2000000) only [W, reduceIte, Nat.reduceEqDiff, Nat.reduceAdd, Nat.reduceSub, Nat.reduceLT, Nat.reduceLeDiff, Nat.reduceMul, a104, kN2898, c2900d]
  · rw [if_neg c2900] at h
    have c2900d := df c2900
    cases h
    refine ev_call (fn := a104) rfl ⟨N2898, fun n hn => ?_⟩
    have kN2898 := kN2898 n (by omega)
    try simp (maxSteps := 2000000) only [wn] at kN2898
    simp (maxSteps := 2000000) only [W, reduceIte, Nat.reduceEqDiff, Nat.reduceAdd, Nat.reduceSub, Nat.reduceLT, Nat.reduceLeDiff, Nat.reduceMul, a104, kN2898, c2900d]
theorem c45_0 (v2860 : Int) (v2861 : Int) (r2905 : Int) (r2906 : Int) (h : F45_0 v2860 v2861 = some (r2905, r2906)) : Ev fun n => (ex tab n).call 45 [.int .i64 v2860, .int .i64 v2861] [] = some (.agg [.int .i64 r2905, .int .i64 r2906], []) := by
  unfold F45_0 at h
  by_cases c2863 : v2860 = 0
  · rw [if_pos c2863] at h
    have c2863d := dt c2863
    cases h
  · rw [if_neg c2863] at h
    have c2863d := df c2863
    have d2862 := fun x => bin_quo .i64 x v2860 (by assumption)
    obtain ⟨r2879, g2877, h⟩ := un1 h
    obtain ⟨N2878, kN2878⟩ := c103_0 (aw .i64 (Int.tdiv v2861 v2860)) _ g2877
    obtain ⟨r2895, g2893, h⟩ := un1 h
    obtain ⟨N2894, kN2894⟩ := c105_0 v2861 v2860 _ g2893
    obtain ⟨r2904, g2902, h⟩ := un1 h
    obtain ⟨N2903, kN2903⟩ := c104_0 r2895 _ g2902
    cases h
    refine ev_call (fn := a45) rfl ⟨N2878 + N2894 + N2903, fun n hn => ?_⟩
    have kN2878 := kN2878 n (by omega)
    try simp (maxSteps := 2000000) only [wn] at kN2878
    have kN2894 := kN2894 n (by omega)
    try simp (maxSteps := 2000000) only [wn] at kN2894
    have kN2903 := kN2903 n (by omega)
    try simp (maxSteps := 2000000) only [wn] at kN2903
    simp (maxSteps := 2000000) only [W, reduceIte, Nat.reduceEqDiff, Nat.reduceAdd, Nat.reduceSub, Nat.reduceLT, Nat.reduceLeDiff, Nat.reduceMul, a45, c2863d, d2862, kN2878, kN2894, kN2903]
noncomputable def h7l0_0 (z0 : Bool) (v2830 : Int) (v2831 : Int) (v2832 : Int) (v2833 : Int) (v2834 : Int) (v2835 : Int) (v2837 : List Int) (v2838 : Int) (v2839 : Int) (v2840 : Int) (v2841 : Int) : (Int) → Env × Heap
  | v2836 => ([(0, .slice 0 0 v2837.length v2837.length 1 false), (1, .int .i64 v2830), (2, .int .i64 v2831), (7, .int .i64 v2832), (8, .int .i64 v2833), (9, .ptr 1 0), (10, .int .i64 v2834), (11, .ptr 2 0), (12, .int .i64 v2835), (13, .int .i64 v2836)], [.row z0 true (rowC v2837), .row true true [.int .i64 v2838, .int .i64 v2839], .row true true [.int .i64 v2840, .int .i64 v2841]])
noncomputable def q7l0_0 (z0 : Bool) (v2830 : Int) (v2831 : Int) (v2832 : Int) (v2833 : Int) (v2834 : Int) (v2835 : Int) (v2837 : List Int) (v2838 : Int) (v2839 : Int) (v2840 : Int) (v2841 : Int) : ((Unit) ⊕ (Unit)) → AExit × Env × Heap
  | .inl (_) => (.exit 0, [(0, .slice 0 0 v2837.length v2837.length 1 false), (1, .int .i64 v2830), (2, .int .i64 v2831), (6, .undef), (7, .int .i64 v2832), (8, .int .i64 v2833), (9, .ptr 1 0), (10, .int .i64 v2834), (11, .ptr 2 0), (12, .int .i64 v2835)], [.row z0 true (rowC v2837), .row true true [.int .i64 v2838, .int .i64 v2839], .row true true [.int .i64 v2840, .int .i64 v2841]])
  | .inr (_) => (.ret, [(0, .slice 0 0 v2837.length v2837.length 1 false), (1, .int .i64 v2830), (2, .int .i64 v2831), (6, .bool false), (7, .int .i64 v2832), (8, .int .i64 v2833), (9, .ptr 1 0), (10, .int .i64 v2834), (11, .ptr 2 0), (12, .int .i64 v2835)], [.row z0 true (rowC v2837), .row true true [.int .i64 v2838, .int .i64 v2839], .row true true [.int .i64 v2840, .int .i64 v2841]])
theorem k7l0_0 (z0 : Bool) (v2830 : Int) (v2831 : Int) (v2832 : Int) (v2833 : Int) (v2834 : Int) (v2835 : Int) (v2837 : List Int) (v2838 : Int) (v2839 : Int) (v2840 : Int) (v2841 : Int) (s : Int) (o : (Unit) ⊕ (Unit)) (h : L7l0_0 v2830 v2831 v2832 v2833 v2834 v2835 v2837 v2838 v2839 v2840 v2841 s = some o) : Ev fun n => loopAt [0, 1, 2, 7, 8, 9, 10, 11, 12, 13] [0, 1, 2, 6, 7, 8, 9, 10, 11, 12] a7l0b (ex tab n) 1 (h7l0_0 z0 v2830 v2831 v2832 v2833 v2834 v2835 v2837 v2838 v2839 v2840 v2841 s) = some (q7l0_0 z0 v2830 v2831 v2832 v2833 v2834 v2835 v2837 v2838 v2839 v2840 v2841 o) := by
  refine iter_sound (S7l0_0 v2830 v2831 v2832 v2833 v2834 v2835 v2837 v2838 v2839 v2840 v2841) [0, 1, 2, 7, 8, 9, 10, 11, 12, 13] [0, 1, 2, 6, 7, 8, 9, 10, 11, 12] a7l0b 1 (h7l0_0 z0 v2830 v2831 v2832 v2833 v2834 v2835 v2837 v2838 v2839 v2840 v2841) (q7l0_0 z0 v2830 v2831 v2832 v2833 v2834 v2835 v2837 v2838 v2839 v2840 v2841) ?_ _ _ _ h
  rintro v2836 z h
  simp only [S7l0_0] at h
  by_cases c2842 : (v2837.length : Int) ≤ v2836
  · rw [if_pos c2842] at h
    have c2842d := dt c2842
    cases h
    refine ⟨0, fun n hn => ?_⟩
    simp (maxSteps := 2000000) only [W, reduceIte, Nat.reduceEqDiff, Nat.reduceAdd, Nat.reduceSub, Nat.reduceLT, Nat.reduceLeDiff, Nat.reduceMul, h7l0_0, q7l0_0, a7l0b, c2842d, wd]
  · rw [if_neg c2842] at h
    have c2842d := df c2842
    obtain ⟨j2843, x2844, g2845, h⟩ := un2 h
    obtain ⟨g28451, g28452⟩ := geti_in g2845
    have g28453 := ac_Int g28452
    try simp only [wn] at g28451
    obtain ⟨r2848, r2849, r2850, g2846, h⟩ := un3 h
    obtain ⟨N2847, kN2847⟩ := c27_0 x2844 v2830 _ _ _ g2846
    obtain ⟨r2853, g2851, h⟩ := un1 h
    obtain ⟨N2852, kN2852⟩ := c44_0 x2844 _ g2851
    by_cases c2854 : r2853 = 0
    · rw [if_pos c2854] at h
      have c2854d := dt c2854
      obtain ⟨r2857, g2855, h⟩ := un1 h
      obtain ⟨N2856, kN2856⟩ := c24_0 v2830 _ g2855
      by_cases c2858 : r2857 = 0
      · rw [if_pos c2858] at h
        have c2858d := dt c2858
        by_cases c2859 : r2850 = 0
        · rw [if_pos c2859] at h
          have c2859d := dt c2859
          obtain ⟨r2909, r2910, g2907, h⟩ := un2 h
          obtain ⟨N2908, kN2908⟩ := c45_0 x2844 v2830 _ _ g2907
          by_cases c2911 : r2848 = r2909
          · rw [if_pos c2911] at h
            have c2911d := dt c2911
            by_cases c2912 : r2849 = r2910
            · rw [if_pos c2912] at h
              have c2912d := dt c2912
              cases h
              refine ⟨N2847 + N2852 + N2856 + N2908, fun n hn => ?_⟩
              have kN2847 := kN2847 n (by omega)
              try simp (maxSteps := 2000000) only [wn] at kN2847
              have kN2852 := kN2852 n (by omega)
              try simp (maxSteps := 2000000) only [wn] at kN2852
              have kN2856 := kN2856 n (by omega)
              try simp (maxSteps := 2000000) only [wn] at kN2856
              have kN2908 := kN2908 n (by omega)
              try simp (maxSteps := 2000000) only [wn] at kN2908
              simp (maxSteps := 2000000) only [W, reduceIte, Nat.reduceEqDiff, Nat.reduceAdd, Nat.reduceSub, Nat.reduceLT, Nat.reduceLeDiff, Nat.reduceMul, h7l0_0, q7l0_0, a7l0b, c2842d, g28451, g28453, kN2847, kN2852, c2854d, kN2856, c2858d, c2859d, kN2908, c2911d, c2912d, wd]
            · rw [if_neg c2912] at h
              have c2912d := df c2912
              cases h
              refine ⟨N2847 + N2852 + N2856 + N2908, fun n hn => ?_⟩
              have kN2847 := kN2847 n (by omega)
              try simp (maxSteps := 2000000) only [wn] at kN2847
              have kN2852 := kN2852 n (by omega)
              try simp (maxSteps := 2000000) only [wn] at kN2852
              have kN2856 := kN2856 n (by omega)
              try simp (maxSteps := 2000000) only [wn] at kN2856
              have kN2908 := kN2908 n (by omega)
              try simp (maxSteps := 2000000) only [wn] at kN2908
              simp (maxSteps := 2000000) only [W, reduceIte, Nat.reduceEqDiff, Nat.reduceAdd, Nat.reduceSub, Nat.reduceLT, Nat.reduceLeDiff, Nat.reduceMul, h7l0_0, q7l0_0, a7l0b, c2842d, g28451, g28453, kN2847, kN2852, c2854d, kN2856, c2858d, c2859d, kN2908, c2911d, c2912d, wd]
          · rw [if_neg c2911] at h
            have c2911d := df c2911
            cases h
            refine ⟨N2847 + N2852 + N2856 + N2908, fun n hn => ?_⟩
            have kN2847 := kN2847 n (by omega)
            try simp (maxSteps := 2000000) only [wn] at kN2847
            have kN2852 := kN2852 n (by omega)
            try simp (maxSteps := 2000000) only [wn] at kN2852
            have kN2856 := kN2856 n (by omega)
            try simp (maxSteps := 2000000) only [wn] at kN2856
            have kN2908 := kN2908 n (by omega)
            try simp (maxSteps := 2000000) only [wn] at kN2908
            simp (maxSteps := 2000000) only [W, reduceIte, Nat.reduceEqDiff, Nat.reduceAdd, Nat.reduceSub, Nat.reduceLT, Nat.reduceLeDiff, Nat.reduceMul, h7l0_0, q7l0_0, a7l0b, c2842d, g28451, g28453, kN2847, kN2852, c2854d, kN2856, c2858d, c2859d, kN2908, c2911d, wd]
        · rw [if_neg c2859] at h
          have c2859d := df c2859
          cases h
          refine ⟨N2847 + N2852 + N2856, fun n hn => ?_⟩
          have kN2847 := kN2847 n (by omega)
          try simp (maxSteps := 2000000) only [wn] at kN2847
          have kN2852 := kN2852 n (by omega)
          try simp (maxSteps := 2000000) only [wn] at kN2852
          have kN2856 := kN2856 n (by omega)
          try simp (maxSteps := 2000000) only [wn] at kN2856
          simp (maxSteps := 2000000) only [W, reduceIte, Nat.reduceEqDiff, Nat.reduceAdd, Nat.reduceSub, Nat.reduceLT, Nat.reduceLeDiff, Nat.reduceMul, h7l0_0, q7l0_0, a7l0b, c2842d, g28451, g28453, kN2847, kN2852, c2854d, kN2856, c2858d, c2859d, wd]
      · rw [if_neg c2858] at h
        have c2858d := df c2858
        by_cases c2913 : r2850 = r2857
        · rw [if_pos c2913] at h
          have c2913d := dt c2913
          by_cases c2914 : r2848 = 0
          · rw [if_pos c2914] at h
            have c2914d := dt c2914
            by_cases c2915 : r2849 = 0
            · rw [if_pos c2915] at h
              have c2915d := dt c2915
              cases h
              refine ⟨N2847 + N2852 + N2856, fun n hn => ?_⟩
              have kN2847 := kN2847 n (by omega)
              try simp (maxSteps := 2000000) only [wn] at kN2847
              have kN2852 := kN2852 n (by omega)
              try simp (maxSteps := 2000000) only [wn] at kN2852
              have kN2856 := kN2856 n (by omega)
              try simp (maxSteps := 2000000) only [wn] at kN2856
              simp (maxSteps := 2000000) only [W, reduceIte, Nat.reduceEqDiff, Nat.reduceAdd, Nat.reduceSub, Nat.reduceLT, Nat.reduceLeDiff, Nat.reduceMul, h7l0_0, q7l0_0, a7l0b, c2842d, g28451, g28453, kN2847, kN2852, c2854d, kN2856, c2858d, c2913d, c2914d, c2915d, wd]
            · rw [if_neg c2915] at h
              have c2915d := df c2915
              cases h
              refine ⟨N2847 + N2852 + N2856, fun n hn => ?_⟩
              have kN2847 := kN2847 n (by omega)
              try simp (maxSteps := 2000000) only [wn] at kN2847
              have kN2852 := kN2852 n (by omega)
              try simp (maxSteps := 2000000) only [wn] at kN2852
              have kN2856 := kN2856 n (by omega)
              try simp (maxSteps := 2000000) only [wn] at kN2856
              simp (maxSteps := 2000000) only [W, reduceIte, Nat.reduceEqDiff, Nat.reduceAdd, Nat.reduceSub, Nat.reduceLT, Nat.reduceLeDiff, Nat.reduceMul, h7l0_0, q7l0_0, a7l0b, c2842d, g28451, g28453, kN2847, kN2852, c2854d, kN2856, c2858d, c2913d, c2914d, c2915d, wd]
          · rw [if_neg c2914] at h
            have c2914d := df c2914
            cases h
            refine ⟨N2847 + N2852 + N2856, fun n hn => ?_⟩
            have kN2847 := kN2847 n (by omega)
            try simp (maxSteps := 2000000) only [wn] at kN2847
            have kN2852 := kN2852 n (by omega)
            try simp (maxSteps := 2000000) only [wn] at kN2852
            have kN2856 := kN2856 n (by omega)
            try simp (maxSteps := 2000000) only [wn] at kN2856
            simp (maxSteps := 2000000) only [W, reduceIte, Nat.reduceEqDiff, Nat.reduceAdd, Nat.reduceSub, Nat.reduceLT, Nat.reduceLeDiff, Nat.reduceMul, h7l0_0, q7l0_0, a7l0b, c2842d, g28451, g28453, kN2847, kN2852, c2854d, kN2856, c2858d, c2913d, c2914d, wd]
        · rw [if_neg c2913] at h
          have c2913d := df c2913
          cases h
          refine ⟨N2847 + N2852 + N2856, fun n hn => ?_⟩
          have kN2847 := kN2847 n (by omega)
          try simp (maxSteps := 2000000) only [wn] at kN2847
          have kN2852 := kN2852 n (by omega)
          try simp (maxSteps := 2000000) only [wn] at kN2852
          have kN2856 := kN2856 n (by omega)
          try simp (maxSteps := 2000000) only [wn] at kN2856
          simp (maxSteps := 2000000) only [W, reduceIte, Nat.reduceEqDiff, Nat.reduceAdd, Nat.reduceSub, Nat.reduceLT, Nat.reduceLeDiff, Nat.reduceMul, h7l0_0, q7l0_0, a7l0b, c2842d, g28451, g28453, kN2847, kN2852, c2854d, kN2856, c2858d, c2913d, wd]
    · rw [if_neg c2854] at h
      have c2854d := df c2854
      by_cases c2916 : r2850 = r2853
      · rw [if_pos c2916] at h
        have c2916d := dt c2916
        by_cases c2917 : r2848 = 0
        · rw [if_pos c2917] at h
          have c2917d := dt c2917
          by_cases c2918 : r2849 = 0
          · rw [if_pos c2918] at h
            have c2918d := dt c2918
            cases h
            refine ⟨N2847 + N2852, fun n hn => ?_⟩
            have kN2847 := kN2847 n (by omega)
            try simp (maxSteps := 2000000) only [wn] at kN2847
            have kN2852 := kN2852 n (by omega)
            try simp (maxSteps := 2000000) only [wn] at kN2852
            simp (maxSteps := 2000000) only [W, reduceIte, Nat.reduceEqDiff, Nat.reduceAdd, Nat.reduceSub, Nat.reduceLT, Nat.reduceLeDiff, Nat.reduceMul, h7l0_0, q7l0_0, a7l0b, c2842d, g28451, g28453, kN2847, kN2852, c2854d, c2916d, c2917d, c2918d, wd]
          · rw [if_neg c2918] at h
            have c2918d := df c2918
            cases h
            refine ⟨N2847 + N2852, fun n hn => ?_⟩
            have kN2847 := kN2847 n (by omega)
            try simp (maxSteps := 2000000) only [wn] at kN2847
            have kN2852 := kN2852 n (by omega)
            try simp (maxSteps := 2000000) only [wn] at kN2852
            simp (maxSteps := 2000000) only [W, reduceIte, Nat.reduceEqDiff, Nat.reduceAdd, Nat.reduceSub, Nat.reduceLT, Nat.reduceLeDiff, Nat.reduceMul, h7l0_0, q7l0_0, a7l0b, c2842d, g28451, g28453, kN2847, kN2852, c2854d, c2916d, c2917d, c2918d, wd]
        · rw [if_neg c2917] at h
          have c2917d := df c2917
          cases h
          refine ⟨N2847 + N2852, fun n hn => ?_⟩
          have kN2847 := kN2847 n (by omega)
          try simp (maxSteps := 2000000) only [wn] at kN2847
          have kN2852 := kN2852 n (by omega)
          try simp (maxSteps := 2000000) only [wn] at kN2852
          simp (maxSteps := 2000000) only [W, reduceIte, Nat.reduceEqDiff, Nat.reduceAdd, Nat.reduceSub, Nat.reduceLT, Nat.reduceLeDiff, Nat.reduceMul, h7l0_0, q7l0_0, a7l0b, c2842d, g28451, g28453, kN2847, kN2852, c2854d, c2916d, c2917d, wd]
      · rw [if_neg c2916] at h
        have c2916d := df c2916
        cases h
        refine ⟨N2847 + N2852, fun n hn => ?_⟩
        have kN2847 := kN2847 n (by omega)
        try simp (maxSteps := 2000000) only [wn] at kN2847
        have kN2852 := kN2852 n (by omega)
        try simp (maxSteps := 2000000) only [wn] at kN2852
        simp (maxSteps := 2000000) only [W, reduceIte, Nat.reduceEqDiff, Nat.reduceAdd, Nat.reduceSub, Nat.reduceLT, Nat.reduceLeDiff, Nat.reduceMul, h7l0_0, q7l0_0, a7l0b, c2842d, g28451, g28453, kN2847, kN2852, c2854d, c2916d, wd]
noncomputable def h7l1_0 (z0 : Bool) (v2925 : Int) (v2926 : Int) (v2927 : Int) (v2928 : Int) (v2929 : Int) (v2930 : Int) (v2933 : List Int) (v2934 : Int) (v2935 : Int) (v2936 : Int) (v2937 : Int) : (Int × Int) → Env × Heap
  | (v2931, v2932) => ([(0, .slice 0 0 v2933.length v2933.length 1 false), (1, .int .i64 v2925), (2, .int .i64 v2926), (7, .int .i64 v2927), (8, .int .i64 v2928), (9, .ptr 1 0), (10, .int .i64 v2929), (11, .ptr 2 0), (12, .int .i64 v2930), (18, .int .i64 v2931), (19, .int .i64 v2932)], [.row z0 true (rowC v2933), .row true true [.int .i64 v2934, .int .i64 v2935], .row true true [.int .i64 v2936, .int .i64 v2937]])
noncomputable def q7l1_0 (z0 : Bool) (v2925 : Int) (v2926 : Int) (v2927 : Int) (v2928 : Int) (v2929 : Int) (v2930 : Int) (v2933 : List Int) (v2934 : Int) (v2935 : Int) (v2936 : Int) (v2937 : Int) : (Int) → AExit × Env × Heap
  | r2942 => (.exit 2, [(0, .slice 0 0 v2933.length v2933.length 1 false), (1, .int .i64 v2925), (2, .int .i64 v2926), (6, .undef), (7, .int .i64 v2927), (8, .int .i64 v2928), (9, .ptr 1 0), (10, .int .i64 v2929), (11, .ptr 2 0), (12, .int .i64 v2930), (18, .int .i64 r2942)], [.row z0 true (rowC v2933), .row true true [.int .i64 v2934, .int .i64 v2935], .row true true [.int .i64 v2936, .int .i64 v2937]])
theorem k7l1_0 (z0 : Bool) (v2925 : Int) (v2926 : Int) (v2927 : Int) (v2928 : Int) (v2929 : Int) (v2930 : Int) (v2933 : List Int) (v2934 : Int) (v2935 : Int) (v2936 : Int) (v2937 : Int) (s : Int × Int) (o : Int) (h : L7l1_0 v2925 v2926 v2927 v2928 v2929 v2930 v2933 v2934 v2935 v2936 v2937 s = some o) : Ev fun n => loopAt [0, 1, 2, 7, 8, 9, 10, 11, 12, 18, 19] [0, 1, 2, 6, 7, 8, 9, 10, 11, 12, 18] a7l1b (ex tab n) 1 (h7l1_0 z0 v2925 v2926 v2927 v2928 v2929 v2930 v2933 v2934 v2935 v2936 v2937 s) = some (q7l1_0 z0 v2925 v2926 v2927 v2928 v2929 v2930 v2933 v2934 v2935 v2936 v2937 o) := by
  refine iter_sound (S7l1_0 v2925 v2926 v2927 v2928 v2929 v2930 v2933 v2934 v2935 v2936 v2937) [0, 1, 2, 7, 8, 9, 10, 11, 12, 18, 19] [0, 1, 2, 6, 7, 8, 9, 10, 11, 12, 18] a7l1b 1 (h7l1_0 z0 v2925 v2926 v2927 v2928 v2929 v2930 v2933 v2934 v2935 v2936 v2937) (q7l1_0 z0 v2925 v2926 v2927 v2928 v2929 v2930 v2933 v2934 v2935 v2936 v2937) ?_ _ _ _ h
  rintro ⟨v2931, v2932⟩ z h
  simp only [S7l1_0] at h
  by_cases c2938 : (v2933.length : Int) ≤ v2932
  · rw [if_pos c2938] at h
    have c2938d := dt c2938
    cases h
    refine ⟨0, fun n hn => ?_⟩
    simp (maxSteps := 2000000) only [W, reduceIte, Nat.reduceEqDiff, Nat.reduceAdd, Nat.reduceSub, Nat.reduceLT, Nat.reduceLeDiff, Nat.reduceMul, h7l1_0, q7l1_0, a7l1b, c2938d]
  · rw [if_neg c2938] at h
    have c2938d := df c2938
    obtain ⟨j2939, x2940, g2941, h⟩ := un2 h
    obtain ⟨g29411, g29412⟩ := geti_in g2941
    have g29413 := ac_Int g29412
    try simp only [wn] at g29411
    cases h
    refine ⟨0, fun n hn => ?_⟩
    simp (maxSteps := 2000000) only [W, reduceIte, Nat.reduceEqDiff, Nat.reduceAdd, Nat.reduceSub, Nat.reduceLT, Nat.reduceLeDiff, Nat.reduceMul, h7l1_0, q7l1_0, a7l1b, c2938d, g29411, g29413]
noncomputable def h46l0_0 (z0 : Bool) (v2970 : Int) (v2972 : List Int) : (Int × Int × Int) → Env × Heap
  | (v2971, v2975, v2976) => ([(0, .slice 0 0 v2972.length v2972.length 1 false), (1, .int .i64 v2970), (4, .ptr 1 0), (5, .ptr 2 0), (6, .int .i64 v2971)], [.row z0 true (rowC v2972), .row true true [.int .i64 0, .int .i64 0], .row true true [.int .i64 v2975, .int .i64 v2976]])
noncomputable def q46l0_0 (z0 : Bool) (v2970 : Int) (v2972 : List Int) : (Int × Int) → AExit × Env × Heap
  | (r2985, r2986) => (.exit 0, [(4, .ptr 1 0), (5, .ptr 2 0)], [.row z0 true (rowC v2972), .row true true [.int .i64 0, .int .i64 0], .row true true [.int .i64 r2985, .int .i64 r2986]])
theorem k46l0_0 (z0 : Bool) (v2970 : Int) (v2972 : List Int) (s : Int × Int × Int) (o : Int × Int) (h : L46l0_0 v2970 v2972 s = some o) : Ev fun n => loopAt [0, 1, 4, 5, 6] [4, 5] a46l0b (ex tab n) 1 (h46l0_0 z0 v2970 v2972 s) = some (q46l0_0 z0 v2970 v2972 o) := by
  refine iter_sound (S46l0_0 v2970 v2972) [0, 1, 4, 5, 6] [4, 5] a46l0b 1 (h46l0_0 z0 v2970 v2972) (q46l0_0 z0 v2970 v2972) ?_ _ _ _ h
  rintro ⟨v2971, v2975, v2976⟩ z h
  simp only [S46l0_0] at h
  by_cases c2977 : (v2972.length : Int) ≤ v2971
  · rw [if_pos c2977] at h
    have c2977d := dt c2977
    cases h
    refine ⟨0, fun n hn => ?_⟩
    simp (maxSteps := 2000000) only [W, reduceIte, Nat.reduceEqDiff, Nat.reduceAdd, Nat.reduceSub, Nat.reduceLT, Nat.reduceLeDiff, Nat.reduceMul, h46l0_0, q46l0_0, a46l0b, c2977d]
  · rw [if_neg c2977] at h
    have c2977d := df c2977
    obtain ⟨j2978, x2979, g2980, h⟩ := un2 h
    obtain ⟨g29801, g29802⟩ := geti_in g2980
    have g29803 := ac_Int g29802
    try simp only [wn] at g29801
    obtain ⟨r2983, r2984, g2981, h⟩ := un2 h
    obtain ⟨N2982, kN2982⟩ := c45_0 x2979 v2970 _ _ g2981
    cases h
    refine ⟨N2982, fun n hn => ?_⟩
    have kN2982 := kN2982 n (by omega)
    try simp (maxSteps := 2000000) only [wn] at kN2982
    simp (maxSteps := 2000000) only [W, reduceIte, Nat.reduceEqDiff, Nat.reduceAdd, Nat.reduceSub, Nat.reduceLT, Nat.reduceLeDiff, Nat.reduceMul, h46l0_0, q46l0_0, a46l0b, c2977d, g29801, g29803, kN2982]
theorem c46_0 (z0 : Bool) (v2953 : Int) (v2954 : List Int) (r2991 : Int) (r2992 : Int) (h : F46_0 v2953 v2954 = some (r2991, r2992)) : Ev fun n => (ex tab n).call 46 [.slice 0 0 v2954.length v2954.length 1 false, .int .i64 v2953] [.row z0 true (rowC v2954)] = some (.agg [.int .i64 r2991, .int .i64 r2992], [.row z0 true (rowC v2954)]) := by
  unfold F46_0 at h
  obtain ⟨r2989, r2990, g2987, h⟩ := un2 h
  have kN2988 := k46l0_0 z0 v2953 v2954 (0, 0, 0) _ g2987
  obtain ⟨N2988, kN2988⟩ := kN2988
  cases h
  refine ev_call (fn := a46) rfl ⟨N2988, fun n hn => ?_⟩
  have kN2988 := kN2988 n (by omega)
  simp (maxSteps := 2000000) only [h46l0_0, q46l0_0, wn] at kN2988
  simp (maxSteps := 2000000) only [W, reduceIte, Nat.reduceEqDiff, Nat.reduceAdd, Nat.reduceSub, Nat.reduceLT, Nat.reduceLeDiff, Nat.reduceMul, a46, a46l0, kN2988, @x_loopAt]
end Go.AI
end
section
/-
  Functions, walked through: guidevaneref02.Drop.
-/
set_option linter.unusedVariables false
set_option linter.unusedSimpArgs false
set_option maxRecDepth 100000
set_option maxHeartbeats 4000000
namespace Go.AI
noncomputable def h47l0_0 (z0 : Bool) (v3025 : Int) (v3028 : List Int) : (Int × Int) → Env × Heap
  | (v3026, v3027) => ([(0, .slice 0 0 v3028.length v3028.length 1 false), (1, .int .i64 v3025), (4, .ptr 1 0), (6, .ptr 2 0), (7, .int .i64 v3026), (8, .int .i64 v3027)], [.row z0 true (rowC v3028), .row true true [.int .i64 0, .int .i64 0], .row true true [.int .i64 0, .int .i64 0]])
noncomputable def q47l0_0 (z0 : Bool) (v3025 : Int) (v3028 : List Int) : (Int) → AExit × Env × Heap
  | r3040 => (.exit 0, [(0, .slice 0 0 v3028.length v3028.length 1 false), (1, .int .i64 v3025), (4, .ptr 1 0), (5, .undef), (6, .ptr 2 0), (7, .int .i64 r3040)], [.row z0 true (rowC v3028), .row true true [.int .i64 0, .int .i64 0], .row true true [.int .i64 0, .int .i64 0]])
theorem k47l0_0 (z0 : Bool) (v3025 : Int) (v3028 : List Int) (s : Int × Int) (o : Int) (h : L47l0_0 v3025 v3028 s = some o) : Ev fun n => loopAt [0, 1, 4, 6, 7, 8] [0, 1, 4, 5, 6, 7] a47l0b (ex tab n) 1 (h47l0_0 z0 v3025 v3028 s) = some (q47l0_0 z0 v3025 v3028 o) := by
  refine iter_sound (S47l0_0 v3025 v3028) [0, 1, 4, 6, 7, 8] [0, 1, 4, 5, 6, 7] a47l0b 1 (h47l0_0 z0 v3025 v3028) (q47l0_0 z0 v3025 v3028) ?_ _ _ _ h
  rintro ⟨v3026, v3027⟩ z h
  simp only [S47l0_0] at h
  by_cases c3033 : v3027 ≤ v3026
  · rw [if_pos c3033] at h
    have c3033d := dt c3033
    cases h
    refine ⟨0, fun n hn => ?_⟩
    simp (maxSteps := 2000000) only [W, reduceIte, Nat.reduceEqDiff, Nat.reduceAdd, Nat.reduceSub, Nat.reduceLT, Nat.reduceLeDiff, Nat.reduceMul, h47l0_0, q47l0_0, a47l0b, c3033d]
  · rw [if_neg c3033] at h
    have c3033d := df c3033
    have d3034 := fun x => bin_quo .i64 x 2 (by decide)
    obtain ⟨r3037, r3038, g3035, h⟩ := un2 h
    obtain ⟨N3036, kN3036⟩ := c46_0 z0 (aw .i64 (Int.tdiv (aw .i64 (v3026 + v3027)) 2)) v3028 _ _ g3035
    by_cases c3039 : v3025 ≤ r3038
    · rw [if_pos c3039] at h
      have c3039d := dt c3039
      cases h
      refine ⟨N3036, fun n hn => ?_⟩
      have kN3036 := kN3036 n (by omega)
      try simp (maxSteps := 2000000) only [wn] at kN3036
      simp (maxSteps := 2000000) only [W, reduceIte, Nat.reduceEqDiff, Nat.reduceAdd, Nat.reduceSub, Nat.reduceLT, Nat.reduceLeDiff, Nat.reduceMul, h47l0_0, q47l0_0, a47l0b, c3033d, d3034, kN3036, c3039d]
    · rw [if_neg c3039] at h
      have c3039d := df c3039
      cases h
      refine ⟨N3036, fun n hn => ?_⟩
      have kN3036 := kN3036 n (by omega)
      try simp (maxSteps := 2000000) only [wn] at kN3036
      simp (maxSteps := 2000000) only [W, reduceIte, Nat.reduceEqDiff, Nat.reduceAdd, Nat.reduceSub, Nat.reduceLT, Nat.reduceLeDiff, Nat.reduceMul, h47l0_0, q47l0_0, a47l0b, c3033d, d3034, kN3036, c3039d]
noncomputable def h47l1_0 (z0 : Bool) (v3059 : Int) (v3062 : List Int) (v3065 : Int) : (Int × Int) → Env × Heap
  | (v3060, v3061) => ([(0, .slice 0 0 v3062.length v3062.length 1 false), (1, .int .i64 v3059), (4, .ptr 1 0), (6, .ptr 2 0), (7, .int .i64 v3060), (8, .int .i64 v3061)], [.row z0 true (rowC v3062), .row true true [.int .i64 0, .int .i64 0], .row true true [.int .i64 v3065, .int .i64 0]])
noncomputable def q47l1_0 (z0 : Bool) (v3059 : Int) (v3062 : List Int) (v3065 : Int) : (Int) → AExit × Env × Heap
  | r3074 => (.exit 2, [(4, .ptr 1 0), (5, .undef), (6, .ptr 2 0), (7, .int .i64 r3074)], [.row z0 true (rowC v3062), .row true true [.int .i64 0, .int .i64 0], .row true true [.int .i64 v3065, .int .i64 0]])
theorem k47l1_0 (z0 : Bool) (v3059 : Int) (v3062 : List Int) (v3065 : Int) (s : Int × Int) (o : Int) (h : L47l1_0 v3059 v3062 v3065 s = some o) : Ev fun n => loopAt [0, 1, 4, 6, 7, 8] [4, 5, 6, 7] a47l1b (ex tab n) 1 (h47l1_0 z0 v3059 v3062 v3065 s) = some (q47l1_0 z0 v3059 v3062 v3065 o) := by
  refine iter_sound (S47l1_0 v3059 v3062 v3065) [0, 1, 4, 6, 7, 8] [4, 5, 6, 7] a47l1b 1 (h47l1_0 z0 v3059 v3062 v3065) (q47l1_0 z0 v3059 v3062 v3065) ?_ _ _ _ h
  rintro ⟨v3060, v3061⟩ z h
  simp only [S47l1_0] at h
  by_cases c3067 : v3061 ≤ v3060
  · rw [if_pos c3067] at h
    have c3067d := dt c3067
    cases h
    refine ⟨0, fun n hn => ?_⟩
    simp (maxSteps := 2000000) only [W, reduceIte, Nat.reduceEqDiff, Nat.reduceAdd, Nat.reduceSub, Nat.reduceLT, Nat.reduceLeDiff, Nat.reduceMul, h47l1_0, q47l1_0, a47l1b, c3067d]
  · rw [if_neg c3067] at h
    have c3067d := df c3067
    have d3068 := fun x => bin_quo .i64 x 2 (by decide)
    obtain ⟨r3071, r3072, g3069, h⟩ := un2 h
    obtain ⟨N3070, kN3070⟩ := c46_0 z0 (aw .i64 (Int.tdiv (aw .i64 (v3060 + v3061)) 2)) v3062 _ _ g3069
    by_cases c3073 : v3059 ≤ r3071
    · rw [if_pos c3073] at h
      have c3073d := dt c3073
      cases h
      refine ⟨N3070, fun n hn => ?_⟩
      have kN3070 := kN3070 n (by omega)
      try simp (maxSteps := 2000000) only [wn] at kN3070
      simp (maxSteps := 2000000) only [W, reduceIte, Nat.reduceEqDiff, Nat.reduceAdd, Nat.reduceSub, Nat.reduceLT, Nat.reduceLeDiff, Nat.reduceMul, h47l1_0, q47l1_0, a47l1b, c3067d, d3068, kN3070, c3073d]
    · rw [if_neg c3073] at h
      have c3073d := df c3073
      cases h
      refine ⟨N3070, fun n hn => ?_⟩
      have kN3070 := kN3070 n (by omega)
      try simp (maxSteps := 2000000) only [wn] at kN3070
      simp (maxSteps := 2000000) only [W, reduceIte, Nat.reduceEqDiff, Nat.reduceAdd, Nat.reduceSub, Nat.reduceLT, Nat.reduceLeDiff, Nat.reduceMul, h47l1_0, q47l1_0, a47l1b, c3067d, d3068, kN3070, c3073d]
theorem c47_0 (z0 : Bool) (v3003 : Int) (v3004 : List Int) (r3078 : Int) (r3079 : Int) (r3080 : Bool) (h : F47_0 v3003 v3004 = some (r3078, r3079, r3080)) : Ev fun n => (ex tab n).call 47 [.slice 0 0 v3004.length v3004.length 1 false, .int .i64 v3003] [.row z0 true (rowC v3004)] = some (.tup [.agg [.int .i64 r3078, .int .i64 r3079], .bool r3080], [.row z0 true (rowC v3004)]) := by
  unfold F47_0 at h
  obtain ⟨r3007, r3008, g3005, h⟩ := un2 h
  obtain ⟨N3006, kN3006⟩ := c46_0 z0 1000000000 v3004 _ _ g3005
  by_cases c3009 : v3003 ≤ r3007
  · rw [if_pos c3009] at h
    have c3009d := dt c3009
    obtain ⟨r3043, g3041, h⟩ := un1 h
    have kN3042 := k47l0_0 z0 v3003 v3004 (0, 1000000000) _ g3041
    obtain ⟨N3042, kN3042⟩ := kN3042
    obtain ⟨r3077, g3075, h⟩ := un1 h
    have kN3076 := k47l1_0 z0 v3003 v3004 r3043 (0, 1000000000) _ g3075
    obtain ⟨N3076, kN3076⟩ := kN3076
    cases h
    refine ev_call (fn := a47) rfl ⟨N3006 + N3042 + N3076, fun n hn => ?_⟩
    have kN3006 := kN3006 n (by omega)
    try simp (maxSteps := 2000000) only [wn] at kN3006
    have kN3042 := kN3042 n (by omega)
    simp (maxSteps := 2000000) only [h47l0_0, q47l0_0, wn] at kN3042
    have kN3076 := kN3076 n (by omega)
    simp (maxSteps := 2000000) only [h47l1_0, q47l1_0, wn] at kN3076
    simp (maxSteps := 2000000) only [W, reduceIte, Nat.reduceEqDiff, Nat.reduceAdd, Nat.reduceSub, Nat.reduceLT, Nat.reduceLeDiff, Nat.reduceMul, a47, a47l0, a47l1, kN3006, c3009d, kN3042, kN3076, @x_loopAt]
  · rw [if_neg c3009] at h
    have c3009d := df c3009
    cases h
    refine ev_call (fn := a47) rfl ⟨N3006, fun n hn => ?_⟩
    have kN3006 := kN3006 n (by omega)
    try simp (maxSteps := 2000000) only [wn] at kN3006
    simp (maxSteps := 2000000) only [W, reduceIte, Nat.reduceEqDiff, Nat.reduceAdd, Nat.reduceSub, Nat.reduceLT, Nat.reduceLeDiff, Nat.reduceMul, a47, a47l0, a47l1, kN3006, c3009d, @x_loopAt]
end Go.AI
end
