import Derived.Test.YtcghmpalmedkiaaKAiY
import Derived.Test.YtcghmpalmedkiaaKAiTab
import Derived.Test.YtcghmpalmedkiaaKAiAwake
import Derived.Test.YtcghmpalmedkiaaKWnF
section
/-
  Functions, walked through: guidevanelaw08.some, guidevanebase.CopyInts, dispatch.within, dispatch.isSized, dispatch.isPower, dispatch.unless, dispatch.powersErr$1, slices.IndexFunc[[]int,int], slices.ContainsFunc[[]int,int], dispatch.first, dispatch.powersErr, dispatch.Followed, dispatch.size.
-/
set_option linter.unusedVariables false
set_option linter.unusedSimpArgs false
set_option maxRecDepth 100000
set_option maxHeartbeats 4000000
namespace Go.AI
theorem c6_0 (z0 : Bool) (v6 : List Int) (r9 : Bool) (h : F6_0 v6 = some r9) : Ev fun n => (ex tab n).call 6 [.slice (.p 0) 0 v6.length v6.length 1 false] [.row z0 true (rowC v6)] = some (.bool r9, [.row z0 true (rowC v6)]) := by
  unfold F6_0 at h
  by_cases c7 : (v6.length : Int) ≤ 80
  · rw [if_pos c7] at h
    have c7d := dt c7
    cases h
    refine ev_call (fn := a6) rfl ⟨0, fun n hn => ?_⟩
    simp (maxSteps := 2000000) only [W, reduceIte, Nat.reduceEqDiff, Nat.reduceAdd, Nat.reduceSub, Nat.reduceLT, Nat.reduceLeDiff, Nat.reduceMul, a6, c7d]
  · rw [if_neg c7] at h
    have c7d := df c7
    by_cases c8 : (v6.length : Int) ≤ 300
    · rw [if_pos c8] at h
      have c8d := dt c8
      cases h
      refine ev_call (fn := a6) rfl ⟨0, fun n hn => ?_⟩
      simp (maxSteps := 2000000) only [W, reduceIte, Nat.reduceEqDiff, Nat.reduceAdd, Nat.reduceSub, Nat.reduceLT, Nat.reduceLeDiff, Nat.reduceMul, a6, c7d, c8d]
    · rw [if_neg c8] at h
      have c8d := df c8
      cases h
      refine ev_call (fn := a6) rfl ⟨0, fun n hn => ?_⟩
      simp (maxSteps := 2000000) only [W, reduceIte, Nat.reduceEqDiff, Nat.reduceAdd, Nat.reduceSub, Nat.reduceLT, Nat.reduceLeDiff, Nat.reduceMul, a6, c7d, c8d]
theorem c8_0 (z0 : Bool) (v18 : List Int) (h : F8_0 v18 = some ()) : Ev fun n => (ex tab n).call 8 [.slice (.p 0) 0 v18.length v18.length 1 false] [.row z0 true (rowC v18)] = some (.slice (.p 1) 0 v18.length v18.length 1 false, [.row z0 true (rowC v18), .row true true (rowC v18)]) := by
  unfold F8_0 at h
  obtain ⟨g19, h⟩ := un_roomd h
  cases h
  refine ev_call (fn := a8) rfl ⟨0, fun n hn => ?_⟩
  simp (maxSteps := 2000000) only [W, reduceIte, Nat.reduceEqDiff, Nat.reduceAdd, Nat.reduceSub, Nat.reduceLT, Nat.reduceLeDiff, Nat.reduceMul, a8, g19]
theorem c27_0 (v28 : Int) (v29 : Int) (v30 : Int) (r32 : Bool) (h : F27_0 v28 v29 v30 = some r32) : Ev fun n => (ex tab n).call 27 [.int .i64 v28, .int .i64 v29, .int .i64 v30] [] = some (.bool r32, []) := by
  unfold F27_0 at h
  by_cases c31 : v29 ≤ v28
  · rw [if_pos c31] at h
    have c31d := dt c31
    cases h
    refine ev_call (fn := a27) rfl ⟨0, fun n hn => ?_⟩
    simp (maxSteps := 2000000) only [W, reduceIte, Nat.reduceEqDiff, Nat.reduceAdd, Nat.reduceSub, Nat.reduceLT, Nat.reduceLeDiff, Nat.reduceMul, a27, c31d]
  · rw [if_neg c31] at h
    have c31d := df c31
    cases h
    refine ev_call (fn := a27) rfl ⟨0, fun n hn => ?_⟩
    simp (maxSteps := 2000000) only [W, reduceIte, Nat.reduceEqDiff, Nat.reduceAdd, Nat.reduceSub, Nat.reduceLT, Nat.reduceLeDiff, Nat.reduceMul, a27, c31d]
theorem c47_0 (v26 : Int) (v27 : Int) (r36 : Bool) (h : F47_0 v26 v27 = some r36) : Ev fun n => (ex tab n).call 47 [.int .i64 v26, .int .i64 v27] [] = some (.bool r36, []) := by
  unfold F47_0 at h
  obtain ⟨r35, g33, h⟩ := un1 h
  obtain ⟨N34, kN34⟩ := c27_0 v26 (aw .i64 (0 - v27)) v27 _ g33
  cases h
  refine ev_call (fn := a47) rfl ⟨N34, fun n hn => ?_⟩
  have kN34 := kN34 n (by omega)
  try simp (maxSteps := 2000000) only [wn] at kN34
  simp (maxSteps := 2000000) only [W, reduceIte, Nat.reduceEqDiff, Nat.reduceAdd, Nat.reduceSub, Nat.reduceLT, Nat.reduceLeDiff, Nat.reduceMul, a47, kN34]
theorem c26_0 (v25 : Int) (r40 : Bool) (h : F26_0 v25 = some r40) : Ev fun n => (ex tab n).call 26 [.int .i64 v25] [] = some (.bool r40, []) := by
  unfold F26_0 at h
  obtain ⟨r39, g37, h⟩ := un1 h
  obtain ⟨N38, kN38⟩ := c47_0 v25 1000000 _ g37
  cases h
  refine ev_call (fn := a26) rfl ⟨N38, fun n hn => ?_⟩
  have kN38 := kN38 n (by omega)
  try simp (maxSteps := 2000000) only [wn] at kN38
  simp (maxSteps := 2000000) only [W, reduceIte, Nat.reduceEqDiff, Nat.reduceAdd, Nat.reduceSub, Nat.reduceLT, Nat.reduceLeDiff, Nat.reduceMul, a26, kN38]
theorem c25_0 (v48 : Bool) (v49 : Int) (r51 : Int) (h : F25_0 v48 v49 = some r51) : Ev fun n => (ex tab n).call 25 [.bool v48, .int .i64 v49] [] = some (.int .i64 r51, []) := by
  unfold F25_0 at h
  by_cases c50 : v48 = true
  · rw [if_pos c50] at h
    have c50d := c50
    cases h
    refine ev_call (fn := a25) rfl ⟨0, fun n hn => ?_⟩
    simp (maxSteps := 2000000) only [W, reduceIte, Nat.reduceEqDiff, Nat.reduceAdd, Nat.reduceSub, Nat.reduceLT, Nat.reduceLeDiff, Nat.reduceMul, a25, c50d]
  · rw [if_neg c50] at h
    have c50d := bf c50
    cases h
    refine ev_call (fn := a25) rfl ⟨0, fun n hn => ?_⟩
    simp (maxSteps := 2000000) only [W, reduceIte, Nat.reduceEqDiff, Nat.reduceAdd, Nat.reduceSub, Nat.reduceLT, Nat.reduceLeDiff, Nat.reduceMul, a25, c50d]
theorem c49_0 (v65 : Int) (r69 : Bool) (h : F49_0 v65 = some r69) : Ev fun n => (ex tab n).call 49 [.int .i64 v65] [] = some (.bool r69, []) := by
  unfold F49_0 at h
  obtain ⟨r68, g66, h⟩ := un1 h
  obtain ⟨N67, kN67⟩ := c26_0 v65 _ g66
  cases h
  refine ev_call (fn := a49) rfl ⟨N67, fun n hn => ?_⟩
  have kN67 := kN67 n (by omega)
  try simp (maxSteps := 2000000) only [wn] at kN67
  simp (maxSteps := 2000000) only [W, reduceIte, Nat.reduceEqDiff, Nat.reduceAdd, Nat.reduceSub, Nat.reduceLT, Nat.reduceLeDiff, Nat.reduceMul, a49, kN67]
noncomputable def h62l0_0 (z0 : Bool) (v58 : Int) (v60 : List Int) : (Int) → Env × Heap
  | v59 => ([(0, .slice (.p 0) 0 v60.length v60.length 1 false), (1, .func 49 [] []), (7, .int .i64 v58), (8, .int .i64 v59)], [.row z0 true (rowC v60)])
noncomputable def q62l0_0 (z0 : Bool) (v58 : Int) (v60 : List Int) : ((Unit) ⊕ (Int)) → AExit × Env × Heap
  | .inl (_) => (.exit 0, [(4, .undef)], [.row z0 true (rowC v60)])
  | .inr (r74) => (.ret, [(4, .int .i64 r74)], [.row z0 true (rowC v60)])
theorem k62l0_0 (z0 : Bool) (v58 : Int) (v60 : List Int) (s : Int) (o : (Unit) ⊕ (Int)) (h : L62l0_0 v58 v60 s = some o) : Ev fun n => loopAt [0, 1, 7, 8] [4] a62l0b (ex tab n) 1 (h62l0_0 z0 v58 v60 s) = some (q62l0_0 z0 v58 v60 o) := by
  refine iter_sound (S62l0_0 v58 v60) [0, 1, 7, 8] [4] a62l0b 1 (h62l0_0 z0 v58 v60) (q62l0_0 z0 v58 v60) ?_ _ _ _ h
  rintro v59 z h
  simp only [S62l0_0] at h
  by_cases c61 : v58 ≤ v59
  · rw [if_pos c61] at h
    have c61d := dt c61
    cases h
    refine ⟨0, fun n hn => ?_⟩
    simp (maxSteps := 2000000) only [W, reduceIte, Nat.reduceEqDiff, Nat.reduceAdd, Nat.reduceSub, Nat.reduceLT, Nat.reduceLeDiff, Nat.reduceMul, h62l0_0, q62l0_0, a62l0b, c61d]
  · rw [if_neg c61] at h
    have c61d := df c61
    obtain ⟨j62, x63, g64, h⟩ := un2 h
    obtain ⟨g641, g642⟩ := geti_in g64
    have g643 := ac_Int g642
    try simp only [wn] at g641
    obtain ⟨r72, g70, h⟩ := un1 h
    obtain ⟨N71, kN71⟩ := c49_0 x63 _ g70
    by_cases c73 : r72 = true
    · rw [if_pos c73] at h
      have c73d := c73
      cases h
      refine ⟨N71, fun n hn => ?_⟩
      have kN71 := kN71 n (by omega)
      try simp (maxSteps := 2000000) only [wn] at kN71
      simp (maxSteps := 2000000) only [W, reduceIte, Nat.reduceEqDiff, Nat.reduceAdd, Nat.reduceSub, Nat.reduceLT, Nat.reduceLeDiff, Nat.reduceMul, h62l0_0, q62l0_0, a62l0b, c61d, g641, g643, kN71, c73d]
    · rw [if_neg c73] at h
      have c73d := bf c73
      cases h
      refine ⟨N71, fun n hn => ?_⟩
      have kN71 := kN71 n (by omega)
      try simp (maxSteps := 2000000) only [wn] at kN71
      simp (maxSteps := 2000000) only [W, reduceIte, Nat.reduceEqDiff, Nat.reduceAdd, Nat.reduceSub, Nat.reduceLT, Nat.reduceLeDiff, Nat.reduceMul, h62l0_0, q62l0_0, a62l0b, c61d, g641, g643, kN71, c73d]
theorem c62_0 (z0 : Bool) (v57 : List Int) (r78 : Int) (h : F62_0 v57 = some r78) : Ev fun n => (ex tab n).call 62 [.slice (.p 0) 0 v57.length v57.length 1 false, .func 49 [] []] [.row z0 true (rowC v57)] = some (.int .i64 r78, [.row z0 true (rowC v57)]) := by
  unfold F62_0 at h
  obtain ⟨g75_, g75, h⟩ := un1 h
  rcases g75_ with _ | r77
  · dsimp only at h
    have kN76 := k62l0_0 z0 (v57.length : Int) v57 0 _ g75
    obtain ⟨N76, kN76⟩ := kN76
    cases h
    refine ev_call (fn := a62) rfl ⟨N76, fun n hn => ?_⟩
    have kN76 := kN76 n (by omega)
    simp (maxSteps := 2000000) only [h62l0_0, q62l0_0, wn] at kN76
    simp (maxSteps := 2000000) only [W, reduceIte, Nat.reduceEqDiff, Nat.reduceAdd, Nat.reduceSub, Nat.reduceLT, Nat.reduceLeDiff, Nat.reduceMul, a62, a62l0, kN76, @x_loopAt]
  · dsimp only at h
    have kN76 := k62l0_0 z0 (v57.length : Int) v57 0 _ g75
    obtain ⟨N76, kN76⟩ := kN76
    cases h
    refine ev_call (fn := a62) rfl ⟨N76, fun n hn => ?_⟩
    have kN76 := kN76 n (by omega)
    simp (maxSteps := 2000000) only [h62l0_0, q62l0_0, wn] at kN76
    simp (maxSteps := 2000000) only [W, reduceIte, Nat.reduceEqDiff, Nat.reduceAdd, Nat.reduceSub, Nat.reduceLT, Nat.reduceLeDiff, Nat.reduceMul, a62, a62l0, kN76, @x_loopAt]
theorem c48_0 (z0 : Bool) (v56 : List Int) (r82 : Bool) (h : F48_0 v56 = some r82) : Ev fun n => (ex tab n).call 48 [.slice (.p 0) 0 v56.length v56.length 1 false, .func 49 [] []] [.row z0 true (rowC v56)] = some (.bool r82, [.row z0 true (rowC v56)]) := by
  unfold F48_0 at h
  obtain ⟨r81, g79, h⟩ := un1 h
  obtain ⟨N80, kN80⟩ := c62_0 z0 v56 _ g79
  cases h
  refine ev_call (fn := a48) rfl ⟨N80, fun n hn => ?_⟩
  have kN80 := kN80 n (by omega)
  try simp (maxSteps := 2000000) only [wn] at kN80
  simp (maxSteps := 2000000) only [W, reduceIte, Nat.reduceEqDiff, Nat.reduceAdd, Nat.reduceSub, Nat.reduceLT, Nat.reduceLeDiff, Nat.reduceMul, a48, kN80]
noncomputable def h24l0_0 (z0 : Bool) (v93 : Int) (v95 : List Int) : (Int) → Env × Heap
  | v94 => ([(5, .slice (.p 0) 0 v95.length v95.length 1 false), (6, .int .i64 v93), (7, .int .i64 v94)], [.row z0 true (rowC v95)])
noncomputable def q24l0_0 (z0 : Bool) (v93 : Int) (v95 : List Int) : ((Unit) ⊕ (Int)) → AExit × Env × Heap
  | .inl (_) => (.exit 0, [(2, .undef)], [.row z0 true (rowC v95)])
  | .inr (r101) => (.ret, [(2, .int .i64 r101)], [.row z0 true (rowC v95)])
theorem k24l0_0 (z0 : Bool) (v93 : Int) (v95 : List Int) (s : Int) (o : (Unit) ⊕ (Int)) (h : L24l0_0 v93 v95 s = some o) : Ev fun n => loopAt [5, 6, 7] [2] a24l0b (ex tab n) 1 (h24l0_0 z0 v93 v95 s) = some (q24l0_0 z0 v93 v95 o) := by
  refine iter_sound (S24l0_0 v93 v95) [5, 6, 7] [2] a24l0b 1 (h24l0_0 z0 v93 v95) (q24l0_0 z0 v93 v95) ?_ _ _ _ h
  rintro v94 z h
  simp only [S24l0_0] at h
  by_cases c96 : v93 ≤ v94
  · rw [if_pos c96] at h
    have c96d := dt c96
    cases h
    refine ⟨0, fun n hn => ?_⟩
    simp (maxSteps := 2000000) only [W, reduceIte, Nat.reduceEqDiff, Nat.reduceAdd, Nat.reduceSub, Nat.reduceLT, Nat.reduceLeDiff, Nat.reduceMul, h24l0_0, q24l0_0, a24l0b, c96d]
  · rw [if_neg c96] at h
    have c96d := df c96
    obtain ⟨j97, x98, g99, h⟩ := un2 h
    obtain ⟨g991, g992⟩ := geti_in g99
    have g993 := ac_Int g992
    try simp only [wn] at g991
    by_cases c100 : x98 = 0
    · rw [if_pos c100] at h
      have c100d := dt c100
      cases h
      refine ⟨0, fun n hn => ?_⟩
      simp (maxSteps := 2000000) only [W, reduceIte, Nat.reduceEqDiff, Nat.reduceAdd, Nat.reduceSub, Nat.reduceLT, Nat.reduceLeDiff, Nat.reduceMul, h24l0_0, q24l0_0, a24l0b, c96d, g991, g993, c100d]
    · rw [if_neg c100] at h
      have c100d := df c100
      cases h
      refine ⟨0, fun n hn => ?_⟩
      simp (maxSteps := 2000000) only [W, reduceIte, Nat.reduceEqDiff, Nat.reduceAdd, Nat.reduceSub, Nat.reduceLT, Nat.reduceLeDiff, Nat.reduceMul, h24l0_0, q24l0_0, a24l0b, c96d, g991, g993, c100d]
theorem c24_0 (z0 : Bool) (v92 : List Int) (r105 : Int) (h : F24_0 v92 = some r105) : Ev fun n => (ex tab n).call 24 [.slice (.p 0) 0 v92.length v92.length 1 false] [.row z0 true (rowC v92)] = some (.int .i64 r105, [.row z0 true (rowC v92)]) := by
  unfold F24_0 at h
  obtain ⟨g102_, g102, h⟩ := un1 h
  rcases g102_ with _ | r104
  · dsimp only at h
    have kN103 := k24l0_0 z0 (v92.length : Int) v92 0 _ g102
    obtain ⟨N103, kN103⟩ := kN103
    cases h
    refine ev_call (fn := a24) rfl ⟨N103, fun n hn => ?_⟩
    have kN103 := kN103 n (by omega)
    simp (maxSteps := 2000000) only [h24l0_0, q24l0_0, wn] at kN103
    simp (maxSteps := 2000000) only [W, reduceIte, Nat.reduceEqDiff, Nat.reduceAdd, Nat.reduceSub, Nat.reduceLT, Nat.reduceLeDiff, Nat.reduceMul, a24, a24l0, kN103, @x_loopAt]
  · dsimp only at h
    have kN103 := k24l0_0 z0 (v92.length : Int) v92 0 _ g102
    obtain ⟨N103, kN103⟩ := kN103
    cases h
    refine ev_call (fn := a24) rfl ⟨N103, fun n hn => ?_⟩
    have kN103 := kN103 n (by omega)
    simp (maxSteps := 2000000) only [h24l0_0, q24l0_0, wn] at kN103
    simp (maxSteps := 2000000) only [W, reduceIte, Nat.reduceEqDiff, Nat.reduceAdd, Nat.reduceSub, Nat.reduceLT, Nat.reduceLeDiff, Nat.reduceMul, a24, a24l0, kN103, @x_loopAt]
theorem c28_0 (z0 : Bool) (v55 : List Int) (r109 : Int) (h : F28_0 v55 = some r109) : Ev fun n => (ex tab n).call 28 [.slice (.p 0) 0 v55.length v55.length 1 false] [.row z0 true (rowC v55)] = some (.int .i64 r109, [.row z0 true (rowC v55)]) := by
  unfold F28_0 at h
  obtain ⟨r85, g83, h⟩ := un1 h
  obtain ⟨N84, kN84⟩ := c48_0 z0 v55 _ g83
  obtain ⟨r88, g86, h⟩ := un1 h
  obtain ⟨N87, kN87⟩ := c25_0 (decide ((v55.length : Int) ≤ 300)) 8 _ g86
  obtain ⟨r91, g89, h⟩ := un1 h
  obtain ⟨N90, kN90⟩ := c25_0 (!r85) 2 _ g89
  obtain ⟨r108, g106, h⟩ := un1 h
  obtain ⟨N107, kN107⟩ := c24_0 true ([r88, r91] : List Int) _ g106
  cases h
  refine ev_call (fn := a28) rfl ⟨N84 + N87 + N90 + N107, fun n hn => ?_⟩
  have kN84 := kN84 n (by omega)
  try simp (maxSteps := 2000000) only [wn] at kN84
  have kN87 := kN87 n (by omega)
  try simp (maxSteps := 2000000) only [wn] at kN87
  have kN90 := kN90 n (by omega)
  try simp (maxSteps := 2000000) only [wn] at kN90
  have kN107 := kN107 n (by omega)
  try simp (maxSteps := 2000000) only [wn] at kN107
  simp (maxSteps := 2000000) only [W, reduceIte, Nat.reduceEqDiff, Nat.reduceAdd, Nat.reduceSub, Nat.reduceLT, Nat.reduceLeDiff, Nat.reduceMul, a28, kN84, kN87, kN90, kN107]
noncomputable def h7l0_0 (z0 : Bool) (v118 : Int) (v119 : Int) (v121 : List Int) : (Int × Int × (List Int)) → Env × Heap
  | (v117, v120, v122) => ([(0, .int .i64 v117), (1, .int .i64 v118), (9, .slice (.p 1) 0 v122.length v122.length 1 false), (26, .slice (.p 0) 0 v121.length v121.length 1 false), (27, .int .i64 v119), (28, .int .i64 v120)], [.row z0 true (rowC v121), .row true true (rowC v122)])
noncomputable def q7l0_0 (z0 : Bool) (v118 : Int) (v119 : Int) (v121 : List Int) : ((List Int)) → AExit × Env × Heap
  | r128 => (.exit 0, [(6, .undef), (7, .undef), (9, .slice (.p 1) 0 r128.length r128.length 1 false)], [.row z0 true (rowC v121), .row true true (rowC r128)])
theorem k7l0_0 (z0 : Bool) (v118 : Int) (v119 : Int) (v121 : List Int) (s : Int × Int × (List Int)) (o : (List Int)) (h : L7l0_0 v118 v119 v121 s = some o) : Ev fun n => loopAt [0, 1, 9, 26, 27, 28] [6, 7, 9] a7l0b (ex tab n) 1 (h7l0_0 z0 v118 v119 v121 s) = some (q7l0_0 z0 v118 v119 v121 o) := by
  refine iter_sound (S7l0_0 v118 v119 v121) [0, 1, 9, 26, 27, 28] [6, 7, 9] a7l0b 1 (h7l0_0 z0 v118 v119 v121) (q7l0_0 z0 v118 v119 v121) ?_ _ _ _ h
  rintro ⟨v117, v120, v122⟩ z h
  simp only [S7l0_0] at h
  by_cases c123 : v119 ≤ v120
  · rw [if_pos c123] at h
    have c123d := dt c123
    cases h
    refine ⟨0, fun n hn => ?_⟩
    simp (maxSteps := 2000000) only [W, reduceIte, Nat.reduceEqDiff, Nat.reduceAdd, Nat.reduceSub, Nat.reduceLT, Nat.reduceLeDiff, Nat.reduceMul, h7l0_0, q7l0_0, a7l0b, c123d]
  · rw [if_neg c123] at h
    have c123d := df c123
    obtain ⟨j124, x125, g126, h⟩ := un2 h
    obtain ⟨g1261, g1262⟩ := geti_in g126
    have g1263 := ac_Int g1262
    try simp only [wn] at g1261
    obtain ⟨g127, h⟩ := un_roomd h
    cases h
    refine ⟨0, fun n hn => ?_⟩
    simp (maxSteps := 2000000) only [W, reduceIte, Nat.reduceEqDiff, Nat.reduceAdd, Nat.reduceSub, Nat.reduceLT, Nat.reduceLeDiff, Nat.reduceMul, h7l0_0, q7l0_0, a7l0b, c123d, g1261, g1263, g127]
theorem c7_0 (z0 : Bool) (v22 : Int) (v23 : Int) (v24 : List Int) (r145 : Int) (r146 : List Int) (h : F7_0 v22 v23 v24 = some (r145, r146)) : Ev fun n => (ex tab n).call 7 [.int .i64 v22, .int .i64 v23, .slice (.p 0) 0 v24.length v24.length 1 false] [.row z0 true (rowC v24)] = some (.tup [.slice (.p 1) 0 r146.length r146.length 1 false, .int .i64 r145], [.row z0 true (rowC v24), .row true true (rowC r146)]) := by
  unfold F7_0 at h
  obtain ⟨r43, g41, h⟩ := un1 h
  obtain ⟨N42, kN42⟩ := c26_0 v22 _ g41
  by_cases c44 : r43 = true
  · rw [if_pos c44] at h
    have c44d := c44
    obtain ⟨r47, g45, h⟩ := un1 h
    obtain ⟨N46, kN46⟩ := c27_0 v23 0 1000000 _ g45
    obtain ⟨r54, g52, h⟩ := un1 h
    obtain ⟨N53, kN53⟩ := c25_0 r47 2 _ g52
    obtain ⟨r112, g110, h⟩ := un1 h
    obtain ⟨N111, kN111⟩ := c28_0 z0 v24 _ g110
    obtain ⟨r115, g113, h⟩ := un1 h
    obtain ⟨N114, kN114⟩ := c24_0 true ([r54, r112] : List Int) _ g113
    by_cases c116 : r115 = 0
    · rw [if_pos c116] at h
      have c116d := dt c116
      obtain ⟨r131, g129, h⟩ := un1 h
      have kN130 := k7l0_0 z0 v23 (v24.length : Int) v24 (v22, 0, ([] : List Int)) _ g129
      obtain ⟨N130, kN130⟩ := kN130
      cases h
      refine ev_call (fn := a7) rfl ⟨N42 + N46 + N53 + N111 + N114 + N130, fun n hn => ?_⟩
      have kN42 := kN42 n (by omega)
      try simp (maxSteps := 2000000) only [wn] at kN42
      have kN46 := kN46 n (by omega)
      try simp (maxSteps := 2000000) only [wn] at kN46
      have kN53 := kN53 n (by omega)
      try simp (maxSteps := 2000000) only [wn] at kN53
      have kN111 := kN111 n (by omega)
      try simp (maxSteps := 2000000) only [wn] at kN111
      have kN114 := kN114 n (by omega)
      try simp (maxSteps := 2000000) only [wn] at kN114
      have kN130 := kN130 n (by omega)
      simp (maxSteps := 2000000) only [h7l0_0, q7l0_0, wn] at kN130
      simp (maxSteps := 2000000) only [W, reduceIte, Nat.reduceEqDiff, Nat.reduceAdd, Nat.reduceSub, Nat.reduceLT, Nat.reduceLeDiff, Nat.reduceMul, a7, a7l0, kN42, c44d, kN46, kN53, kN111, kN114, c116d, kN130, @x_loopAt]
    · rw [if_neg c116] at h
      have c116d := df c116
      cases h
      refine ev_call (fn := a7) rfl ⟨N42 + N46 + N53 + N111 + N114, fun n hn => ?_⟩
      have kN42 := kN42 n (by omega)
      try simp (maxSteps := 2000000) only [wn] at kN42
      have kN46 := kN46 n (by omega)
      try simp (maxSteps := 2000000) only [wn] at kN46
      have kN53 := kN53 n (by omega)
      try simp (maxSteps := 2000000) only [wn] at kN53
      have kN111 := kN111 n (by omega)
      try simp (maxSteps := 2000000) only [wn] at kN111
      have kN114 := kN114 n (by omega)
      try simp (maxSteps := 2000000) only [wn] at kN114
      simp (maxSteps := 2000000) only [W, reduceIte, Nat.reduceEqDiff, Nat.reduceAdd, Nat.reduceSub, Nat.reduceLT, Nat.reduceLeDiff, Nat.reduceMul, a7, a7l0, kN42, c44d, kN46, kN53, kN111, kN114, c116d, @x_loopAt]
  · rw [if_neg c44] at h
    have c44d := bf c44
    obtain ⟨r134, g132, h⟩ := un1 h
    obtain ⟨N133, kN133⟩ := c25_0 false 2 _ g132
    obtain ⟨r137, g135, h⟩ := un1 h
    obtain ⟨N136, kN136⟩ := c28_0 z0 v24 _ g135
    obtain ⟨r140, g138, h⟩ := un1 h
    obtain ⟨N139, kN139⟩ := c24_0 true ([r134, r137] : List Int) _ g138
    by_cases c141 : r140 = 0
    · rw [if_pos c141] at h
      have c141d := dt c141
      obtain ⟨r144, g142, h⟩ := un1 h
      have kN143 := k7l0_0 z0 v23 (v24.length : Int) v24 (v22, 0, ([] : List Int)) _ g142
      obtain ⟨N143, kN143⟩ := kN143
      cases h
      refine ev_call (fn := a7) rfl ⟨N42 + N133 + N136 + N139 + N143, fun n hn => ?_⟩
      have kN42 := kN42 n (by omega)
      try simp (maxSteps := 2000000) only [wn] at kN42
      have kN133 := kN133 n (by omega)
      try simp (maxSteps := 2000000) only [wn] at kN133
      have kN136 := kN136 n (by omega)
      try simp (maxSteps := 2000000) only [wn] at kN136
      have kN139 := kN139 n (by omega)
      try simp (maxSteps := 2000000) only [wn] at kN139
      have kN143 := kN143 n (by omega)
      simp (maxSteps := 2000000) only [h7l0_0, q7l0_0, wn] at kN143
      simp (maxSteps := 2000000) only [W, reduceIte, Nat.reduceEqDiff, Nat.reduceAdd, Nat.reduceSub, Nat.reduceLT, Nat.reduceLeDiff, Nat.reduceMul, a7, a7l0, kN42, c44d, kN133, kN136, kN139, c141d, kN143, @x_loopAt]
    · rw [if_neg c141] at h
      have c141d := df c141
      cases h
      refine ev_call (fn := a7) rfl ⟨N42 + N133 + N136 + N139, fun n hn => ?_⟩
      have kN42 := kN42 n (by omega)
      try simp (maxSteps := 2000000) only [wn] at kN42
      have kN133 := kN133 n (by omega)
      try simp (maxSteps := 2000000) only [wn] at kN133
      have kN136 := kN136 n (by omega)
      try simp (maxSteps := 2000000) only [wn] at kN136
      have kN139 := kN139 n (by omega)
      try simp (maxSteps := 2000000) only [wn] at kN139
      simp (maxSteps := 2000000) only [W, reduceIte, Nat.reduceEqDiff, Nat.reduceAdd, Nat.reduceSub, Nat.reduceLT, Nat.reduceLeDiff, Nat.reduceMul, a7, a7l0, kN42, c44d, kN133, kN136, kN139, c141d, @x_loopAt]
theorem c29_0 (v189 : Int) (r190 : Int) (h : F29_0 v189 = some r190) : Ev fun n => (ex tab n).call 29 [.int .i64 v189] [] = some (.int .i64 r190, []) := by
  unfold F29_0 at h
  cases h
  refine ev_call (fn := a29) rfl ⟨0, fun n hn => ?_⟩
  simp (maxSteps := 2000000) only [W, reduceIte, Nat.reduceEqDiff, Nat.reduceAdd, Nat.reduceSub, Nat.reduceLT, Nat.reduceLeDiff, Nat.reduceMul, a29]
noncomputable def h9l0_0 (z0 : Bool) (z1 : Bool) (v249 : Int) (v251 : List Int) (v252 : List Int) : (Int × Int × Int × Int) → Env × Heap
  | (v250, v256, v257, v258) => ([(1, .slice (.p 1) 0 v252.length v252.length 1 false), (4, .ptr (.p 2) 0), (7, .ptr (.p 3) 0), (28, .slice (.p 0) 0 v251.length v251.length 1 false), (29, .int .i64 v249), (30, .int .i64 v250)], [.row z0 true (rowC v251), .row z1 true (rowC v252), .row true true [.int .i64 0, .int .i64 0, .int .i64 0], .row true true [.int .i64 v256, .int .i64 v257, .int .i64 v258]])
noncomputable def q9l0_0 (z0 : Bool) (z1 : Bool) (v249 : Int) (v251 : List Int) (v252 : List Int) : (Int × Int × Int) → AExit × Env × Heap
  | (r326, r327, r328) => (.exit 0, [(4, .ptr (.p 2) 0), (5, .undef), (7, .ptr (.p 3) 0)], [.row z0 true (rowC v251), .row z1 true (rowC v252), .row true true [.int .i64 0, .int .i64 0, .int .i64 0], .row true true [.int .i64 r326, .int .i64 r327, .int .i64 r328]])
theorem k9l0_0 (z0 : Bool) (z1 : Bool) (v249 : Int) (v251 : List Int) (v252 : List Int) (s : Int × Int × Int × Int) (o : Int × Int × Int) (h : L9l0_0 v249 v251 v252 s = some o) : Ev fun n => loopAt [1, 4, 7, 28, 29, 30] [4, 5, 7] a9l0b (ex tab n) 2 (h9l0_0 z0 z1 v249 v251 v252 s) = some (q9l0_0 z0 z1 v249 v251 v252 o) := by
  refine iter_sound (S9l0_0 v249 v251 v252) [1, 4, 7, 28, 29, 30] [4, 5, 7] a9l0b 2 (h9l0_0 z0 z1 v249 v251 v252) (q9l0_0 z0 z1 v249 v251 v252) ?_ _ _ _ h
  rintro ⟨v250, v256, v257, v258⟩ z h
  simp only [S9l0_0] at h
  by_cases c259 : v249 ≤ v250
  · rw [if_pos c259] at h
    have c259d := dt c259
    cases h
    refine ⟨0, fun n hn => ?_⟩
    simp (maxSteps := 2000000) only [W, reduceIte, Nat.reduceEqDiff, Nat.reduceAdd, Nat.reduceSub, Nat.reduceLT, Nat.reduceLeDiff, Nat.reduceMul, h9l0_0, q9l0_0, a9l0b, c259d, wd]
  · rw [if_neg c259] at h
    have c259d := df c259
    obtain ⟨j260, x261, g262, h⟩ := un2 h
    obtain ⟨g2621, g2622⟩ := geti_in g262
    have g2623 := ac_Int g2622
    try simp only [wn] at g2621
    obtain ⟨j263, x264, g265, h⟩ := un2 h
    obtain ⟨g2651, g2652⟩ := geti_in g265
    have g2653 := ac_Int g2652
    try simp only [wn] at g2651
    by_cases c266 : x261 ≤ 0
    · rw [if_pos c266] at h
      have c266d := dt c266
      by_cases c267 : 0 ≤ x261
      · rw [if_pos c267] at h
        have c267d := dt c267
        obtain ⟨r270, g268, h⟩ := un1 h
        obtain ⟨N269, kN269⟩ := c29_0 x261 _ g268
        obtain ⟨r273, g271, h⟩ := un1 h
        obtain ⟨N272, kN272⟩ := c29_0 x264 _ g271
        cases h
        refine ⟨N269 + N272, fun n hn => ?_⟩
        have kN269 := kN269 n (by omega)
        try simp (maxSteps := 2000000) only [wn] at kN269
        have kN272 := kN272 n (by omega)
        try simp (maxSteps := 2000000) only [wn] at kN272
        simp (maxSteps := 2000000) only [W, reduceIte, Nat.reduceEqDiff, Nat.reduceAdd, Nat.reduceSub, Nat.reduceLT, Nat.reduceLeDiff, Nat.reduceMul, h9l0_0, q9l0_0, a9l0b, c259d, g2621, g2623, g2651, g2653, c266d, c267d, kN269, kN272, wd]
      · rw [if_neg c267] at h
        have c267d := df c267
        by_cases c274 : 0 ≤ x264
        · rw [if_pos c274] at h
          have c274d := dt c274
          obtain ⟨r277, g275, h⟩ := un1 h
          obtain ⟨N276, kN276⟩ := c29_0 x261 _ g275
          obtain ⟨r280, g278, h⟩ := un1 h
          obtain ⟨N279, kN279⟩ := c29_0 x264 _ g278
          cases h
          refine ⟨N276 + N279, fun n hn => ?_⟩
          have kN276 := kN276 n (by omega)
          try simp (maxSteps := 2000000) only [wn] at kN276
          have kN279 := kN279 n (by omega)
          try simp (maxSteps := 2000000) only [wn] at kN279
          simp (maxSteps := 2000000) only [W, reduceIte, Nat.reduceEqDiff, Nat.reduceAdd, Nat.reduceSub, Nat.reduceLT, Nat.reduceLeDiff, Nat.reduceMul, h9l0_0, q9l0_0, a9l0b, c259d, g2621, g2623, g2651, g2653, c266d, c267d, c274d, kN276, kN279, wd]
        · rw [if_neg c274] at h
          have c274d := df c274
          obtain ⟨r283, g281, h⟩ := un1 h
          obtain ⟨N282, kN282⟩ := c29_0 x261 _ g281
          obtain ⟨r286, g284, h⟩ := un1 h
          obtain ⟨N285, kN285⟩ := c29_0 x264 _ g284
          cases h
          refine ⟨N282 + N285, fun n hn => ?_⟩
          have kN282 := kN282 n (by omega)
          try simp (maxSteps := 2000000) only [wn] at kN282
          have kN285 := kN285 n (by omega)
          try simp (maxSteps := 2000000) only [wn] at kN285
          simp (maxSteps := 2000000) only [W, reduceIte, Nat.reduceEqDiff, Nat.reduceAdd, Nat.reduceSub, Nat.reduceLT, Nat.reduceLeDiff, Nat.reduceMul, h9l0_0, q9l0_0, a9l0b, c259d, g2621, g2623, g2651, g2653, c266d, c267d, c274d, kN282, kN285, wd]
    · rw [if_neg c266] at h
      have c266d := df c266
      by_cases c291 : x264 ≤ 0
      · rw [if_pos c291] at h
        have c291d := dt c291
        by_cases c292 : 0 ≤ x261
        · rw [if_pos c292] at h
          have c292d := dt c292
          obtain ⟨r295, g293, h⟩ := un1 h
          obtain ⟨N294, kN294⟩ := c29_0 x261 _ g293
          obtain ⟨r298, g296, h⟩ := un1 h
          obtain ⟨N297, kN297⟩ := c29_0 x264 _ g296
          cases h
          refine ⟨N294 + N297, fun n hn => ?_⟩
          have kN294 := kN294 n (by omega)
          try simp (maxSteps := 2000000) only [wn] at kN294
          have kN297 := kN297 n (by omega)
          try simp (maxSteps := 2000000) only [wn] at kN297
          simp (maxSteps := 2000000) only [W, reduceIte, Nat.reduceEqDiff, Nat.reduceAdd, Nat.reduceSub, Nat.reduceLT, Nat.reduceLeDiff, Nat.reduceMul, h9l0_0, q9l0_0, a9l0b, c259d, g2621, g2623, g2651, g2653, c266d, c291d, c292d, kN294, kN297, wd]
        · rw [if_neg c292] at h
          have c292d := df c292
          by_cases c299 : 0 ≤ x264
          · rw [if_pos c299] at h
            have c299d := dt c299
            obtain ⟨r302, g300, h⟩ := un1 h
            obtain ⟨N301, kN301⟩ := c29_0 x261 _ g300
            obtain ⟨r305, g303, h⟩ := un1 h
            obtain ⟨N304, kN304⟩ := c29_0 x264 _ g303
            cases h
            refine ⟨N301 + N304, fun n hn => ?_⟩
            have kN301 := kN301 n (by omega)
            try simp (maxSteps := 2000000) only [wn] at kN301
            have kN304 := kN304 n (by omega)
            try simp (maxSteps := 2000000) only [wn] at kN304
            simp (maxSteps := 2000000) only [W, reduceIte, Nat.reduceEqDiff, Nat.reduceAdd, Nat.reduceSub, Nat.reduceLT, Nat.reduceLeDiff, Nat.reduceMul, h9l0_0, q9l0_0, a9l0b, c259d, g2621, g2623, g2651, g2653, c266d, c291d, c292d, c299d, kN301, kN304, wd]
          · rw [if_neg c299] at h
            have c299d := df c299
            obtain ⟨r308, g306, h⟩ := un1 h
            obtain ⟨N307, kN307⟩ := c29_0 x261 _ g306
            obtain ⟨r311, g309, h⟩ := un1 h
            obtain ⟨N310, kN310⟩ := c29_0 x264 _ g309
            cases h
            refine ⟨N307 + N310, fun n hn => ?_⟩
            have kN307 := kN307 n (by omega)
            try simp (maxSteps := 2000000) only [wn] at kN307
            have kN310 := kN310 n (by omega)
            try simp (maxSteps := 2000000) only [wn] at kN310
            simp (maxSteps := 2000000) only [W, reduceIte, Nat.reduceEqDiff, Nat.reduceAdd, Nat.reduceSub, Nat.reduceLT, Nat.reduceLeDiff, Nat.reduceMul, h9l0_0, q9l0_0, a9l0b, c259d, g2621, g2623, g2651, g2653, c266d, c291d, c292d, c299d, kN307, kN310, wd]
      · rw [if_neg c291] at h
        have c291d := df c291
        obtain ⟨r318, g316, h⟩ := un1 h
        obtain ⟨N317, kN317⟩ := c29_0 x261 _ g316
        obtain ⟨r321, g319, h⟩ := un1 h
        obtain ⟨N320, kN320⟩ := c29_0 x264 _ g319
        cases h
        refine ⟨N317 + N320, fun n hn => ?_⟩
        have kN317 := kN317 n (by omega)
        try simp (maxSteps := 2000000) only [wn] at kN317
        have kN320 := kN320 n (by omega)
        try simp (maxSteps := 2000000) only [wn] at kN320
        simp (maxSteps := 2000000) only [W, reduceIte, Nat.reduceEqDiff, Nat.reduceAdd, Nat.reduceSub, Nat.reduceLT, Nat.reduceLeDiff, Nat.reduceMul, h9l0_0, q9l0_0, a9l0b, c259d, g2621, g2623, g2651, g2653, c266d, c291d, kN317, kN320, wd]
end Go.AI
end
section
/-
  Functions, walked through: dispatch.SettledOf, guidevanebase.Within, guidevaneref08.RampErr, guidevaneref08.PowersErr, guidevaneref08.Followed, guidevanebase.Ints, guidevanebase.Size, guidevaneref08.Settled.
-/
set_option linter.unusedVariables false
set_option linter.unusedSimpArgs false
set_option maxRecDepth 100000
set_option maxHeartbeats 4000000
namespace Go.AI
theorem c9_0 (z0 : Bool) (z1 : Bool) (v155 : List Int) (v156 : List Int) (r334 : Int) (r335 : Int) (r336 : Int) (r337 : Int) (h : F9_0 v155 v156 = some (r334, r335, r336, r337)) : Ev fun n => (ex tab n).call 9 [.slice (.p 0) 0 v155.length v155.length 1 false, .slice (.p 1) 0 v156.length v156.length 1 false] [.row z0 true (rowC v155), .row z1 true (rowC v156)] = some (.tup [.agg [.int .i64 r334, .int .i64 r335, .int .i64 r336], .int .i64 r337], [.row z0 true (rowC v155), .row z1 true (rowC v156)]) := by
  unfold F9_0 at h
  obtain ⟨r159, g157, h⟩ := un1 h
  obtain ⟨N158, kN158⟩ := c28_0 z0 v155 _ g157
  obtain ⟨r162, g160, h⟩ := un1 h
  obtain ⟨N161, kN161⟩ := c28_0 z1 v156 _ g160
  obtain ⟨r165, g163, h⟩ := un1 h
  obtain ⟨N164, kN164⟩ := c25_0 (decide ((v155.length : Int) = (v156.length : Int))) 10 _ g163
  obtain ⟨r168, g166, h⟩ := un1 h
  obtain ⟨N167, kN167⟩ := c24_0 true ([r159, r162, r165] : List Int) _ g166
  by_cases c169 : r168 = 0
  · rw [if_pos c169] at h
    have c169d := dt c169
    obtain ⟨r331, r332, r333, g329, h⟩ := un3 h
    have kN330 := k9l0_0 z0 z1 (v155.length : Int) v155 v156 (0, 0, 0, 0) _ g329
    obtain ⟨N330, kN330⟩ := kN330
    cases h
    refine ev_call (fn := a9) rfl ⟨N158 + N161 + N164 + N167 + N330, fun n hn => ?_⟩
    have kN158 := kN158 n (by omega)
    try simp (maxSteps := 2000000) only [wn] at kN158
    have kN161 := kN161 n (by omega)
    try simp (maxSteps := 2000000) only [wn] at kN161
    have kN164 := kN164 n (by omega)
    try simp (maxSteps := 2000000) only [wn] at kN164
    have kN167 := kN167 n (by omega)
    try simp (maxSteps := 2000000) only [wn] at kN167
    have kN330 := kN330 n (by omega)
    simp (maxSteps := 2000000) only [h9l0_0, q9l0_0, wn] at kN330
    simp (maxSteps := 2000000) only [W, reduceIte, Nat.reduceEqDiff, Nat.reduceAdd, Nat.reduceSub, Nat.reduceLT, Nat.reduceLeDiff, Nat.reduceMul, a9, a9l0, kN158, kN161, kN164, kN167, c169d, kN330, @x_loopAt]
  · rw [if_neg c169] at h
    have c169d := df c169
    cases h
    refine ev_call (fn := a9) rfl ⟨N158 + N161 + N164 + N167, fun n hn => ?_⟩
    have kN158 := kN158 n (by omega)
    try simp (maxSteps := 2000000) only [wn] at kN158
    have kN161 := kN161 n (by omega)
    try simp (maxSteps := 2000000) only [wn] at kN161
    have kN164 := kN164 n (by omega)
    try simp (maxSteps := 2000000) only [wn] at kN164
    have kN167 := kN167 n (by omega)
    try simp (maxSteps := 2000000) only [wn] at kN167
    simp (maxSteps := 2000000) only [W, reduceIte, Nat.reduceEqDiff, Nat.reduceAdd, Nat.reduceSub, Nat.reduceLT, Nat.reduceLeDiff, Nat.reduceMul, a9, a9l0, kN158, kN161, kN164, kN167, c169d, @x_loopAt]
theorem c16_0 (v346 : Int) (v347 : Int) (v348 : Int) (r350 : Bool) (h : F16_0 v346 v347 v348 = some r350) : Ev fun n => (ex tab n).call 16 [.int .i64 v346, .int .i64 v347, .int .i64 v348] [] = some (.bool r350, []) := by
  unfold F16_0 at h
  by_cases c349 : v347 ≤ v346
  · rw [if_pos c349] at h
    have c349d := dt c349
    cases h
    refine ev_call (fn := a16) rfl ⟨0, fun n hn => ?_⟩
    simp (maxSteps := 2000000) only [W, reduceIte, Nat.reduceEqDiff, Nat.reduceAdd, Nat.reduceSub, Nat.reduceLT, Nat.reduceLeDiff, Nat.reduceMul, a16, c349d]
  · rw [if_neg c349] at h
    have c349d := df c349
    cases h
    refine ev_call (fn := a16) rfl ⟨0, fun n hn => ?_⟩
    simp (maxSteps := 2000000) only [W, reduceIte, Nat.reduceEqDiff, Nat.reduceAdd, Nat.reduceSub, Nat.reduceLT, Nat.reduceLeDiff, Nat.reduceMul, a16, c349d]
theorem c10_0 (v344 : Int) (v345 : Int) (r359 : Int) (h : F10_0 v344 v345 = some r359) : Ev fun n => (ex tab n).call 10 [.int .i64 v344, .int .i64 v345] [] = some (.int .i64 r359, []) := by
  unfold F10_0 at h
  obtain ⟨r353, g351, h⟩ := un1 h
  obtain ⟨N352, kN352⟩ := c16_0 v344 (-1000000) 1000000 _ g351
  by_cases c354 : r353 = true
  · rw [if_pos c354] at h
    have c354d := c354
    obtain ⟨r357, g355, h⟩ := un1 h
    obtain ⟨N356, kN356⟩ := c16_0 v345 0 1000000 _ g355
    by_cases c358 : r357 = true
    · rw [if_pos c358] at h
      have c358d := c358
      cases h
      refine ev_call (fn := a10) rfl ⟨N352 + N356, fun n hn => ?_⟩
      have kN352 := kN352 n (by omega)
      try simp (maxSteps := 2000000) only [wn] at kN352
      have kN356 := kN356 n (by omega)
      try simp (maxSteps := 2000000) only [wn] at kN356
      simp (maxSteps := 2000000) only [W, reduceIte, Nat.reduceEqDiff, Nat.reduceAdd, Nat.reduceSub, Nat.reduceLT, Nat.reduceLeDiff, Nat.reduceMul, a10, kN352, c354d, kN356, c358d]
    · rw [if_neg c358] at h
      have c358d := bf c358
      cases h
      refine ev_call (fn := a10) rfl ⟨N352 + N356, fun n hn => ?_⟩
      have kN352 := kN352 n (by omega)
      try simp (maxSteps := 2000000) only [wn] at kN352
      have kN356 := kN356 n (by omega)
      try simp (maxSteps := 2000000) only [wn] at kN356
      simp (maxSteps := 2000000) only [W, reduceIte, Nat.reduceEqDiff, Nat.reduceAdd, Nat.reduceSub, Nat.reduceLT, Nat.reduceLeDiff, Nat.reduceMul, a10, kN352, c354d, kN356, c358d]
  · rw [if_neg c354] at h
    have c354d := bf c354
    cases h
    refine ev_call (fn := a10) rfl ⟨N352, fun n hn => ?_⟩
    have kN352 := kN352 n (by omega)
    try simp (maxSteps := 2000000) only [wn] at kN352
    simp (maxSteps := 2000000) only [W, reduceIte, Nat.reduceEqDiff, Nat.reduceAdd, Nat.reduceSub, Nat.reduceLT, Nat.reduceLeDiff, Nat.reduceMul, a10, kN352, c354d]
noncomputable def h11l0_0 (z0 : Bool) (v366 : List Int) : (Int) → Env × Heap
  | v365 => ([(0, .slice (.p 0) 0 v366.length v366.length 1 false), (3, .int .i64 v365)], [.row z0 true (rowC v366)])
noncomputable def q11l0_0 (z0 : Bool) (v366 : List Int) : ((Unit) ⊕ (Unit)) → AExit × Env × Heap
  | .inl (_) => (.exit 0, [(2, .undef)], [.row z0 true (rowC v366)])
  | .inr (_) => (.ret, [(2, .int .i64 2)], [.row z0 true (rowC v366)])
theorem k11l0_0 (z0 : Bool) (v366 : List Int) (s : Int) (o : (Unit) ⊕ (Unit)) (h : L11l0_0 v366 s = some o) : Ev fun n => loopAt [0, 3] [2] a11l0b (ex tab n) 1 (h11l0_0 z0 v366 s) = some (q11l0_0 z0 v366 o) := by
  refine iter_sound (S11l0_0 v366) [0, 3] [2] a11l0b 1 (h11l0_0 z0 v366) (q11l0_0 z0 v366) ?_ _ _ _ h
  rintro v365 z h
  simp only [S11l0_0] at h
  by_cases c367 : (v366.length : Int) ≤ v365
  · rw [if_pos c367] at h
    have c367d := dt c367
    cases h
    refine ⟨0, fun n hn => ?_⟩
    simp (maxSteps := 2000000) only [W, reduceIte, Nat.reduceEqDiff, Nat.reduceAdd, Nat.reduceSub, Nat.reduceLT, Nat.reduceLeDiff, Nat.reduceMul, h11l0_0, q11l0_0, a11l0b, c367d]
  · rw [if_neg c367] at h
    have c367d := df c367
    obtain ⟨j368, x369, g370, h⟩ := un2 h
    obtain ⟨g3701, g3702⟩ := geti_in g370
    have g3703 := ac_Int g3702
    try simp only [wn] at g3701
    obtain ⟨r373, g371, h⟩ := un1 h
    obtain ⟨N372, kN372⟩ := c16_0 x369 (-1000000) 1000000 _ g371
    by_cases c374 : r373 = true
    · rw [if_pos c374] at h
      have c374d := c374
      cases h
      refine ⟨N372, fun n hn => ?_⟩
      have kN372 := kN372 n (by omega)
      try simp (maxSteps := 2000000) only [wn] at kN372
      simp (maxSteps := 2000000) only [W, reduceIte, Nat.reduceEqDiff, Nat.reduceAdd, Nat.reduceSub, Nat.reduceLT, Nat.reduceLeDiff, Nat.reduceMul, h11l0_0, q11l0_0, a11l0b, c367d, g3701, g3703, kN372, c374d]
    · rw [if_neg c374] at h
      have c374d := bf c374
      cases h
      refine ⟨N372, fun n hn => ?_⟩
      have kN372 := kN372 n (by omega)
      try simp (maxSteps := 2000000) only [wn] at kN372
      simp (maxSteps := 2000000) only [W, reduceIte, Nat.reduceEqDiff, Nat.reduceAdd, Nat.reduceSub, Nat.reduceLT, Nat.reduceLeDiff, Nat.reduceMul, h11l0_0, q11l0_0, a11l0b, c367d, g3701, g3703, kN372, c374d]
theorem c11_0 (z0 : Bool) (v363 : List Int) (r377 : Int) (h : F11_0 v363 = some r377) : Ev fun n => (ex tab n).call 11 [.slice (.p 0) 0 v363.length v363.length 1 false] [.row z0 true (rowC v363)] = some (.int .i64 r377, [.row z0 true (rowC v363)]) := by
  unfold F11_0 at h
  by_cases c364 : (v363.length : Int) ≤ 300
  · rw [if_pos c364] at h
    have c364d := dt c364
    obtain ⟨g375_, g375, h⟩ := un1 h
    rcases g375_ with _ | _
    · dsimp only at h
      have kN376 := k11l0_0 z0 v363 0 _ g375
      obtain ⟨N376, kN376⟩ := kN376
      cases h
      refine ev_call (fn := a11) rfl ⟨N376, fun n hn => ?_⟩
      have kN376 := kN376 n (by omega)
      simp (maxSteps := 2000000) only [h11l0_0, q11l0_0, wn] at kN376
      simp (maxSteps := 2000000) only [W, reduceIte, Nat.reduceEqDiff, Nat.reduceAdd, Nat.reduceSub, Nat.reduceLT, Nat.reduceLeDiff, Nat.reduceMul, a11, a11l0, c364d, kN376, @x_loopAt]
    · dsimp only at h
      have kN376 := k11l0_0 z0 v363 0 _ g375
      obtain ⟨N376, kN376⟩ := kN376
      cases h
      refine ev_call (fn := a11) rfl ⟨N376, fun n hn => ?_⟩
      have kN376 := kN376 n (by omega)
      simp (maxSteps := 2000000) only [h11l0_0, q11l0_0, wn] at kN376
      simp (maxSteps := 2000000) only [W, reduceIte, Nat.reduceEqDiff, Nat.reduceAdd, Nat.reduceSub, Nat.reduceLT, Nat.reduceLeDiff, Nat.reduceMul, a11, a11l0, c364d, kN376, @x_loopAt]
  · rw [if_neg c364] at h
    have c364d := df c364
    cases h
    refine ev_call (fn := a11) rfl ⟨0, fun n hn => ?_⟩
    simp (maxSteps := 2000000) only [W, reduceIte, Nat.reduceEqDiff, Nat.reduceAdd, Nat.reduceSub, Nat.reduceLT, Nat.reduceLeDiff, Nat.reduceMul, a11, a11l0, c364d, @x_loopAt]
noncomputable def h13l0_0 (z0 : Bool) (v387 : Int) (v390 : List Int) : (Int × Int × (List Int)) → Env × Heap
  | (v388, v389, v391) => ([(1, .int .i64 v387), (2, .slice (.p 0) 0 v390.length v390.length 1 false), (7, .slice (.p 1) 0 v391.length v391.length 1 false), (8, .int .i64 v388), (9, .int .i64 v389)], [.row z0 true (rowC v390), .row true true (rowC v391)])
noncomputable def q13l0_0 (z0 : Bool) (v387 : Int) (v390 : List Int) : ((List Int)) → AExit × Env × Heap
  | r397 => (.exit 0, [(6, .undef), (7, .slice (.p 1) 0 r397.length r397.length 1 false)], [.row z0 true (rowC v390), .row true true (rowC r397)])
theorem k13l0_0 (z0 : Bool) (v387 : Int) (v390 : List Int) (s : Int × Int × (List Int)) (o : (List Int)) (h : L13l0_0 v387 v390 s = some o) : Ev fun n => loopAt [1, 2, 7, 8, 9] [6, 7] a13l0b (ex tab n) 1 (h13l0_0 z0 v387 v390 s) = some (q13l0_0 z0 v387 v390 o) := by
  refine iter_sound (S13l0_0 v387 v390) [1, 2, 7, 8, 9] [6, 7] a13l0b 1 (h13l0_0 z0 v387 v390) (q13l0_0 z0 v387 v390) ?_ _ _ _ h
  rintro ⟨v388, v389, v391⟩ z h
  simp only [S13l0_0] at h
  by_cases c392 : (v390.length : Int) ≤ v389
  · rw [if_pos c392] at h
    have c392d := dt c392
    cases h
    refine ⟨0, fun n hn => ?_⟩
    simp (maxSteps := 2000000) only [W, reduceIte, Nat.reduceEqDiff, Nat.reduceAdd, Nat.reduceSub, Nat.reduceLT, Nat.reduceLeDiff, Nat.reduceMul, h13l0_0, q13l0_0, a13l0b, c392d]
  · rw [if_neg c392] at h
    have c392d := df c392
    obtain ⟨j393, x394, g395, h⟩ := un2 h
    obtain ⟨g3951, g3952⟩ := geti_in g395
    have g3953 := ac_Int g3952
    try simp only [wn] at g3951
    obtain ⟨g396, h⟩ := un_roomd h
    cases h
    refine ⟨0, fun n hn => ?_⟩
    simp (maxSteps := 2000000) only [W, reduceIte, Nat.reduceEqDiff, Nat.reduceAdd, Nat.reduceSub, Nat.reduceLT, Nat.reduceLeDiff, Nat.reduceMul, h13l0_0, q13l0_0, a13l0b, c392d, g3951, g3953, g396]
theorem c13_0 (z0 : Bool) (v384 : Int) (v385 : Int) (v386 : List Int) (r401 : List Int) (h : F13_0 v384 v385 v386 = some r401) : Ev fun n => (ex tab n).call 13 [.int .i64 v384, .int .i64 v385, .slice (.p 0) 0 v386.length v386.length 1 false] [.row z0 true (rowC v386)] = some (.slice (.p 1) 0 r401.length r401.length 1 false, [.row z0 true (rowC v386), .row true true (rowC r401)]) := by
  unfold F13_0 at h
  obtain ⟨r400, g398, h⟩ := un1 h
  have kN399 := k13l0_0 z0 v385 v386 (v384, 0, ([] : List Int)) _ g398
  obtain ⟨N399, kN399⟩ := kN399
  cases h
  refine ev_call (fn := a13) rfl ⟨N399, fun n hn => ?_⟩
  have kN399 := kN399 n (by omega)
  simp (maxSteps := 2000000) only [h13l0_0, q13l0_0, wn] at kN399
  simp (maxSteps := 2000000) only [W, reduceIte, Nat.reduceEqDiff, Nat.reduceAdd, Nat.reduceSub, Nat.reduceLT, Nat.reduceLeDiff, Nat.reduceMul, a13, a13l0, kN399, @x_loopAt]
noncomputable def h12l0_0 (z0 : Bool) (z1 : Bool) (v409 : List Int) (v410 : List Int) : (Int) → Env × Heap
  | v408 => ([(0, .slice (.p 0) 0 v409.length v409.length 1 false), (1, .slice (.p 1) 0 v410.length v410.length 1 false), (5, .int .i64 v408)], [.row z0 true (rowC v409), .row z1 true (rowC v410)])
noncomputable def q12l0_0 (z0 : Bool) (z1 : Bool) (v409 : List Int) (v410 : List Int) : ((Unit) ⊕ (Unit)) → AExit × Env × Heap
  | .inl (_) => (.exit 0, [(4, .undef)], [.row z0 true (rowC v409), .row z1 true (rowC v410)])
  | .inr (_) => (.ret, [(4, .bool false)], [.row z0 true (rowC v409), .row z1 true (rowC v410)])
theorem k12l0_0 (z0 : Bool) (z1 : Bool) (v409 : List Int) (v410 : List Int) (s : Int) (o : (Unit) ⊕ (Unit)) (h : L12l0_0 v409 v410 s = some o) : Ev fun n => loopAt [0, 1, 5] [4] a12l0b (ex tab n) 2 (h12l0_0 z0 z1 v409 v410 s) = some (q12l0_0 z0 z1 v409 v410 o) := by
  refine iter_sound (S12l0_0 v409 v410) [0, 1, 5] [4] a12l0b 2 (h12l0_0 z0 z1 v409 v410) (q12l0_0 z0 z1 v409 v410) ?_ _ _ _ h
  rintro v408 z h
  simp only [S12l0_0] at h
  by_cases c411 : (v409.length : Int) ≤ v408
  · rw [if_pos c411] at h
    have c411d := dt c411
    cases h
    refine ⟨0, fun n hn => ?_⟩
    simp (maxSteps := 2000000) only [W, reduceIte, Nat.reduceEqDiff, Nat.reduceAdd, Nat.reduceSub, Nat.reduceLT, Nat.reduceLeDiff, Nat.reduceMul, h12l0_0, q12l0_0, a12l0b, c411d, wd]
  · rw [if_neg c411] at h
    have c411d := df c411
    obtain ⟨j412, x413, g414, h⟩ := un2 h
    obtain ⟨g4141, g4142⟩ := geti_in g414
    have g4143 := ac_Int g4142
    try simp only [wn] at g4141
    obtain ⟨j415, x416, g417, h⟩ := un2 h
    obtain ⟨g4171, g4172⟩ := geti_in g417
    have g4173 := ac_Int g4172
    try simp only [wn] at g4171
    by_cases c418 : x413 = x416
    · rw [if_pos c418] at h
      have c418d := dt c418
      cases h
      refine ⟨0, fun n hn => ?_⟩
      simp (maxSteps := 2000000) only [W, reduceIte, Nat.reduceEqDiff, Nat.reduceAdd, Nat.reduceSub, Nat.reduceLT, Nat.reduceLeDiff, Nat.reduceMul, h12l0_0, q12l0_0, a12l0b, c411d, g4141, g4143, g4171, g4173, c418d, wd]
    · rw [if_neg c418] at h
      have c418d := df c418
      cases h
      refine ⟨0, fun n hn => ?_⟩
      simp (maxSteps := 2000000) only [W, reduceIte, Nat.reduceEqDiff, Nat.reduceAdd, Nat.reduceSub, Nat.reduceLT, Nat.reduceLeDiff, Nat.reduceMul, h12l0_0, q12l0_0, a12l0b, c411d, g4141, g4143, g4171, g4173, c418d, wd]
theorem c12_0 (z0 : Bool) (z1 : Bool) (v405 : List Int) (v406 : List Int) (r421 : Bool) (h : F12_0 v405 v406 = some r421) : Ev fun n => (ex tab n).call 12 [.slice (.p 0) 0 v405.length v405.length 1 false, .slice (.p 1) 0 v406.length v406.length 1 false] [.row z0 true (rowC v405), .row z1 true (rowC v406)] = some (.bool r421, [.row z0 true (rowC v405), .row z1 true (rowC v406)]) := by
  unfold F12_0 at h
  by_cases c407 : (v405.length : Int) = (v406.length : Int)
  · rw [if_pos c407] at h
    have c407d := dt c407
    obtain ⟨g419_, g419, h⟩ := un1 h
    rcases g419_ with _ | _
    · dsimp only at h
      have kN420 := k12l0_0 z0 z1 v405 v406 0 _ g419
      obtain ⟨N420, kN420⟩ := kN420
      cases h
      refine ev_call (fn := a12) rfl ⟨N420, fun n hn => ?_⟩
      have kN420 := kN420 n (by omega)
      simp (maxSteps := 2000000) only [h12l0_0, q12l0_0, wn] at kN420
      simp (maxSteps := 2000000) only [W, reduceIte, Nat.reduceEqDiff, Nat.reduceAdd, Nat.reduceSub, Nat.reduceLT, Nat.reduceLeDiff, Nat.reduceMul, a12, a12l0, c407d, kN420, @x_loopAt]
    · dsimp only at h
      have kN420 := k12l0_0 z0 z1 v405 v406 0 _ g419
      obtain ⟨N420, kN420⟩ := kN420
      cases h
      refine ev_call (fn := a12) rfl ⟨N420, fun n hn => ?_⟩
      have kN420 := kN420 n (by omega)
      simp (maxSteps := 2000000) only [h12l0_0, q12l0_0, wn] at kN420
      simp (maxSteps := 2000000) only [W, reduceIte, Nat.reduceEqDiff, Nat.reduceAdd, Nat.reduceSub, Nat.reduceLT, Nat.reduceLeDiff, Nat.reduceMul, a12, a12l0, c407d, kN420, @x_loopAt]
  · rw [if_neg c407] at h
    have c407d := df c407
    cases h
    refine ev_call (fn := a12) rfl ⟨0, fun n hn => ?_⟩
    simp (maxSteps := 2000000) only [W, reduceIte, Nat.reduceEqDiff, Nat.reduceAdd, Nat.reduceSub, Nat.reduceLT, Nat.reduceLeDiff, Nat.reduceMul, a12, a12l0, c407d, @x_loopAt]
theorem c15_0 (v452 : Int) (r453 : Int) (h : F15_0 v452 = some r453) : Ev fun n => (ex tab n).call 15 [.int .i64 v452] [] = some (.int .i64 r453, []) := by
  unfold F15_0 at h
  cases h
  refine ev_call (fn := a15) rfl ⟨0, fun n hn => ?_⟩
  simp (maxSteps := 2000000) only [W, reduceIte, Nat.reduceEqDiff, Nat.reduceAdd, Nat.reduceSub, Nat.reduceLT, Nat.reduceLeDiff, Nat.reduceMul, a15]
noncomputable def h14l0_0 (z0 : Bool) (z1 : Bool) (v513 : List Int) (v514 : List Int) : (Int × Int × Int × Int) → Env × Heap
  | (v512, v518, v519, v520) => ([(0, .slice (.p 0) 0 v513.length v513.length 1 false), (1, .slice (.p 1) 0 v514.length v514.length 1 false), (4, .ptr (.p 2) 0), (5, .ptr (.p 3) 0), (6, .int .i64 v512)], [.row z0 true (rowC v513), .row z1 true (rowC v514), .row true true [.int .i64 0, .int .i64 0, .int .i64 0], .row true true [.int .i64 v518, .int .i64 v519, .int .i64 v520]])
noncomputable def q14l0_0 (z0 : Bool) (z1 : Bool) (v513 : List Int) (v514 : List Int) : (Int × Int × Int) → AExit × Env × Heap
  | (r588, r589, r590) => (.exit 0, [(4, .ptr (.p 2) 0), (5, .ptr (.p 3) 0)], [.row z0 true (rowC v513), .row z1 true (rowC v514), .row true true [.int .i64 0, .int .i64 0, .int .i64 0], .row true true [.int .i64 r588, .int .i64 r589, .int .i64 r590]])
theorem k14l0_0 (z0 : Bool) (z1 : Bool) (v513 : List Int) (v514 : List Int) (s : Int × Int × Int × Int) (o : Int × Int × Int) (h : L14l0_0 v513 v514 s = some o) : Ev fun n => loopAt [0, 1, 4, 5, 6] [4, 5] a14l0b (ex tab n) 2 (h14l0_0 z0 z1 v513 v514 s) = some (q14l0_0 z0 z1 v513 v514 o) := by
  refine iter_sound (S14l0_0 v513 v514) [0, 1, 4, 5, 6] [4, 5] a14l0b 2 (h14l0_0 z0 z1 v513 v514) (q14l0_0 z0 z1 v513 v514) ?_ _ _ _ h
  rintro ⟨v512, v518, v519, v520⟩ z h
  simp only [S14l0_0] at h
  by_cases c521 : (v513.length : Int) ≤ v512
  · rw [if_pos c521] at h
    have c521d := dt c521
    cases h
    refine ⟨0, fun n hn => ?_⟩
    simp (maxSteps := 2000000) only [W, reduceIte, Nat.reduceEqDiff, Nat.reduceAdd, Nat.reduceSub, Nat.reduceLT, Nat.reduceLeDiff, Nat.reduceMul, h14l0_0, q14l0_0, a14l0b, c521d, wd]
  · rw [if_neg c521] at h
    have c521d := df c521
    obtain ⟨j522, x523, g524, h⟩ := un2 h
    obtain ⟨g5241, g5242⟩ := geti_in g524
    have g5243 := ac_Int g5242
    try simp only [wn] at g5241
    obtain ⟨j525, x526, g527, h⟩ := un2 h
    obtain ⟨g5271, g5272⟩ := geti_in g527
    have g5273 := ac_Int g5272
    try simp only [wn] at g5271
    by_cases c528 : x523 ≤ 0
    · rw [if_pos c528] at h
      have c528d := dt c528
      by_cases c529 : 0 ≤ x523
      · rw [if_pos c529] at h
        have c529d := dt c529
        obtain ⟨r532, g530, h⟩ := un1 h
        obtain ⟨N531, kN531⟩ := c15_0 x523 _ g530
        obtain ⟨r535, g533, h⟩ := un1 h
        obtain ⟨N534, kN534⟩ := c15_0 x526 _ g533
        cases h
        refine ⟨N531 + N534, fun n hn => ?_⟩
        have kN531 := kN531 n (by omega)
        try simp (maxSteps := 2000000) only [wn] at kN531
        have kN534 := kN534 n (by omega)
        try simp (maxSteps := 2000000) only [wn] at kN534
        simp (maxSteps := 2000000) only [W, reduceIte, Nat.reduceEqDiff, Nat.reduceAdd, Nat.reduceSub, Nat.reduceLT, Nat.reduceLeDiff, Nat.reduceMul, h14l0_0, q14l0_0, a14l0b, c521d, g5241, g5243, g5271, g5273, c528d, c529d, kN531, kN534, wd]
      · rw [if_neg c529] at h
        have c529d := df c529
        by_cases c536 : 0 ≤ x526
        · rw [if_pos c536] at h
          have c536d := dt c536
          obtain ⟨r539, g537, h⟩ := un1 h
          obtain ⟨N538, kN538⟩ := c15_0 x523 _ g537
          obtain ⟨r542, g540, h⟩ := un1 h
          obtain ⟨N541, kN541⟩ := c15_0 x526 _ g540
          cases h
          refine ⟨N538 + N541, fun n hn => ?_⟩
          have kN538 := kN538 n (by omega)
          try simp (maxSteps := 2000000) only [wn] at kN538
          have kN541 := kN541 n (by omega)
          try simp (maxSteps := 2000000) only [wn] at kN541
          simp (maxSteps := 2000000) only [W, reduceIte, Nat.reduceEqDiff, Nat.reduceAdd, Nat.reduceSub, Nat.reduceLT, Nat.reduceLeDiff, Nat.reduceMul, h14l0_0, q14l0_0, a14l0b, c521d, g5241, g5243, g5271, g5273, c528d, c529d, c536d, kN538, kN541, wd]
        · rw [if_neg c536] at h
          have c536d := df c536
          obtain ⟨r545, g543, h⟩ := un1 h
          obtain ⟨N544, kN544⟩ := c15_0 x523 _ g543
          obtain ⟨r548, g546, h⟩ := un1 h
          obtain ⟨N547, kN547⟩ := c15_0 x526 _ g546
          cases h
          refine ⟨N544 + N547, fun n hn => ?_⟩
          have kN544 := kN544 n (by omega)
          try simp (maxSteps := 2000000) only [wn] at kN544
          have kN547 := kN547 n (by omega)
          try simp (maxSteps := 2000000) only [wn] at kN547
          simp (maxSteps := 2000000) only [W, reduceIte, Nat.reduceEqDiff, Nat.reduceAdd, Nat.reduceSub, Nat.reduceLT, Nat.reduceLeDiff, Nat.reduceMul, h14l0_0, q14l0_0, a14l0b, c521d, g5241, g5243, g5271, g5273, c528d, c529d, c536d, kN544, kN547, wd]
    · rw [if_neg c528] at h
      have c528d := df c528
      by_cases c553 : x526 ≤ 0
      · rw [if_pos c553] at h
        have c553d := dt c553
        by_cases c554 : 0 ≤ x523
        · rw [if_pos c554] at h
          have c554d := dt c554
          obtain ⟨r557, g555, h⟩ := un1 h
          obtain ⟨N556, kN556⟩ := c15_0 x523 _ g555
          obtain ⟨r560, g558, h⟩ := un1 h
          obtain ⟨N559, kN559⟩ := c15_0 x526 _ g558
          cases h
          refine ⟨N556 + N559, fun n hn => ?_⟩
          have kN556 := kN556 n (by omega)
          try simp (maxSteps := 2000000) only [wn] at kN556
          have kN559 := kN559 n (by omega)
          try simp (maxSteps := 2000000) only [wn] at kN559
          simp (maxSteps := 2000000) only [W, reduceIte, Nat.reduceEqDiff, Nat.reduceAdd, Nat.reduceSub, Nat.reduceLT, Nat.reduceLeDiff, Nat.reduceMul, h14l0_0, q14l0_0, a14l0b, c521d, g5241, g5243, g5271, g5273, c528d, c553d, c554d, kN556, kN559, wd]
        · rw [if_neg c554] at h
          have c554d := df c554
          by_cases c561 : 0 ≤ x526
          · rw [if_pos c561] at h
            have c561d := dt c561
            obtain ⟨r564, g562, h⟩ := un1 h
            obtain ⟨N563, kN563⟩ := c15_0 x523 _ g562
            obtain ⟨r567, g565, h⟩ := un1 h
            obtain ⟨N566, kN566⟩ := c15_0 x526 _ g565
            cases h
            refine ⟨N563 + N566, fun n hn => ?_⟩
            have kN563 := kN563 n (by omega)
            try simp (maxSteps := 2000000) only [wn] at kN563
            have kN566 := kN566 n (by omega)
            try simp (maxSteps := 2000000) only [wn] at kN566
            simp (maxSteps := 2000000) only [W, reduceIte, Nat.reduceEqDiff, Nat.reduceAdd, Nat.reduceSub, Nat.reduceLT, Nat.reduceLeDiff, Nat.reduceMul, h14l0_0, q14l0_0, a14l0b, c521d, g5241, g5243, g5271, g5273, c528d, c553d, c554d, c561d, kN563, kN566, wd]
          · rw [if_neg c561] at h
            have c561d := df c561
            obtain ⟨r570, g568, h⟩ := un1 h
            obtain ⟨N569, kN569⟩ := c15_0 x523 _ g568
            obtain ⟨r573, g571, h⟩ := un1 h
            obtain ⟨N572, kN572⟩ := c15_0 x526 _ g571
            cases h
            refine ⟨N569 + N572, fun n hn => ?_⟩
            have kN569 := kN569 n (by omega)
            try simp (maxSteps := 2000000) only [wn] at kN569
            have kN572 := kN572 n (by omega)
            try simp (maxSteps := 2000000) only [wn] at kN572
            simp (maxSteps := 2000000) only [W, reduceIte, Nat.reduceEqDiff, Nat.reduceAdd, Nat.reduceSub, Nat.reduceLT, Nat.reduceLeDiff, Nat.reduceMul, h14l0_0, q14l0_0, a14l0b, c521d, g5241, g5243, g5271, g5273, c528d, c553d, c554d, c561d, kN569, kN572, wd]
      · rw [if_neg c553] at h
        have c553d := df c553
        obtain ⟨r580, g578, h⟩ := un1 h
        obtain ⟨N579, kN579⟩ := c15_0 x523 _ g578
        obtain ⟨r583, g581, h⟩ := un1 h
        obtain ⟨N582, kN582⟩ := c15_0 x526 _ g581
        cases h
        refine ⟨N579 + N582, fun n hn => ?_⟩
        have kN579 := kN579 n (by omega)
        try simp (maxSteps := 2000000) only [wn] at kN579
        have kN582 := kN582 n (by omega)
        try simp (maxSteps := 2000000) only [wn] at kN582
        simp (maxSteps := 2000000) only [W, reduceIte, Nat.reduceEqDiff, Nat.reduceAdd, Nat.reduceSub, Nat.reduceLT, Nat.reduceLeDiff, Nat.reduceMul, h14l0_0, q14l0_0, a14l0b, c521d, g5241, g5243, g5271, g5273, c528d, c553d, kN579, kN582, wd]
theorem c14_0 (z0 : Bool) (z1 : Bool) (v432 : List Int) (v433 : List Int) (r596 : Int) (r597 : Int) (r598 : Int) (h : F14_0 v432 v433 = some (r596, r597, r598)) : Ev fun n => (ex tab n).call 14 [.slice (.p 0) 0 v432.length v432.length 1 false, .slice (.p 1) 0 v433.length v433.length 1 false] [.row z0 true (rowC v432), .row z1 true (rowC v433)] = some (.agg [.int .i64 r596, .int .i64 r597, .int .i64 r598], [.row z0 true (rowC v432), .row z1 true (rowC v433)]) := by
  unfold F14_0 at h
  obtain ⟨r593, r594, r595, g591, h⟩ := un3 h
  have kN592 := k14l0_0 z0 z1 v432 v433 (0, 0, 0, 0) _ g591
  obtain ⟨N592, kN592⟩ := kN592
  cases h
  refine ev_call (fn := a14) rfl ⟨N592, fun n hn => ?_⟩
  have kN592 := kN592 n (by omega)
  simp (maxSteps := 2000000) only [h14l0_0, q14l0_0, wn] at kN592
  simp (maxSteps := 2000000) only [W, reduceIte, Nat.reduceEqDiff, Nat.reduceAdd, Nat.reduceSub, Nat.reduceLT, Nat.reduceLeDiff, Nat.reduceMul, a14, a14l0, kN592, @x_loopAt]
end Go.AI
end
section
/-
  Functions, walked through: guidevanelaw08.DispatchActivations.
-/
set_option linter.unusedVariables false
set_option linter.unusedSimpArgs false
set_option maxRecDepth 100000
set_option maxHeartbeats 4000000
namespace Go.AI
theorem c3_0 (z0 : Bool) (z1 : Bool) (v1 : Int) (v2 : Int) (v3 : List Int) (v4 : List Int) (r628 : Bool) (h : F3_0 v1 v2 v3 v4 = some r628) : Ev fun n => (ex tab n).call 3 [.agg [.int .i64 v1, .int .i64 v2], .slice (.p 0) 0 v3.length v3.length 1 false, .slice (.p 1) 0 v4.length v4.length 1 false] [.row z0 true (rowC v3), .row z1 true (rowC v4)] = some (.bool r628, [.row z0 true (rowC v3), .row z1 true (rowC v4)]) := by
  unfold F3_0 at h
  obtain ⟨N5, kN5⟩ := awake_ev
  obtain ⟨r12, g10, h⟩ := un1 h
  obtain ⟨N11, kN11⟩ := c6_0 z0 v3 _ g10
  by_cases c13 : r12 = true
  · rw [if_pos c13] at h
    have c13d := c13
    obtain ⟨r16, g14, h⟩ := un1 h
    obtain ⟨N15, kN15⟩ := c6_0 z1 v4 _ g14
    by_cases c17 : r16 = true
    · rw [if_pos c17] at h
      have c17d := c17
      obtain ⟨_, g20, h⟩ := un1 h
      obtain ⟨N21, kN21⟩ := c8_0 false v3 g20
      obtain ⟨r149, r150, g147, h⟩ := un2 h
      obtain ⟨N148, kN148⟩ := c7_0 true v1 v2 v3 _ _ g147
      obtain ⟨N152, kN152⟩ := c8_0 z0 v3 g20
      obtain ⟨_, g153, h⟩ := un1 h
      obtain ⟨N154, kN154⟩ := c8_0 z1 v4 g153
      obtain ⟨r340, r341, r342, r343, g338, h⟩ := un4 h
      obtain ⟨N339, kN339⟩ := c9_0 true true v3 v4 _ _ _ _ g338
      obtain ⟨r362, g360, h⟩ := un1 h
      obtain ⟨N361, kN361⟩ := c10_0 v1 v2 _ g360
      obtain ⟨r380, g378, h⟩ := un1 h
      obtain ⟨N379, kN379⟩ := c11_0 z0 v3 _ g378
      by_cases c381 : r362 = 0
      · rw [if_pos c381] at h
        have c381d := dt c381
        by_cases c382 : r380 = 0
        · rw [if_pos c382] at h
          have c382d := dt c382
          by_cases c383 : r149 = 0
          · rw [if_pos c383] at h
            have c383d := dt c383
            obtain ⟨r404, g402, h⟩ := un1 h
            obtain ⟨N403, kN403⟩ := c13_0 z0 v1 v2 v3 _ g402
            obtain ⟨r424, g422, h⟩ := un1 h
            obtain ⟨N423, kN423⟩ := c12_0 true true r150 r404 _ g422
            by_cases c425 : r424 = true
            · rw [if_pos c425] at h
              have c425d := c425
              obtain ⟨r428, g426, h⟩ := un1 h
              obtain ⟨N427, kN427⟩ := c11_0 z1 v4 _ g426
              by_cases c429 : r428 = 0
              · rw [if_pos c429] at h
                have c429d := dt c429
                by_cases c430 : (v3.length : Int) = (v4.length : Int)
                · rw [if_pos c430] at h
                  have c430d := dt c430
                  by_cases c431 : r343 = 0
                  · rw [if_pos c431] at h
                    have c431d := dt c431
                    obtain ⟨r601, r602, r603, g599, h⟩ := un3 h
                    obtain ⟨N600, kN600⟩ := c14_0 false false v3 v4 _ _ _ g599
                    cases h
                    refine ev_call (fn := a3) rfl ⟨N5 + N11 + N15 + N21 + N148 + N152 + N154 + N339 + N361 + N379 + N403 + N423 + N427 + N600, fun n hn => ?_⟩
                    have kN5 := kN5 n (by omega)
                    have kN11 := kN11 n (by omega)
                    try simp (maxSteps := 2000000) only [wn] at kN11
                    have kN15 := kN15 n (by omega)
                    try simp (maxSteps := 2000000) only [wn] at kN15
                    have kN21 := kN21 n (by omega)
                    try simp (maxSteps := 2000000) only [wn] at kN21
                    have kN148 := kN148 n (by omega)
                    try simp (maxSteps := 2000000) only [wn] at kN148
                    have kN152 := kN152 n (by omega)
                    try simp (maxSteps := 2000000) only [wn] at kN152
                    have kN154 := kN154 n (by omega)
                    try simp (maxSteps := 2000000) only [wn] at kN154
                    have kN339 := kN339 n (by omega)
                    try simp (maxSteps := 2000000) only [wn] at kN339
                    have kN361 := kN361 n (by omega)
                    try simp (maxSteps := 2000000) only [wn] at kN361
                    have kN379 := kN379 n (by omega)
                    try simp (maxSteps := 2000000) only [wn] at kN379
                    have kN403 := kN403 n (by omega)
                    try simp (maxSteps := 2000000) only [wn] at kN403
                    have kN423 := kN423 n (by omega)
                    try simp (maxSteps := 2000000) only [wn] at kN423
                    have kN427 := kN427 n (by omega)
                    try simp (maxSteps := 2000000) only [wn] at kN427
                    have kN600 := kN600 n (by omega)
                    try simp (maxSteps := 2000000) only [wn] at kN600
                    simp (maxSteps := 2000000) only [W, reduceIte, Nat.reduceEqDiff, Nat.reduceAdd, Nat.reduceSub, Nat.reduceLT, Nat.reduceLeDiff, Nat.reduceMul, a3, kN5, kN11, c13d, kN15, c17d, kN21, kN148, kN152, kN154, kN339, kN361, kN379, c381d, c382d, c383d, kN403, kN423, c425d, kN427, c429d, c430d, c431d, kN600, wd]
                  · rw [if_neg c431] at h
                    have c431d := df c431
                    cases h
                    refine ev_call (fn := a3) rfl ⟨N5 + N11 + N15 + N21 + N148 + N152 + N154 + N339 + N361 + N379 + N403 + N423 + N427, fun n hn => ?_⟩
                    have kN5 := kN5 n (by omega)
                    have kN11 := kN11 n (by omega)
                    try simp (maxSteps := 2000000) only [wn] at kN11
                    have kN15 := kN15 n (by omega)
                    try simp (maxSteps := 2000000) only [wn] at kN15
                    have kN21 := kN21 n (by omega)
                    try simp (maxSteps := 2000000) only [wn] at kN21
                    have kN148 := kN148 n (by omega)
                    try simp (maxSteps := 2000000) only [wn] at kN148
                    have kN152 := kN152 n (by omega)
                    try simp (maxSteps := 2000000) only [wn] at kN152
                    have kN154 := kN154 n (by omega)
                    try simp (maxSteps := 2000000) only [wn] at kN154
                    have kN339 := kN339 n (by omega)
                    try simp (maxSteps := 2000000) only [wn] at kN339
                    have kN361 := kN361 n (by omega)
                    try simp (maxSteps := 2000000) only [wn] at kN361
                    have kN379 := kN379 n (by omega)
                    try simp (maxSteps := 2000000) only [wn] at kN379
                    have kN403 := kN403 n (by omega)
                    try simp (maxSteps := 2000000) only [wn] at kN403
                    have kN423 := kN423 n (by omega)
                    try simp (maxSteps := 2000000) only [wn] at kN423
                    have kN427 := kN427 n (by omega)
                    try simp (maxSteps := 2000000) only [wn] at kN427
                    simp (maxSteps := 2000000) only [W, reduceIte, Nat.reduceEqDiff, Nat.reduceAdd, Nat.reduceSub, Nat.reduceLT, Nat.reduceLeDiff, Nat.reduceMul, a3, kN5, kN11, c13d, kN15, c17d, kN21, kN148, kN152, kN154, kN339, kN361, kN379, c381d, c382d, c383d, kN403, kN423, c425d, kN427, c429d, c430d, c431d, wd]
                · rw [if_neg c430] at h
                  have c430d := df c430
                  have d604 : (decide ((10 : Int) = 0)) = false := by decide
                  by_cases c605 : r343 = 10
                  · rw [if_pos c605] at h
                    have c605d := dt c605
                    cases h
                    refine ev_call (fn := a3) rfl ⟨N5 + N11 + N15 + N21 + N148 + N152 + N154 + N339 + N361 + N379 + N403 + N423 + N427, fun n hn => ?_⟩
                    have kN5 := kN5 n (by omega)
                    have kN11 := kN11 n (by omega)
                    try simp (maxSteps := 2000000) only [wn] at kN11
                    have kN15 := kN15 n (by omega)
                    try simp (maxSteps := 2000000) only [wn] at kN15
                    have kN21 := kN21 n (by omega)
                    try simp (maxSteps := 2000000) only [wn] at kN21
                    have kN148 := kN148 n (by omega)
                    try simp (maxSteps := 2000000) only [wn] at kN148
                    have kN152 := kN152 n (by omega)
                    try simp (maxSteps := 2000000) only [wn] at kN152
                    have kN154 := kN154 n (by omega)
                    try simp (maxSteps := 2000000) only [wn] at kN154
                    have kN339 := kN339 n (by omega)
                    try simp (maxSteps := 2000000) only [wn] at kN339
                    have kN361 := kN361 n (by omega)
                    try simp (maxSteps := 2000000) only [wn] at kN361
                    have kN379 := kN379 n (by omega)
                    try simp (maxSteps := 2000000) only [wn] at kN379
                    have kN403 := kN403 n (by omega)
                    try simp (maxSteps := 2000000) only [wn] at kN403
                    have kN423 := kN423 n (by omega)
                    try simp (maxSteps := 2000000) only [wn] at kN423
                    have kN427 := kN427 n (by omega)
                    try simp (maxSteps := 2000000) only [wn] at kN427
                    simp (maxSteps := 2000000) only [W, reduceIte, Nat.reduceEqDiff, Nat.reduceAdd, Nat.reduceSub, Nat.reduceLT, Nat.reduceLeDiff, Nat.reduceMul, a3, kN5, kN11, c13d, kN15, c17d, kN21, kN148, kN152, kN154, kN339, kN361, kN379, c381d, c382d, c383d, kN403, kN423, c425d, kN427, c429d, c430d, d604, c605d, wd]
                  · rw [if_neg c605] at h
                    have c605d := df c605
                    cases h
                    refine ev_call (fn := a3) rfl ⟨N5 + N11 + N15 + N21 + N148 + N152 + N154 + N339 + N361 + N379 + N403 + N423 + N427, fun n hn => ?_⟩
                    have kN5 := kN5 n (by omega)
                    have kN11 := kN11 n (by omega)
                    try simp (maxSteps := 2000000) only [wn] at kN11
                    have kN15 := kN15 n (by omega)
                    try simp (maxSteps := 2000000) only [wn] at kN15
                    have kN21 := kN21 n (by omega)
                    try simp (maxSteps := 2000000) only [wn] at kN21
                    have kN148 := kN148 n (by omega)
                    try simp (maxSteps := 2000000) only [wn] at kN148
                    have kN152 := kN152 n (by omega)
                    try simp (maxSteps := 2000000) only [wn] at kN152
                    have kN154 := kN154 n (by omega)
                    try simp (maxSteps := 2000000) only [wn] at kN154
                    have kN339 := kN339 n (by omega)
                    try simp (maxSteps := 2000000) only [wn] at kN339
                    have kN361 := kN361 n (by omega)
                    try simp (maxSteps := 2000000) only [wn] at kN361
                    have kN379 := kN379 n (by omega)
                    try simp (maxSteps := 2000000) only [wn] at kN379
                    have kN403 := kN403 n (by omega)
                    try simp (maxSteps := 2000000) only [wn] at kN403
                    have kN423 := kN423 n (by omega)
                    try simp (maxSteps := 2000000) only [wn] at kN423
                    have kN427 := kN427 n (by omega)
                    try simp (maxSteps := 2000000) only [wn] at kN427
                    simp (maxSteps := 2000000) only [W, reduceIte, Nat.reduceEqDiff, Nat.reduceAdd, Nat.reduceSub, Nat.reduceLT, Nat.reduceLeDiff, Nat.reduceMul, a3, kN5, kN11, c13d, kN15, c17d, kN21, kN148, kN152, kN154, kN339, kN361, kN379, c381d, c382d, c383d, kN403, kN423, c425d, kN427, c429d, c430d, d604, c605d, wd]
              · rw [if_neg c429] at h
                have c429d := df c429
                by_cases c606 : r343 = r428
                · rw [if_pos c606] at h
                  have c606d := dt c606
                  cases h
                  refine ev_call (fn := a3) rfl ⟨N5 + N11 + N15 + N21 + N148 + N152 + N154 + N339 + N361 + N379 + N403 + N423 + N427, fun n hn => ?_⟩
                  have kN5 := kN5 n (by omega)
                  have kN11 := kN11 n (by omega)
                  try simp (maxSteps := 2000000) only [wn] at kN11
                  have kN15 := kN15 n (by omega)
                  try simp (maxSteps := 2000000) only [wn] at kN15
                  have kN21 := kN21 n (by omega)
                  try simp (maxSteps := 2000000) only [wn] at kN21
                  have kN148 := kN148 n (by omega)
                  try simp (maxSteps := 2000000) only [wn] at kN148
                  have kN152 := kN152 n (by omega)
                  try simp (maxSteps := 2000000) only [wn] at kN152
                  have kN154 := kN154 n (by omega)
                  try simp (maxSteps := 2000000) only [wn] at kN154
                  have kN339 := kN339 n (by omega)
                  try simp (maxSteps := 2000000) only [wn] at kN339
                  have kN361 := kN361 n (by omega)
                  try simp (maxSteps := 2000000) only [wn] at kN361
                  have kN379 := kN379 n (by omega)
                  try simp (maxSteps := 2000000) only [wn] at kN379
                  have kN403 := kN403 n (by omega)
                  try simp (maxSteps := 2000000) only [wn] at kN403
                  have kN423 := kN423 n (by omega)
                  try simp (maxSteps := 2000000) only [wn] at kN423
                  have kN427 := kN427 n (by omega)
                  try simp (maxSteps := 2000000) only [wn] at kN427
                  simp (maxSteps := 2000000) only [W, reduceIte, Nat.reduceEqDiff, Nat.reduceAdd, Nat.reduceSub, Nat.reduceLT, Nat.reduceLeDiff, Nat.reduceMul, a3, kN5, kN11, c13d, kN15, c17d, kN21, kN148, kN152, kN154, kN339, kN361, kN379, c381d, c382d, c383d, kN403, kN423, c425d, kN427, c429d, c606d, wd]
                · rw [if_neg c606] at h
                  have c606d := df c606
                  cases h
                  refine ev_call (fn := a3) rfl ⟨N5 + N11 + N15 + N21 + N148 + N152 + N154 + N339 + N361 + N379 + N403 + N423 + N427, fun n hn => ?_⟩
                  have kN5 := kN5 n (by omega)
                  have kN11 := kN11 n (by omega)
                  try simp (maxSteps := 2000000) only [wn] at kN11
                  have kN15 := kN15 n (by omega)
                  try simp (maxSteps := 2000000) only [wn] at kN15
                  have kN21 := kN21 n (by omega)
                  try simp (maxSteps := 2000000) only [wn] at kN21
                  have kN148 := kN148 n (by omega)
                  try simp (maxSteps := 2000000) only [wn] at kN148
                  have kN152 := kN152 n (by omega)
                  try simp (maxSteps := 2000000) only [wn] at kN152
                  have kN154 := kN154 n (by omega)
                  try simp (maxSteps := 2000000) only [wn] at kN154
                  have kN339 := kN339 n (by omega)
                  try simp (maxSteps := 2000000) only [wn] at kN339
                  have kN361 := kN361 n (by omega)
                  try simp (maxSteps := 2000000) only [wn] at kN361
                  have kN379 := kN379 n (by omega)
                  try simp (maxSteps := 2000000) only [wn] at kN379
                  have kN403 := kN403 n (by omega)
                  try simp (maxSteps := 2000000) only [wn] at kN403
                  have kN423 := kN423 n (by omega)
                  try simp (maxSteps := 2000000) only [wn] at kN423
                  have kN427 := kN427 n (by omega)
                  try simp (maxSteps := 2000000) only [wn] at kN427
                  simp (maxSteps := 2000000) only [W, reduceIte, Nat.reduceEqDiff, Nat.reduceAdd, Nat.reduceSub, Nat.reduceLT, Nat.reduceLeDiff, Nat.reduceMul, a3, kN5, kN11, c13d, kN15, c17d, kN21, kN148, kN152, kN154, kN339, kN361, kN379, c381d, c382d, c383d, kN403, kN423, c425d, kN427, c429d, c606d, wd]
            · rw [if_neg c425] at h
              have c425d := bf c425
              cases h
              refine ev_call (fn := a3) rfl ⟨N5 + N11 + N15 + N21 + N148 + N152 + N154 + N339 + N361 + N379 + N403 + N423, fun n hn => ?_⟩
              have kN5 := kN5 n (by omega)
              have kN11 := kN11 n (by omega)
              try simp (maxSteps := 2000000) only [wn] at kN11
              have kN15 := kN15 n (by omega)
              try simp (maxSteps := 2000000) only [wn] at kN15
              have kN21 := kN21 n (by omega)
              try simp (maxSteps := 2000000) only [wn] at kN21
              have kN148 := kN148 n (by omega)
              try simp (maxSteps := 2000000) only [wn] at kN148
              have kN152 := kN152 n (by omega)
              try simp (maxSteps := 2000000) only [wn] at kN152
              have kN154 := kN154 n (by omega)
              try simp (maxSteps := 2000000) only [wn] at kN154
              have kN339 := kN339 n (by omega)
              try simp (maxSteps := 2000000) only [wn] at kN339
              have kN361 := kN361 n (by omega)
              try simp (maxSteps := 2000000) only [wn] at kN361
              have kN379 := kN379 n (by omega)
              try simp (maxSteps := 2000000) only [wn] at kN379
              have kN403 := kN403 n (by omega)
              try simp (maxSteps := 2000000) only [wn] at kN403
              have kN423 := kN423 n (by omega)
              try simp (maxSteps := 2000000) only [wn] at kN423
              simp (maxSteps := 2000000) only [W, reduceIte, Nat.reduceEqDiff, Nat.reduceAdd, Nat.reduceSub, Nat.reduceLT, Nat.reduceLeDiff, Nat.reduceMul, a3, kN5, kN11, c13d, kN15, c17d, kN21, kN148, kN152, kN154, kN339, kN361, kN379, c381d, c382d, c383d, kN403, kN423, c425d, wd]
          · rw [if_neg c383] at h
            have c383d := df c383
            cases h
            refine ev_call (fn := a3) rfl ⟨N5 + N11 + N15 + N21 + N148 + N152 + N154 + N339 + N361 + N379, fun n hn => ?_⟩
            have kN5 := kN5 n (by omega)
            have kN11 := kN11 n (by omega)
            try simp (maxSteps := 2000000) only [wn] at kN11
            have kN15 := kN15 n (by omega)
            try simp (maxSteps := 2000000) only [wn] at kN15
            have kN21 := kN21 n (by omega)
            try simp (maxSteps := 2000000) only [wn] at kN21
            have kN148 := kN148 n (by omega)
            try simp (maxSteps := 2000000) only [wn] at kN148
            have kN152 := kN152 n (by omega)
            try simp (maxSteps := 2000000) only [wn] at kN152
            have kN154 := kN154 n (by omega)
            try simp (maxSteps := 2000000) only [wn] at kN154
            have kN339 := kN339 n (by omega)
            try simp (maxSteps := 2000000) only [wn] at kN339
            have kN361 := kN361 n (by omega)
            try simp (maxSteps := 2000000) only [wn] at kN361
            have kN379 := kN379 n (by omega)
            try simp (maxSteps := 2000000) only [wn] at kN379
            simp (maxSteps := 2000000) only [W, reduceIte, Nat.reduceEqDiff, Nat.reduceAdd, Nat.reduceSub, Nat.reduceLT, Nat.reduceLeDiff, Nat.reduceMul, a3, kN5, kN11, c13d, kN15, c17d, kN21, kN148, kN152, kN154, kN339, kN361, kN379, c381d, c382d, c383d, wd]
        · rw [if_neg c382] at h
          have c382d := df c382
          by_cases c607 : r149 = r380
          · rw [if_pos c607] at h
            have c607d := dt c607
            by_cases c608 : (r150.length : Int) = 0
            · rw [if_pos c608] at h
              have c608d := dt c608
              by_cases c609 : r343 = r380
              · rw [if_pos c609] at h
                have c609d := dt c609
                cases h
                refine ev_call (fn := a3) rfl ⟨N5 + N11 + N15 + N21 + N148 + N152 + N154 + N339 + N361 + N379, fun n hn => ?_⟩
                have kN5 := kN5 n (by omega)
                have kN11 := kN11 n (by omega)
                try simp (maxSteps := 2000000) only [wn] at kN11
                have kN15 := kN15 n (by omega)
                try simp (maxSteps := 2000000) only [wn] at kN15
                have kN21 := kN21 n (by omega)
                try simp (maxSteps := 2000000) only [wn] at kN21
                have kN148 := kN148 n (by omega)
                try simp (maxSteps := 2000000) only [wn] at kN148
                have kN152 := kN152 n (by omega)
                try simp (maxSteps := 2000000) only [wn] at kN152
                have kN154 := kN154 n (by omega)
                try simp (maxSteps := 2000000) only [wn] at kN154
                have kN339 := kN339 n (by omega)
                try simp (maxSteps := 2000000) only [wn] at kN339
                have kN361 := kN361 n (by omega)
                try simp (maxSteps := 2000000) only [wn] at kN361
                have kN379 := kN379 n (by omega)
                try simp (maxSteps := 2000000) only [wn] at kN379
                simp (maxSteps := 2000000) only [W, reduceIte, Nat.reduceEqDiff, Nat.reduceAdd, Nat.reduceSub, Nat.reduceLT, Nat.reduceLeDiff, Nat.reduceMul, a3, kN5, kN11, c13d, kN15, c17d, kN21, kN148, kN152, kN154, kN339, kN361, kN379, c381d, c382d, c607d, c608d, c609d, wd]
              · rw [if_neg c609] at h
                have c609d := df c609
                cases h
                refine ev_call (fn := a3) rfl ⟨N5 + N11 + N15 + N21 + N148 + N152 + N154 + N339 + N361 + N379, fun n hn => ?_⟩
                have kN5 := kN5 n (by omega)
                have kN11 := kN11 n (by omega)
                try simp (maxSteps := 2000000) only [wn] at kN11
                have kN15 := kN15 n (by omega)
                try simp (maxSteps := 2000000) only [wn] at kN15
                have kN21 := kN21 n (by omega)
                try simp (maxSteps := 2000000) only [wn] at kN21
                have kN148 := kN148 n (by omega)
                try simp (maxSteps := 2000000) only [wn] at kN148
                have kN152 := kN152 n (by omega)
                try simp (maxSteps := 2000000) only [wn] at kN152
                have kN154 := kN154 n (by omega)
                try simp (maxSteps := 2000000) only [wn] at kN154
                have kN339 := kN339 n (by omega)
                try simp (maxSteps := 2000000) only [wn] at kN339
                have kN361 := kN361 n (by omega)
                try simp (maxSteps := 2000000) only [wn] at kN361
                have kN379 := kN379 n (by omega)
                try simp (maxSteps := 2000000) only [wn] at kN379
                simp (maxSteps := 2000000) only [W, reduceIte, Nat.reduceEqDiff, Nat.reduceAdd, Nat.reduceSub, Nat.reduceLT, Nat.reduceLeDiff, Nat.reduceMul, a3, kN5, kN11, c13d, kN15, c17d, kN21, kN148, kN152, kN154, kN339, kN361, kN379, c381d, c382d, c607d, c608d, c609d, wd]
            · rw [if_neg c608] at h
              have c608d := df c608
              cases h
              refine ev_call (fn := a3) rfl ⟨N5 + N11 + N15 + N21 + N148 + N152 + N154 + N339 + N361 + N379, fun n hn => ?_⟩
              have kN5 := kN5 n (by omega)
              have kN11 := kN11 n (by omega)
              try simp (maxSteps := 2000000) only [wn] at kN11
              have kN15 := kN15 n (by omega)
              try simp (maxSteps := 2000000) only [wn] at kN15
              have kN21 := kN21 n (by omega)
              try simp (maxSteps := 2000000) only [wn] at kN21
              have kN148 := kN148 n (by omega)
              try simp (maxSteps := 2000000) only [wn] at kN148
              have kN152 := kN152 n (by omega)
              try simp (maxSteps := 2000000) only [wn] at kN152
              have kN154 := kN154 n (by omega)
              try simp (maxSteps := 2000000) only [wn] at kN154
              have kN339 := kN339 n (by omega)
              try simp (maxSteps := 2000000) only [wn] at kN339
              have kN361 := kN361 n (by omega)
              try simp (maxSteps := 2000000) only [wn] at kN361
              have kN379 := kN379 n (by omega)
              try simp (maxSteps := 2000000) only [wn] at kN379
              simp (maxSteps := 2000000) only [W, reduceIte, Nat.reduceEqDiff, Nat.reduceAdd, Nat.reduceSub, Nat.reduceLT, Nat.reduceLeDiff, Nat.reduceMul, a3, kN5, kN11, c13d, kN15, c17d, kN21, kN148, kN152, kN154, kN339, kN361, kN379, c381d, c382d, c607d, c608d, wd]
          · rw [if_neg c607] at h
            have c607d := df c607
            cases h
            refine ev_call (fn := a3) rfl ⟨N5 + N11 + N15 + N21 + N148 + N152 + N154 + N339 + N361 + N379, fun n hn => ?_⟩
            have kN5 := kN5 n (by omega)
            have kN11 := kN11 n (by omega)
            try simp (maxSteps := 2000000) only [wn] at kN11
            have kN15 := kN15 n (by omega)
            try simp (maxSteps := 2000000) only [wn] at kN15
            have kN21 := kN21 n (by omega)
            try simp (maxSteps := 2000000) only [wn] at kN21
            have kN148 := kN148 n (by omega)
            try simp (maxSteps := 2000000) only [wn] at kN148
            have kN152 := kN152 n (by omega)
            try simp (maxSteps := 2000000) only [wn] at kN152
            have kN154 := kN154 n (by omega)
            try simp (maxSteps := 2000000) only [wn] at kN154
            have kN339 := kN339 n (by omega)
            try simp (maxSteps := 2000000) only [wn] at kN339
            have kN361 := kN361 n (by omega)
            try simp (maxSteps := 2000000) only [wn] at kN361
            have kN379 := kN379 n (by omega)
            try simp (maxSteps := 2000000) only [wn] at kN379
            simp (maxSteps := 2000000) only [W, reduceIte, Nat.reduceEqDiff, Nat.reduceAdd, Nat.reduceSub, Nat.reduceLT, Nat.reduceLeDiff, Nat.reduceMul, a3, kN5, kN11, c13d, kN15, c17d, kN21, kN148, kN152, kN154, kN339, kN361, kN379, c381d, c382d, c607d, wd]
      · rw [if_neg c381] at h
        have c381d := df c381
        by_cases c610 : r149 = r362
        · rw [if_pos c610] at h
          have c610d := dt c610
          by_cases c611 : (r150.length : Int) = 0
          · rw [if_pos c611] at h
            have c611d := dt c611
            by_cases c612 : r380 = 0
            · rw [if_pos c612] at h
              have c612d := dt c612
              obtain ⟨r615, g613, h⟩ := un1 h
              obtain ⟨N614, kN614⟩ := c11_0 z1 v4 _ g613
              by_cases c616 : r615 = 0
              · rw [if_pos c616] at h
                have c616d := dt c616
                by_cases c617 : (v3.length : Int) = (v4.length : Int)
                · rw [if_pos c617] at h
                  have c617d := dt c617
                  by_cases c618 : r343 = 0
                  · rw [if_pos c618] at h
                    have c618d := dt c618
                    obtain ⟨r621, r622, r623, g619, h⟩ := un3 h
                    obtain ⟨N620, kN620⟩ := c14_0 false false v3 v4 _ _ _ g619
                    cases h
                    refine ev_call (fn := a3) rfl ⟨N5 + N11 + N15 + N21 + N148 + N152 + N154 + N339 + N361 + N379 + N614 + N620, fun n hn => ?_⟩
                    have kN5 := kN5 n (by omega)
                    have kN11 := kN11 n (by omega)
                    try simp (maxSteps := 2000000) only [wn] at kN11
                    have kN15 := kN15 n (by omega)
                    try simp (maxSteps := 2000000) only [wn] at kN15
                    have kN21 := kN21 n (by omega)
                    try simp (maxSteps := 2000000) only [wn] at kN21
                    have kN148 := kN148 n (by omega)
                    try simp (maxSteps := 2000000) only [wn] at kN148
                    have kN152 := kN152 n (by omega)
                    try simp (maxSteps := 2000000) only [wn] at kN152
                    have kN154 := kN154 n (by omega)
                    try simp (maxSteps := 2000000) only [wn] at kN154
                    have kN339 := kN339 n (by omega)
                    try simp (maxSteps := 2000000) only [wn] at kN339
                    have kN361 := kN361 n (by omega)
                    try simp (maxSteps := 2000000) only [wn] at kN361
                    have kN379 := kN379 n (by omega)
                    try simp (maxSteps := 2000000) only [wn] at kN379
                    have kN614 := kN614 n (by omega)
                    try simp (maxSteps := 2000000) only [wn] at kN614
                    have kN620 := kN620 n (by omega)
                    try simp (maxSteps := 2000000) only [wn] at kN620
                    simp (maxSteps := 2000000) only [W, reduceIte, Nat.reduceEqDiff, Nat.reduceAdd, Nat.reduceSub, Nat.reduceLT, Nat.reduceLeDiff, Nat.reduceMul, a3, kN5, kN11, c13d, kN15, c17d, kN21, kN148, kN152, kN154, kN339, kN361, kN379, c381d, c610d, c611d, c612d, kN614, c616d, c617d, c618d, kN620, wd]
                  · rw [if_neg c618] at h
                    have c618d := df c618
                    cases h
                    refine ev_call (fn := a3) rfl ⟨N5 + N11 + N15 + N21 + N148 + N152 + N154 + N339 + N361 + N379 + N614, fun n hn => ?_⟩
                    have kN5 := kN5 n (by omega)
                    have kN11 := kN11 n (by omega)
                    try simp (maxSteps := 2000000) only [wn] at kN11
                    have kN15 := kN15 n (by omega)
                    try simp (maxSteps := 2000000) only [wn] at kN15
                    have kN21 := kN21 n (by omega)
                    try simp (maxSteps := 2000000) only [wn] at kN21
                    have kN148 := kN148 n (by omega)
                    try simp (maxSteps := 2000000) only [wn] at kN148
                    have kN152 := kN152 n (by omega)
                    try simp (maxSteps := 2000000) only [wn] at kN152
                    have kN154 := kN154 n (by omega)
                    try simp (maxSteps := 2000000) only [wn] at kN154
                    have kN339 := kN339 n (by omega)
                    try simp (maxSteps := 2000000) only [wn] at kN339
                    have kN361 := kN361 n (by omega)
                    try simp (maxSteps := 2000000) only [wn] at kN361
                    have kN379 := kN379 n (by omega)
                    try simp (maxSteps := 2000000) only [wn] at kN379
                    have kN614 := kN614 n (by omega)
                    try simp (maxSteps := 2000000) only [wn] at kN614
                    simp (maxSteps := 2000000) only [W, reduceIte, Nat.reduceEqDiff, Nat.reduceAdd, Nat.reduceSub, Nat.reduceLT, Nat.reduceLeDiff, Nat.reduceMul, a3, kN5, kN11, c13d, kN15, c17d, kN21, kN148, kN152, kN154, kN339, kN361, kN379, c381d, c610d, c611d, c612d, kN614, c616d, c617d, c618d, wd]
                · rw [if_neg c617] at h
                  have c617d := df c617
                  have d624 : (decide ((10 : Int) = 0)) = false := by decide
                  by_cases c625 : r343 = 10
                  · rw [if_pos c625] at h
                    have c625d := dt c625
                    cases h
                    refine ev_call (fn := a3) rfl ⟨N5 + N11 + N15 + N21 + N148 + N152 + N154 + N339 + N361 + N379 + N614, fun n hn => ?_⟩
                    have kN5 := kN5 n (by omega)
                    have kN11 := kN11 n (by omega)
                    try simp (maxSteps := 2000000) only [wn] at kN11
                    have kN15 := kN15 n (by omega)
                    try simp (maxSteps := 2000000) only [wn] at kN15
                    have kN21 := kN21 n (by omega)
                    try simp (maxSteps := 2000000) only [wn] at kN21
                    have kN148 := kN148 n (by omega)
                    try simp (maxSteps := 2000000) only [wn] at kN148
                    have kN152 := kN152 n (by omega)
                    try simp (maxSteps := 2000000) only [wn] at kN152
                    have kN154 := kN154 n (by omega)
                    try simp (maxSteps := 2000000) only [wn] at kN154
                    have kN339 := kN339 n (by omega)
                    try simp (maxSteps := 2000000) only [wn] at kN339
                    have kN361 := kN361 n (by omega)
                    try simp (maxSteps := 2000000) only [wn] at kN361
                    have kN379 := kN379 n (by omega)
                    try simp (maxSteps := 2000000) only [wn] at kN379
                    have kN614 := kN614 n (by omega)
                    try simp (maxSteps := 2000000) only [wn] at kN614
                    simp (maxSteps := 2000000) only [W, reduceIte, Nat.reduceEqDiff, Nat.reduceAdd, Nat.reduceSub, Nat.reduceLT, Nat.reduceLeDiff, Nat.reduceMul, a3, kN5, kN11, c13d, kN15, c17d, kN21, kN148, kN152, kN154, kN339, kN361, kN379, c381d, c610d, c611d, c612d, kN614, c616d, c617d, d624, c625d, wd]
                  · rw [if_neg c625] at h
                    have c625d := df c625
                    cases h
                    refine ev_call (fn := a3) rfl ⟨N5 + N11 + N15 + N21 + N148 + N152 + N154 + N339 + N361 + N379 + N614, fun n hn => ?_⟩
                    have kN5 := kN5 n (by omega)
                    have kN11 := kN11 n (by omega)
                    try simp (maxSteps := 2000000) only [wn] at kN11
                    have kN15 := kN15 n (by omega)
                    try simp (maxSteps := 2000000) only [wn] at kN15
                    have kN21 := kN21 n (by omega)
                    try simp (maxSteps := 2000000) only [wn] at kN21
                    have kN148 := kN148 n (by omega)
                    try simp (maxSteps := 2000000) only [wn] at kN148
                    have kN152 := kN152 n (by omega)
                    try simp (maxSteps := 2000000) only [wn] at kN152
                    have kN154 := kN154 n (by omega)
                    try simp (maxSteps := 2000000) only [wn] at kN154
                    have kN339 := kN339 n (by omega)
                    try simp (maxSteps := 2000000) only [wn] at kN339
                    have kN361 := kN361 n (by omega)
                    try simp (maxSteps := 2000000) only [wn] at kN361
                    have kN379 := kN379 n (by omega)
                    try simp (maxSteps := 2000000) only [wn] at kN379
                    have kN614 := kN614 n (by omega)
                    try simp (maxSteps := 2000000) only [wn] at kN614
                    simp (maxSteps := 2000000) only [W, reduceIte, Nat.reduceEqDiff, Nat.reduceAdd, Nat.reduceSub, Nat.reduceLT, Nat.reduceLeDiff, Nat.reduceMul, a3, kN5, kN11, c13d, kN15, c17d, kN21, kN148, kN152, kN154, kN339, kN361, kN379, c381d, c610d, c611d, c612d, kN614, c616d, c617d, d624, c625d, wd]
              · rw [if_neg c616] at h
                have c616d := df c616
                by_cases c626 : r343 = r615
                · rw [if_pos c626] at h
                  have c626d := dt c626
                  cases h
                  refine ev_call (fn := a3) rfl ⟨N5 + N11 + N15 + N21 + N148 + N152 + N154 + N339 + N361 + N379 + N614, fun n hn => ?_⟩
                  have kN5 := kN5 n (by omega)
                  have kN11 := kN11 n (by omega)
                  try simp (maxSteps := 2000000) only [wn] at kN11
                  have kN15 := kN15 n (by omega)
                  try simp (maxSteps := 2000000) only [wn] at kN15
                  have kN21 := kN21 n (by omega)
                  try simp (maxSteps := 2000000) only [wn] at kN21
                  have kN148 := kN148 n (by omega)
                  try simp (maxSteps := 2000000) only [wn] at kN148
                  have kN152 := kN152 n (by omega)
                  try simp (maxSteps := 2000000) only [wn] at kN152
                  have kN154 := kN154 n (by omega)
                  try simp (maxSteps := 2000000) only [wn] at kN154
                  have kN339 := kN339 n (by omega)
                  try simp (maxSteps := 2000000) only [wn] at kN339
                  have kN361 := kN361 n (by omega)
                  try simp (maxSteps := 2000000) only [wn] at kN361
                  have kN379 := kN379 n (by omega)
                  try simp (maxSteps := 2000000) only [wn] at kN379
                  have kN614 := kN614 n (by omega)
                  try simp (maxSteps := 2000000) only [wn] at kN614
                  simp (maxSteps := 2000000) only [W, reduceIte, Nat.reduceEqDiff, Nat.reduceAdd, Nat.reduceSub, Nat.reduceLT, Nat.reduceLeDiff, Nat.reduceMul, a3, kN5, kN11, c13d, kN15, c17d, kN21, kN148, kN152, kN154, kN339, kN361, kN379, c381d, c610d, c611d, c612d, kN614, c616d, c626d, wd]
                · rw [if_neg c626] at h
                  have c626d := df c626
                  cases h
                  refine ev_call (fn := a3) rfl ⟨N5 + N11 + N15 + N21 + N148 + N152 + N154 + N339 + N361 + N379 + N614, fun n hn => ?_⟩
                  have kN5 := kN5 n (by omega)
                  have kN11 := kN11 n (by omega)
                  try simp (maxSteps := 2000000) only [wn] at kN11
                  have kN15 := kN15 n (by omega)
                  try simp (maxSteps := 2000000) only [wn] at kN15
                  have kN21 := kN21 n (by omega)
                  try simp (maxSteps := 2000000) only [wn] at kN21
                  have kN148 := kN148 n (by omega)
                  try simp (maxSteps := 2000000) only [wn] at kN148
                  have kN152 := kN152 n (by omega)
                  try simp (maxSteps := 2000000) only [wn] at kN152
                  have kN154 := kN154 n (by omega)
                  try simp (maxSteps := 2000000) only [wn] at kN154
                  have kN339 := kN339 n (by omega)
                  try simp (maxSteps := 2000000) only [wn] at kN339
                  have kN361 := kN361 n (by omega)
                  try simp (maxSteps := 2000000) only [wn] at kN361
                  have kN379 := kN379 n (by omega)
                  try simp (maxSteps := 2000000) only [wn] at kN379
                  have kN614 := kN614 n (by omega)
                  try simp (maxSteps := 2000000) only [wn] at kN614
                  simp (maxSteps := 2000000) only [W, reduceIte, Nat.reduceEqDiff, Nat.reduceAdd, Nat.reduceSub, Nat.reduceLT, Nat.reduceLeDiff, Nat.reduceMul, a3, kN5, kN11, c13d, kN15, c17d, kN21, kN148, kN152, kN154, kN339, kN361, kN379, c381d, c610d, c611d, c612d, kN614, c616d, c626d, wd]
            · rw [if_neg c612] at h
              have c612d := df c612
              by_cases c627 : r343 = r380
              · rw [if_pos c627] at h
                have c627d := dt c627
                cases h
                refine ev_call (fn := a3) rfl ⟨N5 + N11 + N15 + N21 + N148 + N152 + N154 + N339 + N361 + N379, fun n hn => ?_⟩
                have kN5 := kN5 n (by omega)
                have kN11 := kN11 n (by omega)
                try simp (maxSteps := 2000000) only [wn] at kN11
                have kN15 := kN15 n (by omega)
                try simp (maxSteps := 2000000) only [wn] at kN15
                have kN21 := kN21 n (by omega)
                try simp (maxSteps := 2000000) only [wn] at kN21
                have kN148 := kN148 n (by omega)
                try simp (maxSteps := 2000000) only [wn] at kN148
                have kN152 := kN152 n (by omega)
                try simp (maxSteps := 2000000) only [wn] at kN152
                have kN154 := kN154 n (by omega)
                try simp (maxSteps := 2000000) only [wn] at kN154
                have kN339 := kN339 n (by omega)
                try simp (maxSteps := 2000000) only [wn] at kN339
                have kN361 := kN361 n (by omega)
                try simp (maxSteps := 2000000) only [wn] at kN361
                have kN379 := kN379 n (by omega)
                try simp (maxSteps := 2000000) only [wn] at kN379
                simp (maxSteps := 2000000) only [W, reduceIte, Nat.reduceEqDiff, Nat.reduceAdd, Nat.reduceSub, Nat.reduceLT, Nat.reduceLeDiff, Nat.reduceMul, a3, kN5, kN11, c13d, kN15, c17d, kN21, kN148, kN152, kN154, kN339, kN361, kN379, c381d, c610d, c611d, c612d, c627d, wd]
              · rw [if_neg c627] at h
                have c627d := df c627
                cases h
                refine ev_call (fn := a3) rfl ⟨N5 + N11 + N15 + N21 + N148 + N152 + N154 + N339 + N361 + N379, fun n hn => ?_⟩
                have kN5 := kN5 n (by omega)
                have kN11 := kN11 n (by omega)
                try simp (maxSteps := 2000000) only [wn] at kN11
                have kN15 := kN15 n (by omega)
                try simp (maxSteps := 2000000) only [wn] at kN15
                have kN21 := kN21 n (by omega)
                try simp (maxSteps := 2000000) only [wn] at kN21
                have kN148 := kN148 n (by omega)
                try simp (maxSteps := 2000000) only [wn] at kN148
                have kN152 := kN152 n (by omega)
                try simp (maxSteps := 2000000) only [wn] at kN152
                have kN154 := kN154 n (by omega)
                try simp (maxSteps := 2000000) only [wn] at kN154
                have kN339 := kN339 n (by omega)
                try simp (maxSteps := 2000000) only [wn] at kN339
                have kN361 := kN361 n (by omega)
                try simp (maxSteps := 2000000) only [wn] at kN361
                have kN379 := kN379 n (by omega)
                try simp (maxSteps := 2000000) only [wn] at kN379
                simp (maxSteps := 2000000) only [W, reduceIte, Nat.reduceEqDiff, Nat.reduceAdd, Nat.reduceSub, Nat.reduceLT, Nat.reduceLeDiff, Nat.reduceMul, a3, kN5, kN11, c13d, kN15, c17d, kN21, kN148, kN152, kN154, kN339, kN361, kN379, c381d, c610d, c611d, c612d, c627d, wd]
          · rw [if_neg c611] at h
            have c611d := df c611
            cases h
            refine ev_call (fn := a3) rfl ⟨N5 + N11 + N15 + N21 + N148 + N152 + N154 + N339 + N361 + N379, fun n hn => ?_⟩
            have kN5 := kN5 n (by omega)
            have kN11 := kN11 n (by omega)
            try simp (maxSteps := 2000000) only [wn] at kN11
            have kN15 := kN15 n (by omega)
            try simp (maxSteps := 2000000) only [wn] at kN15
            have kN21 := kN21 n (by omega)
            try simp (maxSteps := 2000000) only [wn] at kN21
            have kN148 := kN148 n (by omega)
            try simp (maxSteps := 2000000) only [wn] at kN148
            have kN152 := kN152 n (by omega)
            try simp (maxSteps := 2000000) only [wn] at kN152
            have kN154 := kN154 n (by omega)
            try simp (maxSteps := 2000000) only [wn] at kN154
            have kN339 := kN339 n (by omega)
            try simp (maxSteps := 2000000) only [wn] at kN339
            have kN361 := kN361 n (by omega)
            try simp (maxSteps := 2000000) only [wn] at kN361
            have kN379 := kN379 n (by omega)
            try simp (maxSteps := 2000000) only [wn] at kN379
            simp (maxSteps := 2000000) only [W, reduceIte, Nat.reduceEqDiff, Nat.reduceAdd, Nat.reduceSub, Nat.reduceLT, Nat.reduceLeDiff, Nat.reduceMul, a3, kN5, kN11, c13d, kN15, c17d, kN21, kN148, kN152, kN154, kN339, kN361, kN379, c381d, c610d, c611d, wd]
        · rw [if_neg c610] at h
          have c610d := df c610
          cases h
          refine ev_call (fn := a3) rfl ⟨N5 + N11 + N15 + N21 + N148 + N152 + N154 + N339 + N361 + N379, fun n hn => ?_⟩
          have kN5 := kN5 n (by omega)
          have kN11 := kN11 n (by omega)
          try simp (maxSteps := 2000000) only [wn] at kN11
          have kN15 := kN15 n (by omega)
          try simp (maxSteps := 2000000) only [wn] at kN15
          have kN21 := kN21 n (by omega)
          try simp (maxSteps := 2000000) only [wn] at kN21
          have kN148 := kN148 n (by omega)
          try simp (maxSteps := 2000000) only [wn] at kN148
          have kN152 := kN152 n (by omega)
          try simp (maxSteps := 2000000) only [wn] at kN152
          have kN154 := kN154 n (by omega)
          try simp (maxSteps := 2000000) only [wn] at kN154
          have kN339 := kN339 n (by omega)
          try simp (maxSteps := 2000000) only [wn] at kN339
          have kN361 := kN361 n (by omega)
          try simp (maxSteps := 2000000) only [wn] at kN361
          have kN379 := kN379 n (by omega)
          try simp (maxSteps := 2000000) only [wn] at kN379
          simp (maxSteps := 2000000) only [W, reduceIte, Nat.reduceEqDiff, Nat.reduceAdd, Nat.reduceSub, Nat.reduceLT, Nat.reduceLeDiff, Nat.reduceMul, a3, kN5, kN11, c13d, kN15, c17d, kN21, kN148, kN152, kN154, kN339, kN361, kN379, c381d, c610d, wd]
    · rw [if_neg c17] at h
      have c17d := bf c17
      cases h
      refine ev_call (fn := a3) rfl ⟨N5 + N11 + N15, fun n hn => ?_⟩
      have kN5 := kN5 n (by omega)
      have kN11 := kN11 n (by omega)
      try simp (maxSteps := 2000000) only [wn] at kN11
      have kN15 := kN15 n (by omega)
      try simp (maxSteps := 2000000) only [wn] at kN15
      simp (maxSteps := 2000000) only [W, reduceIte, Nat.reduceEqDiff, Nat.reduceAdd, Nat.reduceSub, Nat.reduceLT, Nat.reduceLeDiff, Nat.reduceMul, a3, kN5, kN11, c13d, kN15, c17d, wd]
  · rw [if_neg c13] at h
    have c13d := bf c13
    cases h
    refine ev_call (fn := a3) rfl ⟨N5 + N11, fun n hn => ?_⟩
    have kN5 := kN5 n (by omega)
    have kN11 := kN11 n (by omega)
    try simp (maxSteps := 2000000) only [wn] at kN11
    simp (maxSteps := 2000000) only [W, reduceIte, Nat.reduceEqDiff, Nat.reduceAdd, Nat.reduceSub, Nat.reduceLT, Nat.reduceLeDiff, Nat.reduceMul, a3, kN5, kN11, c13d, wd]
end Go.AI
end
