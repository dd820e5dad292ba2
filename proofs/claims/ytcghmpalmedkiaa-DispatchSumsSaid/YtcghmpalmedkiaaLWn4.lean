import Derived.Test.YtcghmpalmedkiaaLAiY
import Derived.Test.YtcghmpalmedkiaaLAiTab
import Derived.Test.YtcghmpalmedkiaaLAiAwake
import Derived.Test.YtcghmpalmedkiaaLWnF
section
/-
  Functions, walked through: guidevanelaw08.some, guidevanebase.CopyInts, dispatch.within, dispatch.isSized, dispatch.isPower, dispatch.unless, dispatch.powersErr$1, slices.IndexFunc[[]int,int], slices.ContainsFunc[[]int,int], dispatch.first, dispatch.powersErr, dispatch.Followed, dispatch.size.
-/
set_option linter.unusedVariables false
set_option linter.unusedSimpArgs false
set_option maxRecDepth 100000
set_option maxHeartbeats 4000000
namespace Go.AI
theorem c8_0 (z0 : Bool) (v18 : List Int) (h : F8_0 v18 = some ()) : Ev fun n => (ex tab n).call 8 [.slice (.p 0) 0 v18.length v18.length 1 false] [.row z0 true (rowC v18)] = some (.slice (.p 1) 0 v18.length v18.length 1 false, [.row z0 true (rowC v18), .row true true (rowC v18)]) := by
  unfold F8_0 at h
  obtain ⟨g19, h⟩ := un_roomd h
  cases h
  refine ev_call (fn := a8) rfl ⟨0, fun n hn => ?_⟩
  simp (maxSteps := 2000000) only [W, reduceIte, Nat.reduceEqDiff, Nat.reduceAdd, Nat.reduceSub, Nat.reduceLT, Nat.reduceLeDiff, Nat.reduceMul, a8, g19]
theorem c27_0 (v28 : Int) (v29 : Int) (v30 : Int) (r32 : Bool) (h : F27_0 v28 v29 v30 = some r32) : Ev fun n => (ex tab n).call 27 [.int .i64 v28, .int .i64 v29, .int .i64 v30] [] = some (.bool r32, []) := by
  unfold F27_0 at h
  by_cases c31 : v29 ≤ v28
  · rw [if_pos c31] at h
    have c31d := dt c31
    cases h
    refine ev_call (fn := a27) rfl ⟨0, fun n hn => ?_⟩
    simp (maxSteps := 2000000) only [W, reduceIte, Nat.reduceEqDiff, Nat.reduceAdd, Nat.reduceSub, Nat.reduceLT, Nat.reduceLeDiff, Nat.reduceMul, a27, c31d]
  · rw [if_neg c31] at h
    have c31d := df c31
    cases h
    refine ev_call (fn := a27) rfl ⟨0, fun n hn => ?_⟩
    simp (maxSteps := 2000000) only [W, reduceIte, Nat.reduceEqDiff, Nat.reduceAdd, Nat.reduceSub, Nat.reduceLT, Nat.reduceLeDiff, Nat.reduceMul, a27, c31d]
theorem c47_0 (v26 : Int) (v27 : Int) (r36 : Bool) (h : F47_0 v26 v27 = some r36) : Ev fun n => (ex tab n).call 47 [.int .i64 v26, .int .i64 v27] [] = some (.bool r36, []) := by
  unfold F47_0 at h
  obtain ⟨r35, g33, h⟩ := un1 h
  obtain ⟨N34, kN34⟩ := c27_0 v26 (aw .i64 (0 - v27)) v27 _ g33
  cases h
  refine ev_call (fn := a47) rfl ⟨N34, fun n hn => ?_⟩
  have kN34 := kN34 n (by omega)
  try simp (maxSteps := 2000000) only [wn] at kN34
  simp (maxSteps := 2000000) only [W, reduceIte, Nat.reduceEqDiff, Nat.reduceAdd, Nat.reduceSub, Nat.reduceLT, Nat.reduceLeDiff, Nat.reduceMul, a47, kN34]
theorem c26_0 (v25 : Int) (r40 : Bool) (h : F26_0 v25 = some r40) : Ev fun n => (ex tab n).call 26 [.int .i64 v25] [] = some (.bool r40, []) := by
  unfold F26_0 at h
  obtain ⟨r39, g37, h⟩ := un1 h
  obtain ⟨N38, kN38⟩ := c47_0 v25 1000000 _ g37
  cases h
  refine ev_call (fn := a26) rfl ⟨N38, fun n hn => ?_⟩
  have kN38 := kN38 n (by omega)
  try simp (maxSteps := 2000000) only [wn] at kN38
  simp (maxSteps := 2000000) only [W, reduceIte, Nat.reduceEqDiff, Nat.reduceAdd, Nat.reduceSub, Nat.reduceLT, Nat.reduceLeDiff, Nat.reduceMul, a26, kN38]
theorem c25_0 (v48 : Bool) (v49 : Int) (r51 : Int) (h : F25_0 v48 v49 = some r51) : Ev fun n => (ex tab n).call 25 [.bool v48, .int .i64 v49] [] = some (.int .i64 r51, []) := by
  unfold F25_0 at h
  by_cases c50 : v48 = true
  · rw [if_pos c50] at h
    have c50d := c50
    cases h
    refine ev_call (fn := a25) rfl ⟨0, fun n hn => ?_⟩
    simp (maxSteps := 2000000) only [W, reduceIte, Nat.reduceEqDiff, Nat.reduceAdd, Nat.reduceSub, Nat.reduceLT, Nat.reduceLeDiff, Nat.reduceMul, a25, c50d]
  · rw [if_neg c50] at h
    have c50d := bf c50
    cases h
    refine ev_call (fn := a25) rfl ⟨0, fun n hn => ?_⟩
    simp (maxSteps := 2000000) only [W, reduceIte, Nat.reduceEqDiff, Nat.reduceAdd, Nat.reduceSub, Nat.reduceLT, Nat.reduceLeDiff, Nat.reduceMul, a25, c50d]
theorem c49_0 (v65 : Int) (r69 : Bool) (h : F49_0 v65 = some r69) : Ev fun n => (ex tab n).call 49 [.int .i64 v65] [] = some (.bool r69, []) := by
  unfold F49_0 at h
  obtain ⟨r68, g66, h⟩ := un1 h
  obtain ⟨N67, kN67⟩ := c26_0 v65 _ g66
  cases h
  refine ev_call (fn := a49) rfl ⟨N67, fun n hn => ?_⟩
  have kN67 := kN67 n (by omega)
  try simp (maxSteps := 2000000) only [wn] at kN67
  simp (maxSteps := 2000000) only [W, reduceIte, Nat.reduceEqDiff, Nat.reduceAdd, Nat.reduceSub, Nat.reduceLT, Nat.reduceLeDiff, Nat.reduceMul, a49, kN67]
noncomputable def h62l0_0 (z0 : Bool) (v58 : Int) (v60 : List Int) : (Int) → Env × Heap
  | v59 => ([(0, .slice (.p 0) 0 v60.length v60.length 1 false), (1, .func 49 [] []), (7, .int .i64 v58), (8, .int .i64 v59)], [.row z0 true (rowC v60)])
noncomputable def q62l0_0 (z0 : Bool) (v58 : Int) (v60 : List Int) : ((Unit) ⊕ (Int)) → AExit × Env × Heap
  | .inl (_) => (.exit 0, [(4, .undef)], [.row z0 true (rowC v60)])
  | .inr (r74) => (.ret, [(4, .int .i64 r74)], [.row z0 true (rowC v60)])
theorem k62l0_0 (z0 : Bool) (v58 : Int) (v60 : List Int) (s : Int) (o : (Unit) ⊕ (Int)) (h : L62l0_0 v58 v60 s = some o) : Ev fun n => loopAt [0, 1, 7, 8] [4] a62l0b (ex tab n) 1 (h62l0_0 z0 v58 v60 s) = some (q62l0_0 z0 v58 v60 o) := by
  refine iter_sound (S62l0_0 v58 v60) [0, 1, 7, 8] [4] a62l0b 1 (h62l0_0 z0 v58 v60) (q62l0_0 z0 v58 v60) ?_ _ _ _ h
  rintro v59 z h
  simp only [S62l0_0] at h
  by_cases c61 : v58 ≤ v59
  · rw [if_pos c61] at h
    have c61d := dt c61
    cases h
    refine ⟨0, fun n hn => ?_⟩
    simp (maxSteps := 2000000) only [W, reduceIte, Nat.reduceEqDiff, Nat.reduceAdd, Nat.reduceSub, Nat.reduceLT, Nat.reduceLeDiff, Nat.reduceMul, h62l0_0, q62l0_0, a62l0b, c61d]
  · rw [if_neg c61] at h
    have c61d := df c61
    obtain ⟨j62, x63, g64, h⟩ := un2 h
    obtain ⟨g641, g642⟩ := geti_in g64
    have g643 := ac_Int g642
    try simp only [wn] at g641
    obtain ⟨r72, g70, h⟩ := un1 h
    obtain ⟨N71, kN71⟩ := c49_0 x63 _ g70
    by_cases c73 : r72 = true
    · rw [if_pos c73] at h
      have c73d := c73
      cases h
      refine ⟨N71, fun n hn => ?_⟩
      have kN71 := kN71 n (by omega)
      try simp (maxSteps := 2000000) only [wn] at kN71
      simp (maxSteps := 2000000) only [W, reduceIte, Nat.reduceEqDiff, Nat.reduceAdd, Nat.reduceSub, Nat.reduceLT, Nat.reduceLeDiff, Nat.reduceMul, h62l0_0, q62l0_0, a62l0b, c61d, g641, g643, kN71, c73d]
    · rw [if_neg c73] at h
      have c73d := bf c73
      cases h
      refine ⟨N71, fun n hn => ?_⟩
      have kN71 := kN71 n (by omega)
      try simp (maxSteps := 2000000) only [wn] at kN71
      simp (maxSteps := 2000000) only [W, reduceIte, Nat.reduceEqDiff, Nat.reduceAdd, Nat.reduceSub, Nat.reduceLT, Nat.reduceLeDiff, Nat.reduceMul, h62l0_0, q62l0_0, a62l0b, c61d, g641, g643, kN71, c73d]
theorem c62_0 (z0 : Bool) (v57 : List Int) (r78 : Int) (h : F62_0 v57 = some r78) : Ev fun n => (ex tab n).call 62 [.slice (.p 0) 0 v57.length v57.length 1 false, .func 49 [] []] [.row z0 true (rowC v57)] = some (.int .i64 r78, [.row z0 true (rowC v57)]) := by
  unfold F62_0 at h
  obtain ⟨g75_, g75, h⟩ := un1 h
  rcases g75_ with _ | r77
  · dsimp only at h
    have kN76 := k62l0_0 z0 (v57.length : Int) v57 0 _ g75
    obtain ⟨N76, kN76⟩ := kN76
    cases h
    refine ev_call (fn := a62) rfl ⟨N76, fun n hn => ?_⟩
    have kN76 := kN76 n (by omega)
    simp (maxSteps := 2000000) only [h62l0_0, q62l0_0, wn] at kN76
    simp (maxSteps := 2000000) only [W, reduceIte, Nat.reduceEqDiff, Nat.reduceAdd, Nat.reduceSub, Nat.reduceLT, Nat.reduceLeDiff, Nat.reduceMul, a62, a62l0, kN76, @x_loopAt]
  · dsimp only at h
    have kN76 := k62l0_0 z0 (v57.length : Int) v57 0 _ g75
    obtain ⟨N76, kN76⟩ := kN76
    cases h
    refine ev_call (fn := a62) rfl ⟨N76, fun n hn => ?_⟩
    have kN76 := kN76 n (by omega)
    simp (maxSteps := 2000000) only [h62l0_0, q62l0_0, wn] at kN76
    simp (maxSteps := 2000000) only [W, reduceIte, Nat.reduceEqDiff, Nat.reduceAdd, Nat.reduceSub, Nat.reduceLT, Nat.reduceLeDiff, Nat.reduceMul, a62, a62l0, kN76, @x_loopAt]
theorem c48_0 (z0 : Bool) (v56 : List Int) (r82 : Bool) (h : F48_0 v56 = some r82) : Ev fun n => (ex tab n).call 48 [.slice (.p 0) 0 v56.length v56.length 1 false, .func 49 [] []] [.row z0 true (rowC v56)] = some (.bool r82, [.row z0 true (rowC v56)]) := by
  unfold F48_0 at h
  obtain ⟨r81, g79, h⟩ := un1 h
  obtain ⟨N80, kN80⟩ := c62_0 z0 v56 _ g79
  cases h
  refine ev_call (fn := a48) rfl ⟨N80, fun n hn => ?_⟩
  have kN80 := kN80 n (by omega)
  try simp (maxSteps := 2000000) only [wn] at kN80
  simp (maxSteps := 2000000) only [W, reduceIte, Nat.reduceEqDiff, Nat.reduceAdd, Nat.reduceSub, Nat.reduceLT, Nat.reduceLeDiff, Nat.reduceMul, a48, kN80]
noncomputable def h24l0_0 (z0 : Bool) (v93 : Int) (v95 : List Int) : (Int) → Env × Heap
  | v94 => ([(5, .slice (.p 0) 0 v95.length v95.length 1 false), (6, .int .i64 v93), (7, .int .i64 v94)], [.row z0 true (rowC v95)])
noncomputable def q24l0_0 (z0 : Bool) (v93 : Int) (v95 : List Int) : ((Unit) ⊕ (Int)) → AExit × Env × Heap
  | .inl (_) => (.exit 0, [(2, .undef)], [.row z0 true (rowC v95)])
  | .inr (r101) => (.ret, [(2, .int .i64 r101)], [.row z0 true (rowC v95)])
theorem k24l0_0 (z0 : Bool) (v93 : Int) (v95 : List Int) (s : Int) (o : (Unit) ⊕ (Int)) (h : L24l0_0 v93 v95 s = some o) : Ev fun n => loopAt [5, 6, 7] [2] a24l0b (ex tab n) 1 (h24l0_0 z0 v93 v95 s) = some (q24l0_0 z0 v93 v95 o) := by
  refine iter_sound (S24l0_0 v93 v95) [5, 6, 7] [2] a24l0b 1 (h24l0_0 z0 v93 v95) (q24l0_0 z0 v93 v95) ?_ _ _ _ h
  rintro v94 z h
  simp only [S24l0_0] at h
  by_cases c96 : v93 ≤ v94
  · rw [if_pos c96] at h
    have c96d := dt c96
    cases h
    refine ⟨0, fun n hn => ?_⟩
    simp (maxSteps := 2000000) only [W, reduceIte, Nat.reduceEqDiff, Nat.reduceAdd, Nat.reduceSub, Nat.reduceLT, Nat.reduceLeDiff, Nat.reduceMul, h24l0_0, q24l0_0, a24l0b, c96d]
  · rw [if_neg c96] at h
    have c96d := df c96
    obtain ⟨j97, x98, g99, h⟩ := un2 h
    obtain ⟨g991, g992⟩ := geti_in g99
    have g993 := ac_Int g992
    try simp only [wn] at g991
    by_cases c100 : x98 = 0
    · rw [if_pos c100] at h
      have c100d := dt c100
      cases h
      refine ⟨0, fun n hn => ?_⟩
      simp (maxSteps := 2000000) only [W, reduceIte, Nat.reduceEqDiff, Nat.reduceAdd, Nat.reduceSub, Nat.reduceLT, Nat.reduceLeDiff, Nat.reduceMul, h24l0_0, q24l0_0, a24l0b, c96d, g991, g993, c100d]
    · rw [if_neg c100] at h
      have c100d := df c100
      cases h
      refine ⟨0, fun n hn => ?_⟩
      simp (maxSteps := 2000000) only [W, reduceIte, Nat.reduceEqDiff, Nat.reduceAdd, Nat.reduceSub, Nat.reduceLT, Nat.reduceLeDiff, Nat.reduceMul, h24l0_0, q24l0_0, a24l0b, c96d, g991, g993, c100d]
theorem c24_0 (z0 : Bool) (v92 : List Int) (r105 : Int) (h : F24_0 v92 = some r105) : Ev fun n => (ex tab n).call 24 [.slice (.p 0) 0 v92.length v92.length 1 false] [.row z0 true (rowC v92)] = some (.int .i64 r105, [.row z0 true (rowC v92)]) := by
  unfold F24_0 at h
  obtain ⟨g102_, g102, h⟩ := un1 h
  rcases g102_ with _ | r104
  · dsimp only at h
    have kN103 := k24l0_0 z0 (v92.length : Int) v92 0 _ g102
    obtain ⟨N103, kN103⟩ := kN103
    cases h
    refine ev_call (fn := a24) rfl ⟨N103, fun n hn => ?_⟩
    have kN103 := kN103 n (by omega)
    simp (maxSteps := 2000000) only [h24l0_0, q24l0_0, wn] at kN103
    simp (maxSteps := 2000000) only [W, reduceIte, Nat.reduceEqDiff, Nat.reduceAdd, Nat.reduceSub, Nat.reduceLT, Nat.reduceLeDiff, Nat.reduceMul, a24, a24l0, kN103, @x_loopAt]
  · dsimp only at h
    have kN103 := k24l0_0 z0 (v92.length : Int) v92 0 _ g102
    obtain ⟨N103, kN103⟩ := kN103
    cases h
    refine ev_call (fn := a24) rfl ⟨N103, fun n hn => ?_⟩
    have kN103 := kN103 n (by omega)
    simp (maxSteps := 2000000) only [h24l0_0, q24l0_0, wn] at kN103
    simp (maxSteps := 2000000) only [W, reduceIte, Nat.reduceEqDiff, Nat.reduceAdd, Nat.reduceSub, Nat.reduceLT, Nat.reduceLeDiff, Nat.reduceMul, a24, a24l0, kN103, @x_loopAt]
theorem c28_0 (z0 : Bool) (v55 : List Int) (r109 : Int) (h : F28_0 v55 = some r109) : Ev fun n => (ex tab n).call 28 [.slice (.p 0) 0 v55.length v55.length 1 false] [.row z0 true (rowC v55)] = some (.int .i64 r109, [.row z0 true (rowC v55)]) := by
  unfold F28_0 at h
  obtain ⟨r85, g83, h⟩ := un1 h
  obtain ⟨N84, kN84⟩ := c48_0 z0 v55 _ g83
  obtain ⟨r88, g86, h⟩ := un1 h
  obtain ⟨N87, kN87⟩ := c25_0 (decide ((v55.length : Int) ≤ 300)) 8 _ g86
  obtain ⟨r91, g89, h⟩ := un1 h
  obtain ⟨N90, kN90⟩ := c25_0 (!r85) 2 _ g89
  obtain ⟨r108, g106, h⟩ := un1 h
  obtain ⟨N107, kN107⟩ := c24_0 true ([r88, r91] : List Int) _ g106
  cases h
  refine ev_call (fn := a28) rfl ⟨N84 + N87 + N90 + N107, fun n hn => ?_⟩
  have kN84 := kN84 n (by omega)
  try simp (maxSteps := 2000000) only [wn] at kN84
  have kN87 := kN87 n (by omega)
  try simp (maxSteps := 2000000) only [wn] at kN87
  have kN90 := kN90 n (by omega)
  try simp (maxSteps := 2000000) only [wn] at kN90
  have kN107 := kN107 n (by omega)
  try simp (maxSteps := 2000000) only [wn] at kN107
  simp (maxSteps := 2000000) only [W, reduceIte, Nat.reduceEqDiff, Nat.reduceAdd, Nat.reduceSub, Nat.reduceLT, Nat.reduceLeDiff, Nat.reduceMul, a28, kN84, kN87, kN90, kN107]
noncomputable def h7l0_0 (z0 : Bool) (v118 : Int) (v119 : Int) (v121 : List Int) : (Int × Int × (List Int)) → Env × Heap
  | (v117, v120, v122) => ([(0, .int .i64 v117), (1, .int .i64 v118), (9, .slice (.p 1) 0 v122.length v122.length 1 false), (26, .slice (.p 0) 0 v121.length v121.length 1 false), (27, .int .i64 v119), (28, .int .i64 v120)], [.row z0 true (rowC v121), .row true true (rowC v122)])
noncomputable def q7l0_0 (z0 : Bool) (v118 : Int) (v119 : Int) (v121 : List Int) : ((List Int)) → AExit × Env × Heap
  | r128 => (.exit 0, [(6, .undef), (7, .undef), (9, .slice (.p 1) 0 r128.length r128.length 1 false)], [.row z0 true (rowC v121), .row true true (rowC r128)])
theorem k7l0_0 (z0 : Bool) (v118 : Int) (v119 : Int) (v121 : List Int) (s : Int × Int × (List Int)) (o : (List Int)) (h : L7l0_0 v118 v119 v121 s = some o) : Ev fun n => loopAt [0, 1, 9, 26, 27, 28] [6, 7, 9] a7l0b (ex tab n) 1 (h7l0_0 z0 v118 v119 v121 s) = some (q7l0_0 z0 v118 v119 v121 o) := by
  refine iter_sound (S7l0_0 v118 v119 v121) [0, 1, 9, 26, 27, 28] [6, 7, 9] a7l0b 1 (h7l0_0 z0 v118 v119 v121) (q7l0_0 z0 v118 v119 v121) ?_ _ _ _ h
  rintro ⟨v117, v120, v122⟩ z h
  simp only [S7l0_0] at h
  by_cases c123 : v119 ≤ v120
  · rw [if_pos c123] at h
    have c123d := dt c123
    cases h
    refine ⟨0, fun n hn => ?_⟩
    simp (maxSteps := 2000000) only [W, reduceIte, Nat.reduceEqDiff, Nat.reduceAdd, Nat.reduceSub, Nat.reduceLT, Nat.reduceLeDiff, Nat.reduceMul, h7l0_0, q7l0_0, a7l0b, c123d]
  · rw [if_neg c123] at h
    have c123d := df c123
    obtain ⟨j124, x125, g126, h⟩ := un2 h
    obtain ⟨g1261, g1262⟩ := geti_in g126
    have g1263 := ac_Int g1262
    try simp only [wn] at g1261
    obtain ⟨g127, h⟩ := un_roomd h
    cases h
    refine ⟨0, fun n hn => ?_⟩
    simp (maxSteps := 2000000) only [W, reduceIte, Nat.reduceEqDiff, Nat.reduceAdd, Nat.reduceSub, Nat.reduceLT, Nat.reduceLeDiff, Nat.reduceMul, h7l0_0, q7l0_0, a7l0b, c123d, g1261, g1263, g127]
theorem c7_0 (z0 : Bool) (v22 : Int) (v23 : Int) (v24 : List Int) (r145 : Int) (r146 : List Int) (h : F7_0 v22 v23 v24 = some (r145, r146)) : Ev fun n => (ex tab n).call 7 [.int .i64 v22, .int .i64 v23, .slice (.p 0) 0 v24.length v24.length 1 false] [.row z0 true (rowC v24)] = some (.tup [.slice (.p 1) 0 r146.length r146.length 1 false, .int .i64 r145], [.row z0 true (rowC v24), .row true true (rowC r146)]) := by
  unfold F7_0 at h
  obtain ⟨r43, g41, h⟩ := un1 h
  obtain ⟨N42, kN42⟩ := c26_0 v22 _ g41
  by_cases c44 : r43 = true
  · rw [if_pos c44] at h
    have c44d := c44
    obtain ⟨r47, g45, h⟩ := un1 h
    obtain ⟨N46, kN46⟩ := c27_0 v23 0 1000000 _ g45
    obtain ⟨r54, g52, h⟩ := un1 h
    obtain ⟨N53, kN53⟩ := c25_0 r47 2 _ g52
    obtain ⟨r112, g110, h⟩ := un1 h
    obtain ⟨N111, kN111⟩ := c28_0 z0 v24 _ g110
    obtain ⟨r115, g113, h⟩ := un1 h
    obtain ⟨N114, kN114⟩ := c24_0 true ([r54, r112] : List Int) _ g113
    by_cases c116 : r115 = 0
    · rw [if_pos c116] at h
      have c116d := dt c116
      obtain ⟨r131, g129, h⟩ := un1 h
      have kN130 := k7l0_0 z0 v23 (v24.length : Int) v24 (v22, 0, ([] : List Int)) _ g129
      obtain ⟨N130, kN130⟩ := kN130
      cases h
      refine ev_call (fn := a7) rfl ⟨N42 + N46 + N53 + N111 + N114 + N130, fun n hn => ?_⟩
      have kN42 := kN42 n (by omega)
      try simp (maxSteps := 2000000) only [wn] at kN42
      have kN46 := kN46 n (by omega)
      try simp (maxSteps := 2000000) only [wn] at kN46
      have kN53 := kN53 n (by omega)
      try simp (maxSteps := 2000000) only [wn] at kN53
      have kN111 := kN111 n (by omega)
      try simp (maxSteps := 2000000) only [wn] at kN111
      have kN114 := kN114 n (by omega)
      try simp (maxSteps := 2000000) only [wn] at kN114
      have kN130 := kN130 n (by omega)
      simp (maxSteps := 2000000) only [h7l0_0, q7l0_0, wn] at kN130
      simp (maxSteps := 2000000) only [W, reduceIte, Nat.reduceEqDiff, Nat.reduceAdd, Nat.reduceSub, Nat.reduceLT, Nat.reduceLeDiff, Nat.reduceMul, a7, a7l0, kN42, c44d, kN46, kN53, kN111, kN114, c116d, kN130, @x_loopAt]
    · rw [if_neg c116] at h
      have c116d := df c116
      cases h
      refine ev_call (fn := a7) rfl ⟨N42 + N46 + N53 + N111 + N114, fun n hn => ?_⟩
      have kN42 := kN42 n (by omega)
      try simp (maxSteps := 2000000) only [wn] at kN42
      have kN46 := kN46 n (by omega)
      try simp (maxSteps := 2000000) only [wn] at kN46
      have kN53 := kN53 n (by omega)
      try simp (maxSteps := 2000000) only [wn] at kN53
      have kN111 := kN111 n (by omega)
      try simp (maxSteps := 2000000) only [wn] at kN111
      have kN114 := kN114 n (by omega)
      try simp (maxSteps := 2000000) only [wn] at kN114
      simp (maxSteps := 2000000) only [W, reduceIte, Nat.reduceEqDiff, Nat.reduceAdd, Nat.reduceSub, Nat.reduceLT, Nat.reduceLeDiff, Nat.reduceMul, a7, a7l0, kN42, c44d, kN46, kN53, kN111, kN114, c116d, @x_loopAt]
  · rw [if_neg c44] at h
    have c44d := bf c44
    obtain ⟨r134, g132, h⟩ := un1 h
    obtain ⟨N133, kN133⟩ := c25_0 false 2 _ g132
    obtain ⟨r137, g135, h⟩ := un1 h
    obtain ⟨N136, kN136⟩ := c28_0 z0 v24 _ g135
    obtain ⟨r140, g138, h⟩ := un1 h
    obtain ⟨N139, kN139⟩ := c24_0 true ([r134, r137] : List Int) _ g138
    by_cases c141 : r140 = 0
    · rw [if_pos c141] at h
      have c141d := dt c141
      obtain ⟨r144, g142, h⟩ := un1 h
      have kN143 := k7l0_0 z0 v23 (v24.length : Int) v24 (v22, 0, ([] : List Int)) _ g142
      obtain ⟨N143, kN143⟩ := kN143
      cases h
      refine ev_call (fn := a7) rfl ⟨N42 + N133 + N136 + N139 + N143, fun n hn => ?_⟩
      have kN42 := kN42 n (by omega)
      try simp (maxSteps := 2000000) only [wn] at kN42
      have kN133 := kN133 n (by omega)
      try simp (maxSteps := 2000000) only [wn] at kN133
      have kN136 := kN136 n (by omega)
      try simp (maxSteps := 2000000) only [wn] at kN136
      have kN139 := kN139 n (by omega)
      try simp (maxSteps := 2000000) only [wn] at kN139
      have kN143 := kN143 n (by omega)
      simp (maxSteps := 2000000) only [h7l0_0, q7l0_0, wn] at kN143
      simp (maxSteps := 2000000) only [W, reduceIte, Nat.reduceEqDiff, Nat.reduceAdd, Nat.reduceSub, Nat.reduceLT, Nat.reduceLeDiff, Nat.reduceMul, a7, a7l0, kN42, c44d, kN133, kN136, kN139, c141d, kN143, @x_loopAt]
    · rw [if_neg c141] at h
      have c141d := df c141
      cases h
      refine ev_call (fn := a7) rfl ⟨N42 + N133 + N136 + N139, fun n hn => ?_⟩
      have kN42 := kN42 n (by omega)
      try simp (maxSteps := 2000000) only [wn] at kN42
      have kN133 := kN133 n (by omega)
      try simp (maxSteps := 2000000) only [wn] at kN133
      have kN136 := kN136 n (by omega)
      try simp (maxSteps := 2000000) only [wn] at kN136
      have kN139 := kN139 n (by omega)
      try simp (maxSteps := 2000000) only [wn] at kN139
      simp (maxSteps := 2000000) only [W, reduceIte, Nat.reduceEqDiff, Nat.reduceAdd, Nat.reduceSub, Nat.reduceLT, Nat.reduceLeDiff, Nat.reduceMul, a7, a7l0, kN42, c44d, kN133, kN136, kN139, c141d, @x_loopAt]
theorem c29_0 (v189 : Int) (r190 : Int) (h : F29_0 v189 = some r190) : Ev fun n => (ex tab n).call 29 [.int .i64 v189] [] = some (.int .i64 r190, []) := by
  unfold F29_0 at h
  cases h
  refine ev_call (fn := a29) rfl ⟨0, fun n hn => ?_⟩
  simp (maxSteps := 2000000) only [W, reduceIte, Nat.reduceEqDiff, Nat.reduceAdd, Nat.reduceSub, Nat.reduceLT, Nat.reduceLeDiff, Nat.reduceMul, a29]
noncomputable def h9l0_0 (z0 : Bool) (z1 : Bool) (v249 : Int) (v251 : List Int) (v252 : List Int) : (Int × Int × Int × Int) → Env × Heap
  | (v250, v256, v257, v258) => ([(1, .slice (.p 1) 0 v252.length v252.length 1 false), (4, .ptr (.p 2) 0), (7, .ptr (.p 3) 0), (28, .slice (.p 0) 0 v251.length v251.length 1 false), (29, .int .i64 v249), (30, .int .i64 v250)], [.row z0 true (rowC v251), .row z1 true (rowC v252), .row true true [.int .i64 0, .int .i64 0, .int .i64 0], .row true true [.int .i64 v256, .int .i64 v257, .int .i64 v258]])
noncomputable def q9l0_0 (z0 : Bool) (z1 : Bool) (v249 : Int) (v251 : List Int) (v252 : List Int) : (Int × Int × Int) → AExit × Env × Heap
  | (r326, r327, r328) => (.exit 0, [(4, .ptr (.p 2) 0), (5, .undef), (7, .ptr (.p 3) 0)], [.row z0 true (rowC v251), .row z1 true (rowC v252), .row true true [.int .i64 0, .int .i64 0, .int .i64 0], .row true true [.int .i64 r326, .int .i64 r327, .int .i64 r328]])
theorem k9l0_0 (z0 : Bool) (z1 : Bool) (v249 : Int) (v251 : List Int) (v252 : List Int) (s : Int × Int × Int × Int) (o : Int × Int × Int) (h : L9l0_0 v249 v251 v252 s = some o) : Ev fun n => loopAt [1, 4, 7, 28, 29, 30] [4, 5, 7] a9l0b (ex tab n) 2 (h9l0_0 z0 z1 v249 v251 v252 s) = some (q9l0_0 z0 z1 v249 v251 v252 o) := by
  refine iter_sound (S9l0_0 v249 v251 v252) [1, 4, 7, 28, 29, 30] [4, 5, 7] a9l0b 2 (h9l0_0 z0 z1 v249 v251 v252) (q9l0_0 z0 z1 v249 v251 v252) ?_ _ _ _ h
  rintro ⟨v250, v256, v257, v258⟩ z h
  simp only [S9l0_0] at h
  by_cases c259 : v249 ≤ v250
  · rw [if_pos c259] at h
    have c259d := dt c259
    cases h
    refine ⟨0, fun n hn => ?_⟩
    simp (maxSteps := 2000000) only [W, reduceIte, Nat.reduceEqDiff, Nat.reduceAdd, Nat.reduceSub, Nat.reduceLT, Nat.reduceLeDiff, Nat.reduceMul, h9l0_0, q9l0_0, a9l0b, c259d, wd]
  · rw [if_neg c259] at h
    have c259d := df c259
    obtain ⟨j260, x261, g262, h⟩ := un2 h
    obtain ⟨g2621, g2622⟩ := geti_in g262
    have g2623 := ac_Int g2622
    try simp only [wn] at g2621
    obtain ⟨j263, x264, g265, h⟩ := un2 h
    obtain ⟨g2651, g2652⟩ := geti_in g265
    have g2653 := ac_Int g2652
    try simp only [wn] at g2651
    by_cases c266 : x261 ≤ 0
    · rw [if_pos c266] at h
      have c266d := dt c266
      by_cases c267 : 0 ≤ x261
      · rw [if_pos c267] at h
        have c267d := dt c267
        obtain ⟨r270, g268, h⟩ := un1 h
        obtain ⟨N269, kN269⟩ := c29_0 x261 _ g268
        obtain ⟨r273, g271, h⟩ := un1 h
        obtain ⟨N272, kN272⟩ := c29_0 x264 _ g271
        cases h
        refine ⟨N269 + N272, fun n hn => ?_⟩
        have kN269 := kN269 n (by omega)
        try simp (maxSteps := 2000000) only [wn] at kN269
        have kN272 := kN272 n (by omega)
        try simp (maxSteps := 2000000) only [wn] at kN272
        simp (maxSteps := 2000000) only [W, reduceIte, Nat.reduceEqDiff, Nat.reduceAdd, Nat.reduceSub, Nat.reduceLT, Nat.reduceLeDiff, Nat.reduceMul, h9l0_0, q9l0_0, a9l0b, c259d, g2621, g2623, g2651, g2653, c266d, c267d, kN269, kN272, wd]
      · rw [if_neg c267] at h
        have c267d := df c267
        by_cases c274 : 0 ≤ x264
        · rw [if_pos c274] at h
          have c274d := dt c274
          obtain ⟨r277, g275, h⟩ := un1 h
          obtain ⟨N276, kN276⟩ := c29_0 x261 _ g275
          obtain ⟨r280, g278, h⟩ := un1 h
          obtain ⟨N279, kN279⟩ := c29_0 x264 _ g278
          cases h
          refine ⟨N276 + N279, fun n hn => ?_⟩
          have kN276 := kN276 n (by omega)
          try simp (maxSteps := 2000000) only [wn] at kN276
          have kN279 := kN279 n (by omega)
          try simp (maxSteps := 2000000) only [wn] at kN279
          simp (maxSteps := 2000000) only [W, reduceIte, Nat.reduceEqDiff, Nat.reduceAdd, Nat.reduceSub, Nat.reduceLT, Nat.reduceLeDiff, Nat.reduceMul, h9l0_0, q9l0_0, a9l0b, c259d, g2621, g2623, g2651, g2653, c266d, c267d, c274d, kN276, kN279, wd]
        · rw [if_neg c274] at h
          have c274d := df c274
          obtain ⟨r283, g281, h⟩ := un1 h
          obtain ⟨N282, kN282⟩ := c29_0 x261 _ g281
          obtain ⟨r286, g284, h⟩ := un1 h
          obtain ⟨N285, kN285⟩ := c29_0 x264 _ g284
          cases h
          refine ⟨N282 + N285, fun n hn => ?_⟩
          have kN282 := kN282 n (by omega)
          try simp (maxSteps := 2000000) only [wn] at kN282
          have kN285 := kN285 n (by omega)
          try simp (maxSteps := 2000000) only [wn] at kN285
          simp (maxSteps := 2000000) only [W, reduceIte, Nat.reduceEqDiff, Nat.reduceAdd, Nat.reduceSub, Nat.reduceLT, Nat.reduceLeDiff, Nat.reduceMul, h9l0_0, q9l0_0, a9l0b, c259d, g2621, g2623, g2651, g2653, c266d, c267d, c274d, kN282, kN285, wd]
    · rw [if_neg c266] at h
      have c266d := df c266
      by_cases c291 : x264 ≤ 0
      · rw [if_pos c291] at h
        have c291d := dt c291
        by_cases c292 : 0 ≤ x261
        · rw [if_pos c292] at h
          have c292d := dt c292
          obtain ⟨r295, g293, h⟩ := un1 h
          obtain ⟨N294, kN294⟩ := c29_0 x261 _ g293
          obtain ⟨r298, g296, h⟩ := un1 h
          obtain ⟨N297, kN297⟩ := c29_0 x264 _ g296
          cases h
          refine ⟨N294 + N297, fun n hn => ?_⟩
          have kN294 := kN294 n (by omega)
          try simp (maxSteps := 2000000) only [wn] at kN294
          have kN297 := kN297 n (by omega)
          try simp (maxSteps := 2000000) only [wn] at kN297
          simp (maxSteps := 2000000) only [W, reduceIte, Nat.reduceEqDiff, Nat.reduceAdd, Nat.reduceSub, Nat.reduceLT, Nat.reduceLeDiff, Nat.reduceMul, h9l0_0, q9l0_0, a9l0b, c259d, g2621, g2623, g2651, g2653, c266d, c291d, c292d, kN294, kN297, wd]
        · rw [if_neg c292] at h
          have c292d := df c292
          by_cases c299 : 0 ≤ x264
          · rw [if_pos c299] at h
            have c299d := dt c299
            obtain ⟨r302, g300, h⟩ := un1 h
            obtain ⟨N301, kN301⟩ := c29_0 x261 _ g300
            obtain ⟨r305, g303, h⟩ := un1 h
            obtain ⟨N304, kN304⟩ := c29_0 x264 _ g303
            cases h
            refine ⟨N301 + N304, fun n hn => ?_⟩
            have kN301 := kN301 n (by omega)
            try simp (maxSteps := 2000000) only [wn] at kN301
            have kN304 := kN304 n (by omega)
            try simp (maxSteps := 2000000) only [wn] at kN304
            simp (maxSteps := 2000000) only [W, reduceIte, Nat.reduceEqDiff, Nat.reduceAdd, Nat.reduceSub, Nat.reduceLT, Nat.reduceLeDiff, Nat.reduceMul, h9l0_0, q9l0_0, a9l0b, c259d, g2621, g2623, g2651, g2653, c266d, c291d, c292d, c299d, kN301, kN304, wd]
          · rw [if_neg c299] at h
            have c299d := df c299
            obtain ⟨r308, g306, h⟩ := un1 h
            obtain ⟨N307, kN307⟩ := c29_0 x261 _ g306
            obtain ⟨r311, g309, h⟩ := un1 h
            obtain ⟨N310, kN310⟩ := c29_0 x264 _ g309
            cases h
            refine ⟨N307 + N310, fun n hn => ?_⟩
            have kN307 := kN307 n (by omega)
            try simp (maxSteps := 2000000) only [wn] at kN307
            have kN310 := kN310 n (by omega)
            try simp (maxSteps := 2000000) only [wn] at kN310
            simp (maxSteps := 2000000) only [W, reduceIte, Nat.reduceEqDiff, Nat.reduceAdd, Nat.reduceSub, Nat.reduceLT, Nat.reduceLeDiff, Nat.reduceMul, h9l0_0, q9l0_0, a9l0b, c259d, g2621, g2623, g2651, g2653, c266d, c291d, c292d, c299d, kN307, kN310, wd]
      · rw [if_neg c291] at h
        have c291d := df c291
        obtain ⟨r318, g316, h⟩ := un1 h
        obtain ⟨N317, kN317⟩ := c29_0 x261 _ g316
        obtain ⟨r321, g319, h⟩ := un1 h
        obtain ⟨N320, kN320⟩ := c29_0 x264 _ g319
        cases h
        refine ⟨N317 + N320, fun n hn => ?_⟩
        have kN317 := kN317 n (by omega)
        try simp (maxSteps := 2000000) only [wn] at kN317
        have kN320 := kN320 n (by omega)
        try simp (maxSteps := 2000000) only [wn] at kN320
        simp (maxSteps := 2000000) only [W, reduceIte, Nat.reduceEqDiff, Nat.reduceAdd, Nat.reduceSub, Nat.reduceLT, Nat.reduceLeDiff, Nat.reduceMul, h9l0_0, q9l0_0, a9l0b, c259d, g2621, g2623, g2651, g2653, c266d, c291d, kN317, kN320, wd]
end Go.AI
end
section
/-
  Functions, walked through: dispatch.SettledOf, guidevanebase.Within, guidevaneref08.RampErr, guidevaneref08.PowersErr, guidevaneref08.Followed, guidevanebase.Ints, guidevanebase.Size, guidevaneref08.Settled.
-/
set_option linter.unusedVariables false
set_option linter.unusedSimpArgs false
set_option maxRecDepth 100000
set_option maxHeartbeats 4000000
namespace Go.AI
theorem c9_0 (z0 : Bool) (z1 : Bool) (v155 : List Int) (v156 : List Int) (r334 : Int) (r335 : Int) (r336 : Int) (r337 : Int) (h : F9_0 v155 v156 = some (r334, r335, r336, r337)) : Ev fun n => (ex tab n).call 9 [.slice (.p 0) 0 v155.length v155.length 1 false, .slice (.p 1) 0 v156.length v156.length 1 false] [.row z0 true (rowC v155), .row z1 true (rowC v156)] = some (.tup [.agg [.int .i64 r334, .int .i64 r335, .int .i64 r336], .int .i64 r337], [.row z0 true (rowC v155), .row z1 true (rowC v156)]) := by
  unfold F9_0 at h
  obtain ⟨r159, g157, h⟩ := un1 h
  obtain ⟨N158, kN158⟩ := c28_0 z0 v155 _ g157
  obtain ⟨r162, g160, h⟩ := un1 h
  obtain ⟨N161, kN161⟩ := c28_0 z1 v156 _ g160
  obtain ⟨r165, g163, h⟩ := un1 h
  obtain ⟨N164, kN164⟩ := c25_0 (decide ((v155.length : Int) = (v156.length : Int))) 10 _ g163
  obtain ⟨r168, g166, h⟩ := un1 h
  obtain ⟨N167, kN167⟩ := c24_0 true ([r159, r162, r165] : List Int) _ g166
  by_cases c169 : r168 = 0
  · rw [if_pos c169] at h
    have c169d := dt c169
    obtain ⟨r331, r332, r333, g329, h⟩ := un3 h
    have kN330 := k9l0_0 z0 z1 (v155.length : Int) v155 v156 (0, 0, 0, 0) _ g329
    obtain ⟨N330, kN330⟩ := kN330
    cases h
    refine ev_call (fn := a9) rfl ⟨N158 + N161 + N164 + N167 + N330, fun n hn => ?_⟩
    have kN158 := kN158 n (by omega)
    try simp (maxSteps := 2000000) only [wn] at kN158
    have kN161 := kN161 n (by omega)
    try simp (maxSteps := 2000000) only [wn] at kN161
    have kN164 := kN164 n (by omega)
    try simp (maxSteps := 2000000) only [wn] at kN164
    have kN167 := kN167 n (by omega)
    try simp (maxSteps := 2000000) only [wn] at kN167
    have kN330 := kN330 n (by omega)
    simp (maxSteps := 2000000) only [h9l0_0, q9l0_0, wn] at kN330
    simp (maxSteps := 2000000) only [W, reduceIte, Nat.reduceEqDiff, Nat.reduceAdd, Nat.reduceSub, Nat.reduceLT, Nat.reduceLeDiff, Nat.reduceMul, a9, a9l0, kN158, kN161, kN164, kN167, c169d, kN330, @x_loopAt]
  · rw [if_neg c169] at h
    have c169d := df c169
    cases h
    refine ev_call (fn := a9) rfl ⟨N158 + N161 + N164 + N167, fun n hn => ?_⟩
    have kN158 := kN158 n (by omega)
    try simp (maxSteps := 2000000) only [wn] at kN158
    have kN161 := kN161 n (by omega)
    try simp (maxSteps := 2000000) only [wn] at kN161
    have kN164 := kN164 n (by omega)
    try simp (maxSteps := 2000000) only [wn] at kN164
    have kN167 := kN167 n (by omega)
    try simp (maxSteps := 2000000) only [wn] at kN167
    simp (maxSteps := 2000000) only [W, reduceIte, Nat.reduceEqDiff, Nat.reduceAdd, Nat.reduceSub, Nat.reduceLT, Nat.reduceLeDiff, Nat.reduceMul, a9, a9l0, kN158, kN161, kN164, kN167, c169d, @x_loopAt]
theorem c16_0 (v346 : Int) (v347 : Int) (v348 : Int) (r350 : Bool) (h : F16_0 v346 v347 v348 = some r350) : Ev fun n => (ex tab n).call 16 [.int .i64 v346, .int .i64 v347, .int .i64 v348] [] = some (.bool r350, []) := by
  unfold F16_0 at h
  by_cases c349 : v347 ≤ v346
  · rw [if_pos c349] at h
    have c349d := dt c349
    cases h
    refine ev_call (fn := a16) rfl ⟨0, fun n hn => ?_⟩
    simp (maxSteps := 2000000) only [W, reduceIte, Nat.reduceEqDiff, Nat.reduceAdd, Nat.reduceSub, Nat.reduceLT, Nat.reduceLeDiff, Nat.reduceMul, a16, c349d]
  · rw [if_neg c349] at h
    have c349d := df c349
    cases h
    refine ev_call (fn := a16) rfl ⟨0, fun n hn => ?_⟩
    simp (maxSteps := 2000000) only [W, reduceIte, Nat.reduceEqDiff, Nat.reduceAdd, Nat.reduceSub, Nat.reduceLT, Nat.reduceLeDiff, Nat.reduceMul, a16, c349d]
theorem c10_0 (v344 : Int) (v345 : Int) (r359 : Int) (h : F10_0 v344 v345 = some r359) : Ev fun n => (ex tab n).call 10 [.int .i64 v344, .int .i64 v345] [] = some (.int .i64 r359, []) := by
  unfold F10_0 at h
  obtain ⟨r353, g351, h⟩ := un1 h
  obtain ⟨N352, kN352⟩ := c16_0 v344 (-1000000) 1000000 _ g351
  by_cases c354 : r353 = true
  · rw [if_pos c354] at h
    have c354d := c354
    obtain ⟨r357, g355, h⟩ := un1 h
    obtain ⟨N356, kN356⟩ := c16_0 v345 0 1000000 _ g355
    by_cases c358 : r357 = true
    · rw [if_pos c358] at h
      have c358d := c358
      cases h
      refine ev_call (fn := a10) rfl ⟨N352 + N356, fun n hn => ?_⟩
      have kN352 := kN352 n (by omega)
      try simp (maxSteps := 2000000) only [wn] at kN352
      have kN356 := kN356 n (by omega)
      try simp (maxSteps := 2000000) only [wn] at kN356
      simp (maxSteps := 2000000) only [W, reduceIte, Nat.reduceEqDiff, Nat.reduceAdd, Nat.reduceSub, Nat.reduceLT, Nat.reduceLeDiff, Nat.reduceMul, a10, kN352, c354d, kN356, c358d]
    · rw [if_neg c358] at h
      have c358d := bf c358
      cases h
      refine ev_call (fn := a10) rfl ⟨N352 + N356, fun n hn => ?_⟩
      have kN352 := kN352 n (by omega)
      try simp (maxSteps := 2000000) only [wn] at kN352
      have kN356 := kN356 n (by omega)
      try simp (maxSteps := 2000000) only [wn] at kN356
      simp (maxSteps := 2000000) only [W, reduceIte, Nat.reduceEqDiff, Nat.reduceAdd, Nat.reduceSub, Nat.reduceLT, Nat.reduceLeDiff, Nat.reduceMul, a10, kN352, c354d, kN356, c358d]
  · rw [if_neg c354] at h
    have c354d := bf c354
    cases h
    refine ev_call (fn := a10) rfl ⟨N352, fun n hn => ?_⟩
    have kN352 := kN352 n (by omega)
    try simp (maxSteps := 2000000) only [wn] at kN352
    simp (maxSteps := 2000000) only [W, reduceIte, Nat.reduceEqDiff, Nat.reduceAdd, Nat.reduceSub, Nat.reduceLT, Nat.reduceLeDiff, Nat.reduceMul, a10, kN352, c354d]
noncomputable def h11l0_0 (z0 : Bool) (v366 : List Int) : (Int) → Env × Heap
  | v365 => ([(0, .slice (.p 0) 0 v366.length v366.length 1 false), (3, .int .i64 v365)], [.row z0 true (rowC v366)])
noncomputable def q11l0_0 (z0 : Bool) (v366 : List Int) : ((Unit) ⊕ (Unit)) → AExit × Env × Heap
  | .inl (_) => (.exit 0, [(2, .undef)], [.row z0 true (rowC v366)])
  | .inr (_) => (.ret, [(2, .int .i64 2)], [.row z0 true (rowC v366)])
theorem k11l0_0 (z0 : Bool) (v366 : List Int) (s : Int) (o : (Unit) ⊕ (Unit)) (h : L11l0_0 v366 s = some o) : Ev fun n => loopAt [0, 3] [2] a11l0b (ex tab n) 1 (h11l0_0 z0 v366 s) = some (q11l0_0 z0 v366 o) := by
  refine iter_sound (S11l0_0 v366) [0, 3] [2] a11l0b 1 (h11l0_0 z0 v366) (q11l0_0 z0 v366) ?_ _ _ _ h
  rintro v365 z h
  simp only [S11l0_0] at h
  by_cases c367 : (v366.length : Int) ≤ v365
  · rw [if_pos c367] at h
    have c367d := dt c367
    cases h
    refine ⟨0, fun n hn => ?_⟩
    simp (maxSteps := 2000000) only [W, reduceIte, Nat.reduceEqDiff, Nat.reduceAdd, Nat.reduceSub, Nat.reduceLT, Nat.reduceLeDiff, Nat.reduceMul, h11l0_0, q11l0_0, a11l0b, c367d]
  · rw [if_neg c367] at h
    have c367d := df c367
    obtain ⟨j368, x369, g370, h⟩ := un2 h
    obtain ⟨g3701, g3702⟩ := geti_in g370
    have g3703 := ac_Int g3702
    try simp only [wn] at g3701
    obtain ⟨r373, g371, h⟩ := un1 h
    obtain ⟨N372, kN372⟩ := c16_0 x369 (-1000000) 1000000 _ g371
    by_cases c374 : r373 = true
    · rw [if_pos c374] at h
      have c374d := c374
      cases h
      refine ⟨N372, fun n hn => ?_⟩
      have kN372 := kN372 n (by omega)
      try simp (maxSteps := 2000000) only [wn] at kN372
      simp (maxSteps := 2000000) only [W, reduceIte, Nat.reduceEqDiff, Nat.reduceAdd, Nat.reduceSub, Nat.reduceLT, Nat.reduceLeDiff, Nat.reduceMul, h11l0_0, q11l0_0, a11l0b, c367d, g3701, g3703, kN372, c374d]
    · rw [if_neg c374] at h
      have c374d := bf c374
      cases h
      refine ⟨N372, fun n hn => ?_⟩
      have kN372 := kN372 n (by omega)
      try simp (maxSteps := 2000000) only [wn] at kN372
      simp (maxSteps := 2000000) only [W, reduceIte, Nat.reduceEqDiff, Nat.reduceAdd, Nat.reduceSub, Nat.reduceLT, Nat.reduceLeDiff, Nat.reduceMul, h11l0_0, q11l0_0, a11l0b, c367d, g3701, g3703, kN372, c374d]
theorem c11_0 (z0 : Bool) (v363 : List Int) (r377 : Int) (h : F11_0 v363 = some r377) : Ev fun n => (ex tab n).call 11 [.slice (.p 0) 0 v363.length v363.length 1 false] [.row z0 true (rowC v363)] = some (.int .i64 r377, [.row z0 true (rowC v363)]) := by
  unfold F11_0 at h
  by_cases c364 : (v363.length : Int) ≤ 300
  · rw [if_pos c364] at h
    have c364d := dt c364
    obtain ⟨g375_, g375, h⟩ := un1 h
    rcases g375_ with _ | _
    · dsimp only at h
      have kN376 := k11l0_0 z0 v363 0 _ g375
      obtain ⟨N376, kN376⟩ := kN376
      cases h
      refine ev_call (fn := a11) rfl ⟨N376, fun n hn => ?_⟩
      have kN376 := kN376 n (by omega)
      simp (maxSteps := 2000000) only [h11l0_0, q11l0_0, wn] at kN376
      simp (maxSteps := 2000000) only [W, reduceIte, Nat.reduceEqDiff, Nat.reduceAdd, Nat.reduceSub, Nat.reduceLT, Nat.reduceLeDiff, Nat.reduceMul, a11, a11l0, c364d, kN376, @x_loopAt]
    · dsimp only at h
      have kN376 := k11l0_0 z0 v363 0 _ g375
      obtain ⟨N376, kN376⟩ := kN376
      cases h
      refine ev_call (fn := a11) rfl ⟨N376, fun n hn => ?_⟩
      have kN376 := kN376 n (by omega)
      simp (maxSteps := 2000000) only [h11l0_0, q11l0_0, wn] at kN376
      simp (maxSteps := 2000000) only [W, reduceIte, Nat.reduceEqDiff, Nat.reduceAdd, Nat.reduceSub, Nat.reduceLT, Nat.reduceLeDiff, Nat.reduceMul, a11, a11l0, c364d, kN376, @x_loopAt]
  · rw [if_neg c364] at h
    have c364d := df c364
    cases h
    refine ev_call (fn := a11) rfl ⟨0, fun n hn => ?_⟩
    simp (maxSteps := 2000000) only [W, reduceIte, Nat.reduceEqDiff, Nat.reduceAdd, Nat.reduceSub, Nat.reduceLT, Nat.reduceLeDiff, Nat.reduceMul, a11, a11l0, c364d, @x_loopAt]
theorem c15_0 (v452 : Int) (r453 : Int) (h : F15_0 v452 = some r453) : Ev fun n => (ex tab n).call 15 [.int .i64 v452] [] = some (.int .i64 r453, []) := by
  unfold F15_0 at h
  cases h
  refine ev_call (fn := a15) rfl ⟨0, fun n hn => ?_⟩
  simp (maxSteps := 2000000) only [W, reduceIte, Nat.reduceEqDiff, Nat.reduceAdd, Nat.reduceSub, Nat.reduceLT, Nat.reduceLeDiff, Nat.reduceMul, a15]
end Go.AI
end
section
/-
  Functions, walked through: guidevanelaw08.DispatchActivations, guidevanebase.CopyInts, guidevanebase.CopyInts.
-/
set_option linter.unusedVariables false
set_option linter.unusedSimpArgs false
set_option maxRecDepth 100000
set_option maxHeartbeats 4000000
namespace Go.AI
theorem c8_1 (z0 : Bool) (v661 : Nat) (v662 : Nat) (v663 : List Int) (r667 : List Int) (h : F8_1 v661 v662 v663 = some r667) : Ev fun n => (ex tab n).call 8 [.slice (.p 0) 0 v661 v662 1 false] [.row z0 true (rowC v663)] = some (.slice (.p 1) 0 r667.length r667.length 1 false, [.row z0 true (rowC v663), .row true true (rowC r667)]) := by
  unfold F8_1 at h
  obtain ⟨l665, g664, h⟩ := un1 h
  have g6643 := part_row g664
  try simp only [wn] at g6643
  obtain ⟨g666, h⟩ := un_roomd h
  cases h
  refine ev_call (fn := a8) rfl ⟨0, fun n hn => ?_⟩
  simp (maxSteps := 2000000) only [W, reduceIte, Nat.reduceEqDiff, Nat.reduceAdd, Nat.reduceSub, Nat.reduceLT, Nat.reduceLeDiff, Nat.reduceMul, a8, g6643, g666]
theorem c8_2 (z0 : Bool) (v682 : Nat) (v683 : Nat) (v684 : Nat) (v685 : List Int) (r689 : List Int) (h : F8_2 v682 v683 v684 v685 = some r689) : Ev fun n => (ex tab n).call 8 [.slice (.p 0) v682 v683 v684 1 false] [.row z0 true (rowC v685)] = some (.slice (.p 1) 0 r689.length r689.length 1 false, [.row z0 true (rowC v685), .row true true (rowC r689)]) := by
  unfold F8_2 at h
  obtain ⟨l687, g686, h⟩ := un1 h
  have g6863 := part_row g686
  try simp only [wn] at g6863
  obtain ⟨g688, h⟩ := un_roomd h
  cases h
  refine ev_call (fn := a8) rfl ⟨0, fun n hn => ?_⟩
  simp (maxSteps := 2000000) only [W, reduceIte, Nat.reduceEqDiff, Nat.reduceAdd, Nat.reduceSub, Nat.reduceLT, Nat.reduceLeDiff, Nat.reduceMul, a8, g6863, g688]
end Go.AI
end
section
/-
  Functions, walked through: .
-/
set_option linter.unusedVariables false
set_option linter.unusedSimpArgs false
set_option maxRecDepth 100000
set_option maxHeartbeats 4000000
namespace Go.AI
noncomputable def h4l0_0 (z0 : Bool) (z1 : Bool) (v734 : List Int) (v735 : List Int) (v736 : Int) (v737 : Int) (v738 : Int) (v739 : Int) (v740 : Int) (v741 : List Int) (v742 : Int) (v743 : Int) (v744 : Int) : (Int × Int × Int × Int) → Env × Heap
  | (v730, v731, v732, v733) => ([(1, .slice (.p 0) 0 v734.length v734.length 1 false), (2, .slice (.p 1) 0 v735.length v735.length 1 false), (3, .ptr (.p 2) 0), (7, .ptr (.p 3) 0), (14, .slice (.p 4) 0 v741.length v741.length 1 false), (16, .ptr (.p 5) 0), (18, .int .i64 v730), (19, .int .i64 v731), (20, .int .i64 v732), (21, .int .i64 v733)], [.row z0 true (rowC v734), .row z1 true (rowC v735), .row true true [.int .i64 v736, .int .i64 v737], .row true true [.int .i64 v738, .int .i64 v739, .int .i64 v740], .row true true (rowC v741), .row true true [.int .i64 v742, .int .i64 v743, .int .i64 v744]])
noncomputable def q4l0_0 (z0 : Bool) (z1 : Bool) (v734 : List Int) (v735 : List Int) (v736 : Int) (v737 : Int) (v738 : Int) (v739 : Int) (v740 : Int) (v741 : List Int) (v742 : Int) (v743 : Int) (v744 : Int) : ((Int × Int) ⊕ (Int × Int)) → AExit × Env × Heap
  | .inl (r770, r771) => (.exit 0, [(1, .slice (.p 0) 0 v734.length v734.length 1 false), (3, .ptr (.p 2) 0), (6, .undef), (7, .ptr (.p 3) 0), (16, .ptr (.p 4) 0), (18, .int .i64 r770), (19, .int .i64 r771)], [.row z0 true (rowC v734), .row z1 true (rowC v735), .row true true [.int .i64 v736, .int .i64 v737], .row true true [.int .i64 v738, .int .i64 v739, .int .i64 v740], .row true true [.int .i64 v742, .int .i64 v743, .int .i64 v744]])
  | .inr (r772, r773) => (.ret, [(1, .slice (.p 0) 0 v734.length v734.length 1 false), (3, .ptr (.p 2) 0), (6, .bool false), (7, .ptr (.p 3) 0), (16, .ptr (.p 4) 0), (18, .int .i64 r772), (19, .int .i64 r773)], [.row z0 true (rowC v734), .row z1 true (rowC v735), .row true true [.int .i64 v736, .int .i64 v737], .row true true [.int .i64 v738, .int .i64 v739, .int .i64 v740], .row true true [.int .i64 v742, .int .i64 v743, .int .i64 v744]])
theorem k4l0_0 (z0 : Bool) (z1 : Bool) (v734 : List Int) (v735 : List Int) (v736 : Int) (v737 : Int) (v738 : Int) (v739 : Int) (v740 : Int) (v741 : List Int) (v742 : Int) (v743 : Int) (v744 : Int) (s : Int × Int × Int × Int) (o : (Int × Int) ⊕ (Int × Int)) (h : L4l0_0 v734 v735 v736 v737 v738 v739 v740 v741 v742 v743 v744 s = some o) : Ev fun n => loopAt [1, 2, 3, 7, 14, 16, 18, 19, 20, 21] [1, 3, 6, 7, 16, 18, 19] a4l0b (ex tab n) 2 (h4l0_0 z0 z1 v734 v735 v736 v737 v738 v739 v740 v741 v742 v743 v744 s) = some (q4l0_0 z0 z1 v734 v735 v736 v737 v738 v739 v740 v741 v742 v743 v744 o) := by
  refine iter_sound (S4l0_0 v734 v735 v736 v737 v738 v739 v740 v741 v742 v743 v744) [1, 2, 3, 7, 14, 16, 18, 19, 20, 21] [1, 3, 6, 7, 16, 18, 19] a4l0b 2 (h4l0_0 z0 z1 v734 v735 v736 v737 v738 v739 v740 v741 v742 v743 v744) (q4l0_0 z0 z1 v734 v735 v736 v737 v738 v739 v740 v741 v742 v743 v744) ?_ _ _ _ h
  rintro ⟨v730, v731, v732, v733⟩ z h
  simp only [S4l0_0] at h
  by_cases c745 : (v734.length : Int) ≤ v733
  · rw [if_pos c745] at h
    have c745d := dt c745
    cases h
    refine ⟨0, fun n hn => ?_⟩
    simp (maxSteps := 2000000) only [W, reduceIte, Nat.reduceEqDiff, Nat.reduceAdd, Nat.reduceSub, Nat.reduceLT, Nat.reduceLeDiff, Nat.reduceMul, h4l0_0, q4l0_0, a4l0b, c745d, wd]
  · rw [if_neg c745] at h
    have c745d := df c745
    obtain ⟨j746, x747, g748, h⟩ := un2 h
    obtain ⟨g7481, g7482⟩ := geti_in g748
    have g7483 := ac_Int g7482
    try simp only [wn] at g7481
    obtain ⟨r751, g749, h⟩ := un1 h
    obtain ⟨N750, kN750⟩ := c15_0 x747 _ g749
    obtain ⟨j752, x753, g754, h⟩ := un2 h
    obtain ⟨g7541, g7542⟩ := geti_in g754
    have g7543 := ac_Int g7542
    try simp only [wn] at g7541
    obtain ⟨r757, g755, h⟩ := un1 h
    obtain ⟨N756, kN756⟩ := c15_0 x753 _ g755
    obtain ⟨j758, x759, g760, h⟩ := un2 h
    obtain ⟨g7601, g7602⟩ := geti_in g760
    have g7603 := ac_Int g7602
    try simp only [wn] at g7601
    obtain ⟨r763, g761, h⟩ := un1 h
    obtain ⟨N762, kN762⟩ := c16_0 x759 (aw .i64 (v732 - v737)) (aw .i64 (v732 + v737)) _ g761
    by_cases c764 : r763 = true
    · rw [if_pos c764] at h
      have c764d := c764
      by_cases c765 : x759 = x747
      · rw [if_pos c765] at h
        have c765d := dt c765
        cases h
        refine ⟨N750 + N756 + N762, fun n hn => ?_⟩
        have kN750 := kN750 n (by omega)
        try simp (maxSteps := 2000000) only [wn] at kN750
        have kN756 := kN756 n (by omega)
        try simp (maxSteps := 2000000) only [wn] at kN756
        have kN762 := kN762 n (by omega)
        try simp (maxSteps := 2000000) only [wn] at kN762
        simp (maxSteps := 2000000) only [W, reduceIte, Nat.reduceEqDiff, Nat.reduceAdd, Nat.reduceSub, Nat.reduceLT, Nat.reduceLeDiff, Nat.reduceMul, h4l0_0, q4l0_0, a4l0b, c745d, g7481, g7483, kN750, g7541, g7543, kN756, g7601, g7603, kN762, c764d, c765d, wd]
      · rw [if_neg c765] at h
        have c765d := df c765
        obtain ⟨r768, g766, h⟩ := un1 h
        obtain ⟨N767, kN767⟩ := c15_0 (aw .i64 (x759 - v732)) _ g766
        by_cases c769 : r768 = v737
        · rw [if_pos c769] at h
          have c769d := dt c769
          cases h
          refine ⟨N750 + N756 + N762 + N767, fun n hn => ?_⟩
          have kN750 := kN750 n (by omega)
          try simp (maxSteps := 2000000) only [wn] at kN750
          have kN756 := kN756 n (by omega)
          try simp (maxSteps := 2000000) only [wn] at kN756
          have kN762 := kN762 n (by omega)
          try simp (maxSteps := 2000000) only [wn] at kN762
          have kN767 := kN767 n (by omega)
          try simp (maxSteps := 2000000) only [wn] at kN767
          simp (maxSteps := 2000000) only [W, reduceIte, Nat.reduceEqDiff, Nat.reduceAdd, Nat.reduceSub, Nat.reduceLT, Nat.reduceLeDiff, Nat.reduceMul, h4l0_0, q4l0_0, a4l0b, c745d, g7481, g7483, kN750, g7541, g7543, kN756, g7601, g7603, kN762, c764d, c765d, kN767, c769d, wd]
        · rw [if_neg c769] at h
          have c769d := df c769
          cases h
          refine ⟨N750 + N756 + N762 + N767, fun n hn => ?_⟩
          have kN750 := kN750 n (by omega)
          try simp (maxSteps := 2000000) only [wn] at kN750
          have kN756 := kN756 n (by omega)
          try simp (maxSteps := 2000000) only [wn] at kN756
          have kN762 := kN762 n (by omega)
          try simp (maxSteps := 2000000) only [wn] at kN762
          have kN767 := kN767 n (by omega)
          try simp (maxSteps := 2000000) only [wn] at kN767
          simp (maxSteps := 2000000) only [W, reduceIte, Nat.reduceEqDiff, Nat.reduceAdd, Nat.reduceSub, Nat.reduceLT, Nat.reduceLeDiff, Nat.reduceMul, h4l0_0, q4l0_0, a4l0b, c745d, g7481, g7483, kN750, g7541, g7543, kN756, g7601, g7603, kN762, c764d, c765d, kN767, c769d, wd]
    · rw [if_neg c764] at h
      have c764d := bf c764
      cases h
      refine ⟨N750 + N756 + N762, fun n hn => ?_⟩
      have kN750 := kN750 n (by omega)
      try simp (maxSteps := 2000000) only [wn] at kN750
      have kN756 := kN756 n (by omega)
      try simp (maxSteps := 2000000) only [wn] at kN756
      have kN762 := kN762 n (by omega)
      try simp (maxSteps := 2000000) only [wn] at kN762
      simp (maxSteps := 2000000) only [W, reduceIte, Nat.reduceEqDiff, Nat.reduceAdd, Nat.reduceSub, Nat.reduceLT, Nat.reduceLeDiff, Nat.reduceMul, h4l0_0, q4l0_0, a4l0b, c745d, g7481, g7483, kN750, g7541, g7543, kN756, g7601, g7603, kN762, c764d, wd]
noncomputable def h4l1_0 (z0 : Bool) (z1 : Bool) (v786 : List Int) (v787 : List Int) (v788 : Int) (v789 : Int) : (Int × (List Int)) → Env × Heap
  | (v785, v790) => ([(1, .slice (.p 0) 0 v786.length v786.length 1 false), (3, .ptr (.p 2) 0), (22, .slice (.p 3) 0 v790.length v790.length 1 false), (23, .int .i64 v785)], [.row z0 true (rowC v786), .row z1 true (rowC v787), .row true true [.int .i64 v788, .int .i64 v789], .row true true (rowC v790)])
noncomputable def q4l1_0 (z0 : Bool) (z1 : Bool) (v786 : List Int) (v787 : List Int) (v788 : Int) (v789 : Int) : ((List Int)) → AExit × Env × Heap
  | r796 => (.exit 2, [(1, .slice (.p 0) 0 v786.length v786.length 1 false), (3, .ptr (.p 2) 0), (6, .undef), (22, .slice (.p 3) 0 r796.length r796.length 1 false)], [.row z0 true (rowC v786), .row z1 true (rowC v787), .row true true [.int .i64 v788, .int .i64 v789], .row true true (rowC r796)])
theorem k4l1_0 (z0 : Bool) (z1 : Bool) (v786 : List Int) (v787 : List Int) (v788 : Int) (v789 : Int) (s : Int × (List Int)) (o : (List Int)) (h : L4l1_0 v786 v787 v788 v789 s = some o) : Ev fun n => loopAt [1, 3, 22, 23] [1, 3, 6, 22] a4l1b (ex tab n) 2 (h4l1_0 z0 z1 v786 v787 v788 v789 s) = some (q4l1_0 z0 z1 v786 v787 v788 v789 o) := by
  refine iter_sound (S4l1_0 v786 v787 v788 v789) [1, 3, 22, 23] [1, 3, 6, 22] a4l1b 2 (h4l1_0 z0 z1 v786 v787 v788 v789) (q4l1_0 z0 z1 v786 v787 v788 v789) ?_ _ _ _ h
  rintro ⟨v785, v790⟩ z h
  simp only [S4l1_0] at h
  by_cases c791 : 80 ≤ v785
  · rw [if_pos c791] at h
    have c791d := dt c791
    cases h
    refine ⟨0, fun n hn => ?_⟩
    simp (maxSteps := 2000000) only [W, reduceIte, Nat.reduceEqDiff, Nat.reduceAdd, Nat.reduceSub, Nat.reduceLT, Nat.reduceLeDiff, Nat.reduceMul, h4l1_0, q4l1_0, a4l1b, c791d]
  · rw [if_neg c791] at h
    have c791d := df c791
    obtain ⟨j792, x793, g794, h⟩ := un2 h
    obtain ⟨g7941, g7942⟩ := geti_in g794
    have g7943 := ac_Int g7942
    try simp only [wn] at g7941
    obtain ⟨g795, h⟩ := un_roomd h
    cases h
    refine ⟨0, fun n hn => ?_⟩
    simp (maxSteps := 2000000) only [W, reduceIte, Nat.reduceEqDiff, Nat.reduceAdd, Nat.reduceSub, Nat.reduceLT, Nat.reduceLeDiff, Nat.reduceMul, h4l1_0, q4l1_0, a4l1b, c791d, g7941, g7943, g795]
end Go.AI
end
section
/-
  Functions, walked through: guidevanelaw08.DispatchSums.
-/
set_option linter.unusedVariables false
set_option linter.unusedSimpArgs false
set_option maxRecDepth 100000
set_option maxHeartbeats 4000000
namespace Go.AI
theorem c4_0 (z0 : Bool) (z1 : Bool) (v629 : Int) (v630 : Int) (v631 : List Int) (v632 : List Int) (r818 : Bool) (h : F4_0 v629 v630 v631 v632 = some r818) (ho : r818 = true) : Ev fun n => (ex tab n).call 4 [.agg [.int .i64 v629, .int .i64 v630], .slice (.p 0) 0 v631.length v631.length 1 false, .slice (.p 1) 0 v632.length v632.length 1 false] [.row z0 true (rowC v631), .row z1 true (rowC v632)] = some (.bool r818, [.row z0 true (rowC v631), .row z1 true (rowC v632)]) := by
  unfold F4_0 at h
  obtain ⟨N633, kN633⟩ := awake_ev
  by_cases c634 : (v631.length : Int) ≤ 80
  · rw [if_pos c634] at h
    have c634d := dt c634
    by_cases c635 : (v632.length : Int) = (v631.length : Int)
    · rw [if_pos c635] at h
      have c635d := dt c635
      obtain ⟨r638, g636, h⟩ := un1 h
      obtain ⟨N637, kN637⟩ := c11_0 z0 v631 _ g636
      by_cases c639 : r638 = 0
      · rw [if_pos c639] at h
        have c639d := dt c639
        obtain ⟨r642, g640, h⟩ := un1 h
        obtain ⟨N641, kN641⟩ := c11_0 z1 v632 _ g640
        by_cases c643 : r642 = 0
        · rw [if_pos c643] at h
          have c643d := dt c643
          obtain ⟨r646, g644, h⟩ := un1 h
          obtain ⟨N645, kN645⟩ := c10_0 v629 v630 _ g644
          by_cases c647 : r646 = 0
          · rw [if_pos c647] at h
            have c647d := dt c647
            obtain ⟨_, g648, h⟩ := un1 h
            obtain ⟨N649, kN649⟩ := c8_0 z0 v631 g648
            obtain ⟨_, g650, h⟩ := un1 h
            obtain ⟨N651, kN651⟩ := c8_0 z1 v632 g650
            obtain ⟨r654, r655, r656, r657, g652, h⟩ := un4 h
            obtain ⟨N653, kN653⟩ := c9_0 true true v631 v632 _ _ _ _ g652
            have d658 := fun x => bin_quo .i64 x 2 (by decide)
            obtain ⟨j659, g660, h⟩ := un1 h
            try simp only [wn] at g660
            obtain ⟨r670, g668, h⟩ := un1 h
            obtain ⟨N669, kN669⟩ := c8_1 false j659 v631.length v631 _ g668
            obtain ⟨j671, g672, h⟩ := un1 h
            try simp only [wn] at g672
            obtain ⟨r675, g673, h⟩ := un1 h
            obtain ⟨N674, kN674⟩ := c8_1 false j671 v632.length v632 _ g673
            obtain ⟨r678, r679, r680, r681, g676, h⟩ := un4 h
            obtain ⟨N677, kN677⟩ := c9_0 false false r670 r675 _ _ _ _ g676
            obtain ⟨r692, g690, h⟩ := un1 h
            obtain ⟨N691, kN691⟩ := c8_2 false j659 (v631.length - j659) (v631.length - j659) v631 _ g690
            obtain ⟨r695, g693, h⟩ := un1 h
            obtain ⟨N694, kN694⟩ := c8_2 false j671 (v632.length - j671) (v632.length - j671) v632 _ g693
            obtain ⟨r698, r699, r700, r701, g696, h⟩ := un4 h
            obtain ⟨N697, kN697⟩ := c9_0 false false r692 r695 _ _ _ _ g696
            obtain ⟨N703, kN703⟩ := c8_0 false v631 g648
            obtain ⟨r706, r707, g704, h⟩ := un2 h
            obtain ⟨N705, kN705⟩ := c7_0 true v629 v630 v631 _ _ g704
            obtain ⟨N709, kN709⟩ := c8_0 z0 v631 g648
            obtain ⟨N711, kN711⟩ := c8_0 z0 v631 g648
            obtain ⟨r714, r715, r716, r717, g712, h⟩ := un4 h
            obtain ⟨N713, kN713⟩ := c9_0 true true v631 v631 _ _ _ _ g712
            by_cases c718 : r657 = 0
            · rw [if_pos c718] at h
              have c718d := dt c718
              by_cases c719 : r681 = 0
              · rw [if_pos c719] at h
                have c719d := dt c719
                by_cases c720 : r701 = 0
                · rw [if_pos c720] at h
                  have c720d := dt c720
                  by_cases c721 : r706 = 0
                  · rw [if_pos c721] at h
                    have c721d := dt c721
                    by_cases c722 : r717 = 0
                    · rw [if_pos c722] at h
                      have c722d := dt c722
                      by_cases c723 : (r707.length : Int) = (v631.length : Int)
                      · rw [if_pos c723] at h
                        have c723d := dt c723
                        by_cases c724 : r654 = (aw .i64 (r678 + r698))
                        · rw [if_pos c724] at h
                          have c724d := dt c724
                          by_cases c725 : r655 = (aw .i64 (r679 + r699))
                          · rw [if_pos c725] at h
                            have c725d := dt c725
                            by_cases c726 : r656 = (aw .i64 (r680 + r700))
                            · rw [if_pos c726] at h
                              have c726d := dt c726
                              by_cases c727 : 0 ≤ r654
                              · rw [if_pos c727] at h
                                have c727d := dt c727
                                by_cases c728 : 0 ≤ r655
                                · rw [if_pos c728] at h
                                  have c728d := dt c728
                                  by_cases c729 : 0 ≤ r656
                                  · rw [if_pos c729] at h
                                    have c729d := dt c729
                                    obtain ⟨g774_, g774, h⟩ := un1 h
                                    rcases g774_ with ⟨r776, r777⟩ | ⟨r816, r817⟩
                                    · dsimp only at h
                                      have kN775 := k4l0_0 z0 z1 v631 v632 v629 v630 r654 r655 r656 r707 r714 r715 r716 (0, 0, v629, 0) _ g774
                                      obtain ⟨N775, kN775⟩ := kN775
                                      by_cases c778 : (aw .i64 (r654 + r655)) = r776
                                      · rw [if_pos c778] at h
                                        have c778d := dt c778
                                        by_cases c779 : (aw .i64 (r654 + r656)) = r777
                                        · rw [if_pos c779] at h
                                          have c779d := dt c779
                                          by_cases c780 : r714 = r776
                                          · rw [if_pos c780] at h
                                            have c780d := dt c780
                                            by_cases c781 : r715 = 0
                                            · rw [if_pos c781] at h
                                              have c781d := dt c781
                                              by_cases c782 : r716 = 0
                                              · rw [if_pos c782] at h
                                                have c782d := dt c782
                                                by_cases c783 : v630 = 0
                                                · rw [if_pos c783] at h
                                                  have c783d := dt c783
                                                  cases h
                                                  refine ev_call (fn := a4) rfl ⟨N633 + N637 + N641 + N645 + N649 + N651 + N653 + N669 + N674 + N677 + N691 + N694 + N697 + N703 + N705 + N709 + N711 + N713 + N775, fun n hn => ?_⟩
                                                  have kN633 := kN633 n (by omega)
                                                  have kN637 := kN637 n (by omega)
                                                  try simp (maxSteps := 2000000) only [wn] at kN637
                                                  have kN641 := kN641 n (by omega)
                                                  try simp (maxSteps := 2000000) only [wn] at kN641
                                                  have kN645 := kN645 n (by omega)
                                                  try simp (maxSteps := 2000000) only [wn] at kN645
                                                  have kN649 := kN649 n (by omega)
                                                  try simp (maxSteps := 2000000) only [wn] at kN649
                                                  have kN651 := kN651 n (by omega)
                                                  try simp (maxSteps := 2000000) only [wn] at kN651
                                                  have kN653 := kN653 n (by omega)
                                                  try simp (maxSteps := 2000000) only [wn] at kN653
                                                  have kN669 := kN669 n (by omega)
                                                  try simp (maxSteps := 2000000) only [wn] at kN669
                                                  have kN674 := kN674 n (by omega)
                                                  try simp (maxSteps := 2000000) only [wn] at kN674
                                                  have kN677 := kN677 n (by omega)
                                                  try simp (maxSteps := 2000000) only [wn] at kN677
                                                  have kN691 := kN691 n (by omega)
                                                  try simp (maxSteps := 2000000) only [wn] at kN691
                                                  have kN694 := kN694 n (by omega)
                                                  try simp (maxSteps := 2000000) only [wn] at kN694
                                                  have kN697 := kN697 n (by omega)
                                                  try simp (maxSteps := 2000000) only [wn] at kN697
                                                  have kN703 := kN703 n (by omega)
                                                  try simp (maxSteps := 2000000) only [wn] at kN703
                                                  have kN705 := kN705 n (by omega)
                                                  try simp (maxSteps := 2000000) only [wn] at kN705
                                                  have kN709 := kN709 n (by omega)
                                                  try simp (maxSteps := 2000000) only [wn] at kN709
                                                  have kN711 := kN711 n (by omega)
                                                  try simp (maxSteps := 2000000) only [wn] at kN711
                                                  have kN713 := kN713 n (by omega)
                                                  try simp (maxSteps := 2000000) only [wn] at kN713
                                                  have kN775 := kN775 n (by omega)
                                                  simp (maxSteps := 2000000) only [h4l0_0, q4l0_0, wn] at kN775
                                                  simp (maxSteps := 2000000) only [W, reduceIte, Nat.reduceEqDiff, Nat.reduceAdd, Nat.reduceSub, Nat.reduceLT, Nat.reduceLeDiff, Nat.reduceMul, a4, a4l0, a4l1, kN633, c634d, c635d, kN637, c639d, kN641, c643d, kN645, c647d, kN649, kN651, kN653, d658, g660, kN669, g672, kN674, kN677, kN691, kN694, kN697, kN703, kN705, kN709, kN711, kN713, c718d, c719d, c720d, c721d, c722d, c723d, c724d, c725d, c726d, c727d, c728d, c729d, kN775, c778d, c779d, c780d, c781d, c782d, c783d, @x_loopAt, wd]
                                                · rw [if_neg c783] at h
                                                  have c783d := df c783
                                                  by_cases c784 : (v631.length : Int) = 0
                                                  · rw [if_pos c784] at h
                                                    have c784d := dt c784
                                                    cases h
                                                    refine ev_call (fn := a4) rfl ⟨N633 + N637 + N641 + N645 + N649 + N651 + N653 + N669 + N674 + N677 + N691 + N694 + N697 + N703 + N705 + N709 + N711 + N713 + N775, fun n hn => ?_⟩
                                                    have kN633 := kN633 n (by omega)
                                                    have kN637 := kN637 n (by omega)
                                                    try simp (maxSteps := 2000000) only [wn] at kN637
                                                    have kN641 := kN641 n (by omega)
                                                    try simp (maxSteps := 2000000) only [wn] at kN641
                                                    have kN645 := kN645 n (by omega)
                                                    try simp (maxSteps := 2000000) only [wn] at kN645
                                                    have kN649 := kN649 n (by omega)
                                                    try simp (maxSteps := 2000000) only [wn] at kN649
                                                    have kN651 := kN651 n (by omega)
                                                    try simp (maxSteps := 2000000) only [wn] at kN651
                                                    have kN653 := kN653 n (by omega)
                                                    try simp (maxSteps := 2000000) only [wn] at kN653
                                                    have kN669 := kN669 n (by omega)
                                                    try simp (maxSteps := 2000000) only [wn] at kN669
                                                    have kN674 := kN674 n (by omega)
                                                    try simp (maxSteps := 2000000) only [wn] at kN674
                                                    have kN677 := kN677 n (by omega)
                                                    try simp (maxSteps := 2000000) only [wn] at kN677
                                                    have kN691 := kN691 n (by omega)
                                                    try simp (maxSteps := 2000000) only [wn] at kN691
                                                    have kN694 := kN694 n (by omega)
                                                    try simp (maxSteps := 2000000) only [wn] at kN694
                                                    have kN697 := kN697 n (by omega)
                                                    try simp (maxSteps := 2000000) only [wn] at kN697
                                                    have kN703 := kN703 n (by omega)
                                                    try simp (maxSteps := 2000000) only [wn] at kN703
                                                    have kN705 := kN705 n (by omega)
                                                    try simp (maxSteps := 2000000) only [wn] at kN705
                                                    have kN709 := kN709 n (by omega)
                                                    try simp (maxSteps := 2000000) only [wn] at kN709
                                                    have kN711 := kN711 n (by omega)
                                                    try simp (maxSteps := 2000000) only [wn] at kN711
                                                    have kN713 := kN713 n (by omega)
                                                    try simp (maxSteps := 2000000) only [wn] at kN713
                                                    have kN775 := kN775 n (by omega)
                                                    simp (maxSteps := 2000000) only [h4l0_0, q4l0_0, wn] at kN775
                                                    simp (maxSteps := 2000000) only [W, reduceIte, Nat.reduceEqDiff, Nat.reduceAdd, Nat.reduceSub, Nat.reduceLT, Nat.reduceLeDiff, Nat.reduceMul, a4, a4l0, a4l1, kN633, c634d, c635d, kN637, c639d, kN641, c643d, kN645, c647d, kN649, kN651, kN653, d658, g660, kN669, g672, kN674, kN677, kN691, kN694, kN697, kN703, kN705, kN709, kN711, kN713, c718d, c719d, c720d, c721d, c722d, c723d, c724d, c725d, c726d, c727d, c728d, c729d, kN775, c778d, c779d, c780d, c781d, c782d, c783d, c784d, @x_loopAt, wd]
                                                  · rw [if_neg c784] at h
                                                    have c784d := df c784
                                                    obtain ⟨r799, g797, h⟩ := un1 h
                                                    have kN798 := k4l1_0 z0 z1 v631 v632 v629 v630 (0, ([] : List Int)) _ g797
                                                    obtain ⟨N798, kN798⟩ := kN798
                                                    obtain ⟨r802, r803, g800, h⟩ := un2 h
                                                    obtain ⟨N801, kN801⟩ := c7_0 true v629 v630 r799 _ _ g800
                                                    by_cases c804 : r802 = 0
                                                    · rw [if_pos c804] at h
                                                      have c804d := dt c804
                                                      by_cases c805 : (r803.length : Int) = 80
                                                      · rw [if_pos c805] at h
                                                        have c805d := dt c805
                                                        obtain ⟨j806, x807, g808, h⟩ := un2 h
                                                        obtain ⟨g8081, g8082⟩ := geti_in g808
                                                        have g8083 := ac_Int g8082
                                                        try simp only [wn] at g8081
                                                        obtain ⟨r811, g809, h⟩ := un1 h
                                                        obtain ⟨N810, kN810⟩ := c15_0 (aw .i64 (x807 - v629)) _ g809
                                                        by_cases c812 : r811 ≤ (aw .i64 (80 * v630))
                                                        · rw [if_pos c812] at h
                                                          have c812d := dt c812
                                                          obtain ⟨j813, x814, g815, h⟩ := un2 h
                                                          obtain ⟨g8151, g8152⟩ := geti_in g815
                                                          have g8153 := ac_Int g8152
                                                          try simp only [wn] at g8151
                                                          cases h
                                                          refine ev_call (fn := a4) rfl ⟨N633 + N637 + N641 + N645 + N649 + N651 + N653 + N669 + N674 + N677 + N691 + N694 + N697 + N703 + N705 + N709 + N711 + N713 + N775 + N798 + N801 + N810, fun n hn => ?_⟩
                                                          have kN633 := kN633 n (by omega)
                                                          have kN637 := kN637 n (by omega)
                                                          try simp (maxSteps := 2000000) only [wn] at kN637
                                                          have kN641 := kN641 n (by omega)
                                                          try simp (maxSteps := 2000000) only [wn] at kN641
                                                          have kN645 := kN645 n (by omega)
                                                          try simp (maxSteps := 2000000) only [wn] at kN645
                                                          have kN649 := kN649 n (by omega)
                                                          try simp (maxSteps := 2000000) only [wn] at kN649
                                                          have kN651 := kN651 n (by omega)
                                                          try simp (maxSteps := 2000000) only [wn] at kN651
                                                          have kN653 := kN653 n (by omega)
                                                          try simp (maxSteps := 2000000) only [wn] at kN653
                                                          have kN669 := kN669 n (by omega)
                                                          try simp (maxSteps := 2000000) only [wn] at kN669
                                                          have kN674 := kN674 n (by omega)
                                                          try simp (maxSteps := 2000000) only [wn] at kN674
                                                          have kN677 := kN677 n (by omega)
                                                          try simp (maxSteps := 2000000) only [wn] at kN677
                                                          have kN691 := kN691 n (by omega)
                                                          try simp (maxSteps := 2000000) only [wn] at kN691
                                                          have kN694 := kN694 n (by omega)
                                                          try simp (maxSteps := 2000000) only [wn] at kN694
                                                          have kN697 := kN697 n (by omega)
                                                          try simp (maxSteps := 2000000) only [wn] at kN697
                                                          have kN703 := kN703 n (by omega)
                                                          try simp (maxSteps := 2000000) only [wn] at kN703
                                                          have kN705 := kN705 n (by omega)
                                                          try simp (maxSteps := 2000000) only [wn] at kN705
                                                          have kN709 := kN709 n (by omega)
                                                          try simp (maxSteps := 2000000) only [wn] at kN709
                                                          have kN711 := kN711 n (by omega)
                                                          try simp (maxSteps := 2000000) only [wn] at kN711
                                                          have kN713 := kN713 n (by omega)
                                                          try simp (maxSteps := 2000000) only [wn] at kN713
                                                          have kN775 := kN775 n (by omega)
                                                          simp (maxSteps := 2000000) only [h4l0_0, q4l0_0, wn] at kN775
                                                          have kN798 := kN798 n (by omega)
                                                          simp (maxSteps := 2000000) only [h4l1_0, q4l1_0, wn] at kN798
                                                          have kN801 := kN801 n (by omega)
                                                          try simp (maxSteps := 2000000) only [wn] at kN801
                                                          have kN810 := kN810 n (by omega)
                                                          try simp (maxSteps := 2000000) only [wn] at kN810
                                                          simp (maxSteps := 2000000) only [W, reduceIte, Nat.reduceEqDiff, Nat.reduceAdd, Nat.reduceSub, Nat.reduceLT, Nat.reduceLeDiff, Nat.reduceMul, a4, a4l0, a4l1, kN633, c634d, c635d, kN637, c639d, kN641, c643d, kN645, c647d, kN649, kN651, kN653, d658, g660, kN669, g672, kN674, kN677, kN691, kN694, kN697, kN703, kN705, kN709, kN711, kN713, c718d, c719d, c720d, c721d, c722d, c723d, c724d, c725d, c726d, c727d, c728d, c729d, kN775, c778d, c779d, c780d, c781d, c782d, c783d, c784d, kN798, kN801, c804d, c805d, g8081, g8083, kN810, c812d, g8151, g8153, @x_loopAt, wd]
                                                        · rw [if_neg c812] at h
                                                          have c812d := df c812
                                                          cases h
                                                          refine ev_call (fn := a4) rfl ⟨N633 + N637 + N641 + N645 + N649 + N651 + N653 + N669 + N674 + N677 + N691 + N694 + N697 + N703 + N705 + N709 + N711 + N713 + N775 + N798 + N801 + N810, fun n hn => ?_⟩
                                                          have kN633 := kN633 n (by omega)
                                                          have kN637 := kN637 n (by omega)
                                                          try simp (maxSteps := 2000000) only [wn] at kN637
                                                          have kN641 := kN641 n (by omega)
                                                          try simp (maxSteps := 2000000) only [wn] at kN641
                                                          have kN645 := kN645 n (by omega)
                                                          try simp (maxSteps := 2000000) only [wn] at kN645
                                                          have kN649 := kN649 n (by omega)
                                                          try simp (maxSteps := 2000000) only [wn] at kN649
                                                          have kN651 := kN651 n (by omega)
                                                          try simp (maxSteps := 2000000) only [wn] at kN651
                                                          have kN653 := kN653 n (by omega)
                                                          try simp (maxSteps := 2000000) only [wn] at kN653
                                                          have kN669 := kN669 n (by omega)
                                                          try simp (maxSteps := 2000000) only [wn] at kN669
                                                          have kN674 := kN674 n (by omega)
                                                          try simp (maxSteps := 2000000) only [wn] at kN674
                                                          have kN677 := kN677 n (by omega)
                                                          try simp (maxSteps := 2000000) only [wn] at kN677
                                                          have kN691 := kN691 n (by omega)
                                                          try simp (maxSteps := 2000000) only [wn] at kN691
                                                          have kN694 := kN694 n (by omega)
                                                          try simp (maxSteps := 2000000) only [wn] at kN694
                                                          have kN697 := kN697 n (by omega)
                                                          try simp (maxSteps := 2000000) only [wn] at kN697
                                                          have kN703 := kN703 n (by omega)
                                                          try simp (maxSteps := 2000000) only [wn] at kN703
                                                          have kN705 := kN705 n (by omega)
                                                          try simp (maxSteps := 2000000) only [wn] at kN705
                                                          have kN709 := kN709 n (by omega)
                                                          try simp (maxSteps := 2000000) only [wn] at kN709
                                                          have kN711 := kN711 n (by omega)
                                                          try simp (maxSteps := 2000000) only [wn] at kN711
                                                          have kN713 := kN713 n (by omega)
                                                          try simp (maxSteps := 2000000) only [wn] at kN713
                                                          have kN775 := kN775 n (by omega)
                                                          simp (maxSteps := 2000000) only [h4l0_0, q4l0_0, wn] at kN775
                                                          have kN798 := kN798 n (by omega)
                                                          simp (maxSteps := 2000000) only [h4l1_0, q4l1_0, wn] at kN798
                                                          have kN801 := kN801 n (by omega)
                                                          try simp (maxSteps := 2000000) only [wn] at kN801
                                                          have kN810 := kN810 n (by omega)
                                                          try simp (maxSteps := 2000000) only [wn] at kN810
                                                          simp (maxSteps := 2000000) only [W, reduceIte, Nat.reduceEqDiff, Nat.reduceAdd, Nat.reduceSub, Nat.reduceLT, Nat.reduceLeDiff, Nat.reduceMul, a4, a4l0, a4l1, kN633, c634d, c635d, kN637, c639d, kN641, c643d, kN645, c647d, kN649, kN651, kN653, d658, g660, kN669, g672, kN674, kN677, kN691, kN694, kN697, kN703, kN705, kN709, kN711, kN713, c718d, c719d, c720d, c721d, c722d, c723d, c724d, c725d, c726d, c727d, c728d, c729d, kN775, c778d, c779d, c780d, c781d, c782d, c783d, c784d, kN798, kN801, c804d, c805d, g8081, g8083, kN810, c812d, @x_loopAt, wd]
                                                      · rw [if_neg c805] at h
                                                        have c805d := df c805
                                                        cases h
                                                        cases ho
                                                    · rw [if_neg c804] at h
                                                      have c804d := df c804
                                                      cases h
                                                      cases ho
                                              · rw [if_neg c782] at h
                                                have c782d := df c782
                                                cases h
                                                cases ho
                                            · rw [if_neg c781] at h
                                              have c781d := df c781
                                              cases h
                                              cases ho
                                          · rw [if_neg c780] at h
                                            have c780d := df c780
                                            cases h
                                            cases ho
                                        · rw [if_neg c779] at h
                                          have c779d := df c779
                                          cases h
                                          cases ho
                                      · rw [if_neg c778] at h
                                        have c778d := df c778
                                        cases h
                                        cases ho
                                    · dsimp only at h
                                      have kN775 := k4l0_0 z0 z1 v631 v632 v629 v630 r654 r655 r656 r707 r714 r715 r716 (0, 0, v629, 0) _ g774
                                      obtain ⟨N775, kN775⟩ := kN775
                                      cases h
                                      cases ho
                                  · rw [if_neg c729] at h
                                    have c729d := df c729
                                    cases h
                                    cases ho
                                · rw [if_neg c728] at h
                                  have c728d := df c728
                                  cases h
                                  cases ho
                              · rw [if_neg c727] at h
                                have c727d := df c727
                                cases h
                                cases ho
                            · rw [if_neg c726] at h
                              have c726d := df c726
                              cases h
                              cases ho
                          · rw [if_neg c725] at h
                            have c725d := df c725
                            cases h
                            cases ho
                        · rw [if_neg c724] at h
                          have c724d := df c724
                          cases h
                          cases ho
                      · rw [if_neg c723] at h
                        have c723d := df c723
                        cases h
                        cases ho
                    · rw [if_neg c722] at h
                      have c722d := df c722
                      cases h
                      cases ho
                  · rw [if_neg c721] at h
                    have c721d := df c721
                    cases h
                    cases ho
                · rw [if_neg c720] at h
                  have c720d := df c720
                  cases h
                  cases ho
              · rw [if_neg c719] at h
                have c719d := df c719
                cases h
                cases ho
            · rw [if_neg c718] at h
              have c718d := df c718
              cases h
              cases ho
          · rw [if_neg c647] at h
            have c647d := df c647
            cases h
            refine ev_call (fn := a4) rfl ⟨N633 + N637 + N641 + N645, fun n hn => ?_⟩
            have kN633 := kN633 n (by omega)
            have kN637 := kN637 n (by omega)
            try simp (maxSteps := 2000000) only [wn] at kN637
            have kN641 := kN641 n (by omega)
            try simp (maxSteps := 2000000) only [wn] at kN641
            have kN645 := kN645 n (by omega)
            try simp (maxSteps := 2000000) only [wn] at kN645
            simp (maxSteps := 2000000) only [W, reduceIte, Nat.reduceEqDiff, Nat.reduceAdd, Nat.reduceSub, Nat.reduceLT, Nat.reduceLeDiff, Nat.reduceMul, a4, a4l0, a4l1, kN633, c634d, c635d, kN637, c639d, kN641, c643d, kN645, c647d, @x_loopAt, wd]
        · rw [if_neg c643] at h
          have c643d := df c643
          cases h
          refine ev_call (fn := a4) rfl ⟨N633 + N637 + N641, fun n hn => ?_⟩
          have kN633 := kN633 n (by omega)
          have kN637 := kN637 n (by omega)
          try simp (maxSteps := 2000000) only [wn] at kN637
          have kN641 := kN641 n (by omega)
          try simp (maxSteps := 2000000) only [wn] at kN641
          simp (maxSteps := 2000000) only [W, reduceIte, Nat.reduceEqDiff, Nat.reduceAdd, Nat.reduceSub, Nat.reduceLT, Nat.reduceLeDiff, Nat.reduceMul, a4, a4l0, a4l1, kN633, c634d, c635d, kN637, c639d, kN641, c643d, @x_loopAt, wd]
      · rw [if_neg c639] at h
        have c639d := df c639
        cases h
        refine ev_call (fn := a4) rfl ⟨N633 + N637, fun n hn => ?_⟩
        have kN633 := kN633 n (by omega)
        have kN637 := kN637 n (by omega)
        try simp (maxSteps := 2000000) only [wn] at kN637
        simp (maxSteps := 2000000) only [W, reduceIte, Nat.reduceEqDiff, Nat.reduceAdd, Nat.reduceSub, Nat.reduceLT, Nat.reduceLeDiff, Nat.reduceMul, a4, a4l0, a4l1, kN633, c634d, c635d, kN637, c639d, @x_loopAt, wd]
    · rw [if_neg c635] at h
      have c635d := df c635
      cases h
      refine ev_call (fn := a4) rfl ⟨N633, fun n hn => ?_⟩
      have kN633 := kN633 n (by omega)
      simp (maxSteps := 2000000) only [W, reduceIte, Nat.reduceEqDiff, Nat.reduceAdd, Nat.reduceSub, Nat.reduceLT, Nat.reduceLeDiff, Nat.reduceMul, a4, a4l0, a4l1, kN633, c634d, c635d, @x_loopAt, wd]
  · rw [if_neg c634] at h
    have c634d := df c634
    cases h
    refine ev_call (fn := a4) rfl ⟨N633, fun n hn => ?_⟩
    have kN633 := kN633 n (by omega)
    simp (maxSteps := 2000000) only [W, reduceIte, Nat.reduceEqDiff, Nat.reduceAdd, Nat.reduceSub, Nat.reduceLT, Nat.reduceLeDiff, Nat.reduceMul, a4, a4l0, a4l1, kN633, c634d, @x_loopAt, wd]
end Go.AI
end
