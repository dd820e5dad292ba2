import Derived.Test.YtcghmpalmedkiaaGreatKAiY
import Derived.Test.YtcghmpalmedkiaaGreatKAiTab
import Derived.Test.YtcghmpalmedkiaaGreatKAiAwake
import Derived.Test.YtcghmpalmedkiaaGreatKWnF
section
/-
  Functions, walked through: guidevanelaw08.Few, guidevanelaw08.Short, guidevaneref08.CopyPlant, guidevaneref08.CopyTask, guidevanebase.CopyInts, guidevaneref08.CopyReserve, dispatch.within, dispatch.CheckPlant$1, dispatch.unless, dispatch.first, dispatch.CheckPlant$2, api.DispatchMode], api.DispatchMode], dispatch.isSized, dispatch.isName.
-/
set_option linter.unusedVariables false
set_option linter.unusedSimpArgs false
set_option maxRecDepth 100000
set_option maxHeartbeats 4000000
namespace Go.AI
noncomputable def h13l0_0 (z0 : Bool) (v16 : List DispatchMode) (v17 : Int) (v18 : Int) : (Int) → Env × Heap
  | v15 => ([(1, .ptr (.p 1) 0), (3, .int .i64 v15)], [.row z0 true (rowC v16), .row true false [.int .i64 v17, .int .i64 v18, .slice (.p 0) 0 v16.length v16.length 4 false]])
noncomputable def q13l0_0 (z0 : Bool) (v16 : List DispatchMode) (v17 : Int) (v18 : Int) : ((Unit) ⊕ (Unit)) → AExit × Env × Heap
  | .inl (_) => (.exit 0, [(2, .undef)], [.row z0 true (rowC v16)])
  | .inr (_) => (.ret, [(2, .bool false)], [.row z0 true (rowC v16)])
theorem k13l0_0 (z0 : Bool) (v16 : List DispatchMode) (v17 : Int) (v18 : Int) (s : Int) (o : (Unit) ⊕ (Unit)) (h : L13l0_0 v16 v17 v18 s = some o) : Ev fun n => loopAt [1, 3] [2] a13l0b (ex tab n) 1 (h13l0_0 z0 v16 v17 v18 s) = some (q13l0_0 z0 v16 v17 v18 o) := by
  refine iter_sound (S13l0_0 v16 v17 v18) [1, 3] [2] a13l0b 1 (h13l0_0 z0 v16 v17 v18) (q13l0_0 z0 v16 v17 v18) ?_ _ _ _ h
  rintro v15 z h
  simp only [S13l0_0] at h
  by_cases c19 : (v16.length : Int) ≤ v15
  · rw [if_pos c19] at h
    have c19d := dt c19
    cases h
    refine ⟨0, fun n hn => ?_⟩
    simp (maxSteps := 2000000) only [W, reduceIte, Nat.reduceEqDiff, Nat.reduceAdd, Nat.reduceSub, Nat.reduceLT, Nat.reduceLeDiff, Nat.reduceMul, h13l0_0, q13l0_0, a13l0b, rc_DispatchMode, c19d]
  · rw [if_neg c19] at h
    have c19d := df c19
    obtain ⟨j20, x21, g22, h⟩ := un2 h
    obtain ⟨g221, g222⟩ := geti_in g22
    have g223 := ac_DispatchMode g222
    try simp only [wn] at g221
    by_cases c23 : (x21.fName.size : Int) ≤ 20
    · rw [if_pos c23] at h
      have c23d := dt c23
      cases h
      refine ⟨0, fun n hn => ?_⟩
      simp (maxSteps := 2000000) only [W, reduceIte, Nat.reduceEqDiff, Nat.reduceAdd, Nat.reduceSub, Nat.reduceLT, Nat.reduceLeDiff, Nat.reduceMul, h13l0_0, q13l0_0, a13l0b, rc_DispatchMode, c19d, g221, g223, c23d]
    · rw [if_neg c23] at h
      have c23d := df c23
      cases h
      refine ⟨0, fun n hn => ?_⟩
      simp (maxSteps := 2000000) only [W, reduceIte, Nat.reduceEqDiff, Nat.reduceAdd, Nat.reduceSub, Nat.reduceLT, Nat.reduceLeDiff, Nat.reduceMul, h13l0_0, q13l0_0, a13l0b, rc_DispatchMode, c19d, g221, g223, c23d]
theorem c13_0 (z0 : Bool) (v11 : Int) (v12 : Int) (v13 : List DispatchMode) (r26 : Bool) (h : F13_0 v11 v12 v13 = some r26) : Ev fun n => (ex tab n).call 13 [.agg [.int .i64 v11, .int .i64 v12, .slice (.p 0) 0 v13.length v13.length 4 false]] [.row z0 true (rowC v13)] = some (.bool r26, [.row z0 true (rowC v13)]) := by
  unfold F13_0 at h
  by_cases c14 : (v13.length : Int) ≤ 7
  · rw [if_pos c14] at h
    have c14d := dt c14
    obtain ⟨g24_, g24, h⟩ := un1 h
    rcases g24_ with _ | _
    · dsimp only at h
      have kN25 := k13l0_0 z0 v13 v11 v12 0 _ g24
      obtain ⟨N25, kN25⟩ := kN25
      cases h
      refine ev_call (fn := a13) rfl ⟨N25, fun n hn => ?_⟩
      have kN25 := kN25 n (by omega)
      simp (maxSteps := 2000000) only [h13l0_0, q13l0_0, wn, rc_DispatchMode] at kN25
      simp (maxSteps := 2000000) only [W, reduceIte, Nat.reduceEqDiff, Nat.reduceAdd, Nat.reduceSub, Nat.reduceLT, Nat.reduceLeDiff, Nat.reduceMul, a13, a13l0, rc_DispatchMode, c14d, kN25, @x_loopAt]
    · dsimp only at h
      have kN25 := k13l0_0 z0 v13 v11 v12 0 _ g24
      obtain ⟨N25, kN25⟩ := kN25
      cases h
      refine ev_call (fn := a13) rfl ⟨N25, fun n hn => ?_⟩
      have kN25 := kN25 n (by omega)
      simp (maxSteps := 2000000) only [h13l0_0, q13l0_0, wn, rc_DispatchMode] at kN25
      simp (maxSteps := 2000000) only [W, reduceIte, Nat.reduceEqDiff, Nat.reduceAdd, Nat.reduceSub, Nat.reduceLT, Nat.reduceLeDiff, Nat.reduceMul, a13, a13l0, rc_DispatchMode, c14d, kN25, @x_loopAt]
  · rw [if_neg c14] at h
    have c14d := df c14
    cases h
    refine ev_call (fn := a13) rfl ⟨0, fun n hn => ?_⟩
    simp (maxSteps := 2000000) only [W, reduceIte, Nat.reduceEqDiff, Nat.reduceAdd, Nat.reduceSub, Nat.reduceLT, Nat.reduceLeDiff, Nat.reduceMul, a13, a13l0, rc_DispatchMode, c14d, @x_loopAt]
theorem c14_0 (z0 : Bool) (v31 : Int) (v32 : Int) (v33 : Int) (v34 : List DispatchHour) (r35 : Bool) (h : F14_0 v31 v32 v33 v34 = some r35) : Ev fun n => (ex tab n).call 14 [.agg [.int .i64 v31, .int .i64 v32, .int .i64 v33, .slice (.p 0) 0 v34.length v34.length 3 false]] [.row z0 true (rowC v34)] = some (.bool r35, [.row z0 true (rowC v34)]) := by
  unfold F14_0 at h
  cases h
  refine ev_call (fn := a14) rfl ⟨0, fun n hn => ?_⟩
  simp (maxSteps := 2000000) only [W, reduceIte, Nat.reduceEqDiff, Nat.reduceAdd, Nat.reduceSub, Nat.reduceLT, Nat.reduceLeDiff, Nat.reduceMul, a14]
theorem c16_0 (z0 : Bool) (v41 : Int) (v42 : Int) (v43 : List DispatchMode) (h : F16_0 v41 v42 v43 = some ()) : Ev fun n => (ex tab n).call 16 [.agg [.int .i64 v41, .int .i64 v42, .slice (.p 0) 0 v43.length v43.length 4 false]] [.row z0 true (rowC v43)] = some (.agg [.int .i64 v41, .int .i64 v42, .slice (.p 1) 0 v43.length v43.length 4 false], [.row z0 true (rowC v43), .row true true (rowC v43)]) := by
  unfold F16_0 at h
  obtain ⟨g44, h⟩ := un_roomd h
  cases h
  refine ev_call (fn := a16) rfl ⟨0, fun n hn => ?_⟩
  simp (maxSteps := 2000000) only [W, reduceIte, Nat.reduceEqDiff, Nat.reduceAdd, Nat.reduceSub, Nat.reduceLT, Nat.reduceLeDiff, Nat.reduceMul, a16, rc_DispatchMode, g44]
theorem c17_0 (z0 : Bool) (v47 : Int) (v48 : Int) (v49 : Int) (v50 : List DispatchHour) (h : F17_0 v47 v48 v49 v50 = some ()) : Ev fun n => (ex tab n).call 17 [.agg [.int .i64 v47, .int .i64 v48, .int .i64 v49, .slice (.p 0) 0 v50.length v50.length 3 false]] [.row z0 true (rowC v50)] = some (.agg [.int .i64 v47, .int .i64 v48, .int .i64 v49, .slice (.p 1) 0 v50.length v50.length 3 false], [.row z0 true (rowC v50), .row true true (rowC v50)]) := by
  unfold F17_0 at h
  obtain ⟨g51, h⟩ := un_roomd h
  cases h
  refine ev_call (fn := a17) rfl ⟨0, fun n hn => ?_⟩
  simp (maxSteps := 2000000) only [W, reduceIte, Nat.reduceEqDiff, Nat.reduceAdd, Nat.reduceSub, Nat.reduceLT, Nat.reduceLeDiff, Nat.reduceMul, a17, rc_DispatchHour, g51]
theorem c26_0 (z0 : Bool) (v56 : List Int) (h : F26_0 v56 = some ()) : Ev fun n => (ex tab n).call 26 [.slice (.p 0) 0 v56.length v56.length 1 false] [.row z0 true (rowC v56)] = some (.slice (.p 1) 0 v56.length v56.length 1 false, [.row z0 true (rowC v56), .row true true (rowC v56)]) := by
  unfold F26_0 at h
  obtain ⟨g57, h⟩ := un_roomd h
  cases h
  refine ev_call (fn := a26) rfl ⟨0, fun n hn => ?_⟩
  simp (maxSteps := 2000000) only [W, reduceIte, Nat.reduceEqDiff, Nat.reduceAdd, Nat.reduceSub, Nat.reduceLT, Nat.reduceLeDiff, Nat.reduceMul, a26, g57]
theorem c18_0 (z0 : Bool) (v54 : Int) (v55 : List Int) (h : F18_0 v54 v55 = some ()) : Ev fun n => (ex tab n).call 18 [.agg [.slice (.p 0) 0 v55.length v55.length 1 false, .int .i64 v54]] [.row z0 true (rowC v55)] = some (.agg [.slice (.p 1) 0 v55.length v55.length 1 false, .int .i64 v54], [.row z0 true (rowC v55), .row true true (rowC v55)]) := by
  unfold F18_0 at h
  obtain ⟨_, g58, h⟩ := un1 h
  obtain ⟨N59, kN59⟩ := c26_0 z0 v55 g58
  cases h
  refine ev_call (fn := a18) rfl ⟨N59, fun n hn => ?_⟩
  have kN59 := kN59 n (by omega)
  try simp (maxSteps := 2000000) only [wn] at kN59
  simp (maxSteps := 2000000) only [W, reduceIte, Nat.reduceEqDiff, Nat.reduceAdd, Nat.reduceSub, Nat.reduceLT, Nat.reduceLeDiff, Nat.reduceMul, a18, kN59]
theorem c75_0 (v97 : Int) (v98 : Int) (v99 : Int) (r101 : Bool) (h : F75_0 v97 v98 v99 = some r101) : Ev fun n => (ex tab n).call 75 [.int .i64 v97, .int .i64 v98, .int .i64 v99] [] = some (.bool r101, []) := by
  unfold F75_0 at h
  by_cases c100 : v98 ≤ v97
  · rw [if_pos c100] at h
    have c100d := dt c100
    cases h
    refine ev_call (fn := a75) rfl ⟨0, fun n hn => ?_⟩
    simp (maxSteps := 2000000) only [W, reduceIte, Nat.reduceEqDiff, Nat.reduceAdd, Nat.reduceSub, Nat.reduceLT, Nat.reduceLeDiff, Nat.reduceMul, a75, c100d]
  · rw [if_neg c100] at h
    have c100d := df c100
    cases h
    refine ev_call (fn := a75) rfl ⟨0, fun n hn => ?_⟩
    simp (maxSteps := 2000000) only [W, reduceIte, Nat.reduceEqDiff, Nat.reduceAdd, Nat.reduceSub, Nat.reduceLT, Nat.reduceLeDiff, Nat.reduceMul, a75, c100d]
theorem c77_0 (v96 : Int) (r105 : Bool) (h : F77_0 v96 = some r105) : Ev fun n => (ex tab n).call 77 [.int .i64 v96] [] = some (.bool r105, []) := by
  unfold F77_0 at h
  obtain ⟨r104, g102, h⟩ := un1 h
  obtain ⟨N103, kN103⟩ := c75_0 v96 0 1000000 _ g102
  cases h
  refine ev_call (fn := a77) rfl ⟨N103, fun n hn => ?_⟩
  have kN103 := kN103 n (by omega)
  try simp (maxSteps := 2000000) only [wn] at kN103
  simp (maxSteps := 2000000) only [W, reduceIte, Nat.reduceEqDiff, Nat.reduceAdd, Nat.reduceSub, Nat.reduceLT, Nat.reduceLeDiff, Nat.reduceMul, a77, kN103]
theorem c70_0 (v113 : Bool) (v114 : Int) (r116 : Int) (h : F70_0 v113 v114 = some r116) : Ev fun n => (ex tab n).call 70 [.bool v113, .int .i64 v114] [] = some (.int .i64 r116, []) := by
  unfold F70_0 at h
  by_cases c115 : v113 = true
  · rw [if_pos c115] at h
    have c115d := c115
    cases h
    refine ev_call (fn := a70) rfl ⟨0, fun n hn => ?_⟩
    simp (maxSteps := 2000000) only [W, reduceIte, Nat.reduceEqDiff, Nat.reduceAdd, Nat.reduceSub, Nat.reduceLT, Nat.reduceLeDiff, Nat.reduceMul, a70, c115d]
  · rw [if_neg c115] at h
    have c115d := bf c115
    cases h
    refine ev_call (fn := a70) rfl ⟨0, fun n hn => ?_⟩
    simp (maxSteps := 2000000) only [W, reduceIte, Nat.reduceEqDiff, Nat.reduceAdd, Nat.reduceSub, Nat.reduceLT, Nat.reduceLeDiff, Nat.reduceMul, a70, c115d]
noncomputable def h69l0_0 (z0 : Bool) (v133 : Int) (v135 : List Int) : (Int) → Env × Heap
  | v134 => ([(5, .slice (.p 0) 0 v135.length v135.length 1 false), (6, .int .i64 v133), (7, .int .i64 v134)], [.row z0 true (rowC v135)])
noncomputable def q69l0_0 (z0 : Bool) (v133 : Int) (v135 : List Int) : ((Unit) ⊕ (Int)) → AExit × Env × Heap
  | .inl (_) => (.exit 0, [(2, .undef)], [.row z0 true (rowC v135)])
  | .inr (r141) => (.ret, [(2, .int .i64 r141)], [.row z0 true (rowC v135)])
theorem k69l0_0 (z0 : Bool) (v133 : Int) (v135 : List Int) (s : Int) (o : (Unit) ⊕ (Int)) (h : L69l0_0 v133 v135 s = some o) : Ev fun n => loopAt [5, 6, 7] [2] a69l0b (ex tab n) 1 (h69l0_0 z0 v133 v135 s) = some (q69l0_0 z0 v133 v135 o) := by
  refine iter_sound (S69l0_0 v133 v135) [5, 6, 7] [2] a69l0b 1 (h69l0_0 z0 v133 v135) (q69l0_0 z0 v133 v135) ?_ _ _ _ h
  rintro v134 z h
  simp only [S69l0_0] at h
  by_cases c136 : v133 ≤ v134
  · rw [if_pos c136] at h
    have c136d := dt c136
    cases h
    refine ⟨0, fun n hn => ?_⟩
    simp (maxSteps := 2000000) only [W, reduceIte, Nat.reduceEqDiff, Nat.reduceAdd, Nat.reduceSub, Nat.reduceLT, Nat.reduceLeDiff, Nat.reduceMul, h69l0_0, q69l0_0, a69l0b, c136d]
  · rw [if_neg c136] at h
    have c136d := df c136
    obtain ⟨j137, x138, g139, h⟩ := un2 h
    obtain ⟨g1391, g1392⟩ := geti_in g139
    have g1393 := ac_Int g1392
    try simp only [wn] at g1391
    by_cases c140 : x138 = 0
    · rw [if_pos c140] at h
      have c140d := dt c140
      cases h
      refine ⟨0, fun n hn => ?_⟩
      simp (maxSteps := 2000000) only [W, reduceIte, Nat.reduceEqDiff, Nat.reduceAdd, Nat.reduceSub, Nat.reduceLT, Nat.reduceLeDiff, Nat.reduceMul, h69l0_0, q69l0_0, a69l0b, c136d, g1391, g1393, c140d]
    · rw [if_neg c140] at h
      have c140d := df c140
      cases h
      refine ⟨0, fun n hn => ?_⟩
      simp (maxSteps := 2000000) only [W, reduceIte, Nat.reduceEqDiff, Nat.reduceAdd, Nat.reduceSub, Nat.reduceLT, Nat.reduceLeDiff, Nat.reduceMul, h69l0_0, q69l0_0, a69l0b, c136d, g1391, g1393, c140d]
theorem c69_0 (z0 : Bool) (v132 : List Int) (r145 : Int) (h : F69_0 v132 = some r145) : Ev fun n => (ex tab n).call 69 [.slice (.p 0) 0 v132.length v132.length 1 false] [.row z0 true (rowC v132)] = some (.int .i64 r145, [.row z0 true (rowC v132)]) := by
  unfold F69_0 at h
  obtain ⟨g142_, g142, h⟩ := un1 h
  rcases g142_ with _ | r144
  · dsimp only at h
    have kN143 := k69l0_0 z0 (v132.length : Int) v132 0 _ g142
    obtain ⟨N143, kN143⟩ := kN143
    cases h
    refine ev_call (fn := a69) rfl ⟨N143, fun n hn => ?_⟩
    have kN143 := kN143 n (by omega)
    simp (maxSteps := 2000000) only [h69l0_0, q69l0_0, wn] at kN143
    simp (maxSteps := 2000000) only [W, reduceIte, Nat.reduceEqDiff, Nat.reduceAdd, Nat.reduceSub, Nat.reduceLT, Nat.reduceLeDiff, Nat.reduceMul, a69, a69l0, kN143, @x_loopAt]
  · dsimp only at h
    have kN143 := k69l0_0 z0 (v132.length : Int) v132 0 _ g142
    obtain ⟨N143, kN143⟩ := kN143
    cases h
    refine ev_call (fn := a69) rfl ⟨N143, fun n hn => ?_⟩
    have kN143 := kN143 n (by omega)
    simp (maxSteps := 2000000) only [h69l0_0, q69l0_0, wn] at kN143
    simp (maxSteps := 2000000) only [W, reduceIte, Nat.reduceEqDiff, Nat.reduceAdd, Nat.reduceSub, Nat.reduceLT, Nat.reduceLeDiff, Nat.reduceMul, a69, a69l0, kN143, @x_loopAt]
theorem c79_0 (z0 : Bool) (v189 : ByteArray) (v190 : Int) (v191 : Int) (v192 : Int) (v193 : ByteArray) (v194 : Int) (v195 : Int) (v196 : Int) (r197 : Bool) (h : F79_0 v189 v190 v191 v192 v193 v194 v195 v196 = some r197) : Ev fun n => (ex tab n).call 79 [.agg [.str v189, .int .i64 v190, .int .i64 v191, .int .i64 v192], .ptr (.p 0) 0] [.row z0 true [.str v193, .int .i64 v194, .int .i64 v195, .int .i64 v196]] = some (.bool r197, [.row z0 true [.str v193, .int .i64 v194, .int .i64 v195, .int .i64 v196]]) := by
  unfold F79_0 at h
  cases h
  refine ev_call (fn := a79) rfl ⟨0, fun n hn => ?_⟩
  simp (maxSteps := 2000000) only [W, reduceIte, Nat.reduceEqDiff, Nat.reduceAdd, Nat.reduceSub, Nat.reduceLT, Nat.reduceLeDiff, Nat.reduceMul, a79]
noncomputable def h126l0_0 (z0 : Bool) (z1 : Bool) (v175 : Nat) (v176 : Nat) (v177 : Int) (v179 : List DispatchMode) (v180 : ByteArray) (v181 : Int) (v182 : Int) (v183 : Int) : (Int) → Env × Heap
  | v178 => ([(0, .slice (.p 0) 0 v175 v176 4 false), (1, .func 79 [] [.ptr (.p 1) 0]), (7, .int .i64 v177), (8, .int .i64 v178)], [.row z0 true (rowC v179), .row z1 true [.str v180, .int .i64 v181, .int .i64 v182, .int .i64 v183]])
noncomputable def q126l0_0 (z0 : Bool) (z1 : Bool) (v175 : Nat) (v176 : Nat) (v177 : Int) (v179 : List DispatchMode) (v180 : ByteArray) (v181 : Int) (v182 : Int) (v183 : Int) : ((Unit) ⊕ (Int)) → AExit × Env × Heap
  | .inl (_) => (.exit 0, [(4, .undef)], [.row z0 true (rowC v179), .row z1 true [.str v180, .int .i64 v181, .int .i64 v182, .int .i64 v183]])
  | .inr (r202) => (.ret, [(4, .int .i64 r202)], [.row z0 true (rowC v179), .row z1 true [.str v180, .int .i64 v181, .int .i64 v182, .int .i64 v183]])
theorem k126l0_0 (z0 : Bool) (z1 : Bool) (v175 : Nat) (v176 : Nat) (v177 : Int) (v179 : List DispatchMode) (v180 : ByteArray) (v181 : Int) (v182 : Int) (v183 : Int) (s : Int) (o : (Unit) ⊕ (Int)) (h : L126l0_0 v175 v176 v177 v179 v180 v181 v182 v183 s = some o) : Ev fun n => loopAt [0, 1, 7, 8] [4] a126l0b (ex tab n) 2 (h126l0_0 z0 z1 v175 v176 v177 v179 v180 v181 v182 v183 s) = some (q126l0_0 z0 z1 v175 v176 v177 v179 v180 v181 v182 v183 o) := by
  refine iter_sound (S126l0_0 v175 v176 v177 v179 v180 v181 v182 v183) [0, 1, 7, 8] [4] a126l0b 2 (h126l0_0 z0 z1 v175 v176 v177 v179 v180 v181 v182 v183) (q126l0_0 z0 z1 v175 v176 v177 v179 v180 v181 v182 v183) ?_ _ _ _ h
  rintro v178 z h
  simp only [S126l0_0] at h
  by_cases c184 : v177 ≤ v178
  · rw [if_pos c184] at h
    have c184d := dt c184
    cases h
    refine ⟨0, fun n hn => ?_⟩
    simp (maxSteps := 2000000) only [W, reduceIte, Nat.reduceEqDiff, Nat.reduceAdd, Nat.reduceSub, Nat.reduceLT, Nat.reduceLeDiff, Nat.reduceMul, h126l0_0, q126l0_0, a126l0b, rc_DispatchMode, c184d]
  · rw [if_neg c184] at h
    have c184d := df c184
    obtain ⟨j185, g187, h⟩ := un1 h
    try simp only [wn] at g187
    obtain ⟨x186, g188, h⟩ := un1 h
    have g1883 := ac_DispatchMode g188
    obtain ⟨r200, g198, h⟩ := un1 h
    obtain ⟨N199, kN199⟩ := c79_0 z1 x186.fName x186.fChange x186.fEnergy x186.fStart v180 v181 v182 v183 _ g198
    by_cases c201 : r200 = true
    · rw [if_pos c201] at h
      have c201d := c201
      cases h
      refine ⟨N199, fun n hn => ?_⟩
      have kN199 := kN199 n (by omega)
      try simp (maxSteps := 2000000) only [wn, rc_DispatchMode] at kN199
      simp (maxSteps := 2000000) only [W, reduceIte, Nat.reduceEqDiff, Nat.reduceAdd, Nat.reduceSub, Nat.reduceLT, Nat.reduceLeDiff, Nat.reduceMul, h126l0_0, q126l0_0, a126l0b, rc_DispatchMode, c184d, g187, g1883, kN199, c201d]
    · rw [if_neg c201] at h
      have c201d := bf c201
      cases h
      refine ⟨N199, fun n hn => ?_⟩
      have kN199 := kN199 n (by omega)
      try simp (maxSteps := 2000000) only [wn, rc_DispatchMode] at kN199
      simp (maxSteps := 2000000) only [W, reduceIte, Nat.reduceEqDiff, Nat.reduceAdd, Nat.reduceSub, Nat.reduceLT, Nat.reduceLeDiff, Nat.reduceMul, h126l0_0, q126l0_0, a126l0b, rc_DispatchMode, c184d, g187, g1883, kN199, c201d]
theorem c126_0 (z0 : Bool) (z1 : Bool) (v168 : Nat) (v169 : Nat) (v170 : List DispatchMode) (v171 : ByteArray) (v172 : Int) (v173 : Int) (v174 : Int) (r206 : Int) (h : F126_0 v168 v169 v170 v171 v172 v173 v174 = some r206) : Ev fun n => (ex tab n).call 126 [.slice (.p 0) 0 v168 v169 4 false, .func 79 [] [.ptr (.p 1) 0]] [.row z0 true (rowC v170), .row z1 true [.str v171, .int .i64 v172, .int .i64 v173, .int .i64 v174]] = some (.int .i64 r206, [.row z0 true (rowC v170), .row z1 true [.str v171, .int .i64 v172, .int .i64 v173, .int .i64 v174]]) := by
  unfold F126_0 at h
  obtain ⟨g203_, g203, h⟩ := un1 h
  rcases g203_ with _ | r205
  · dsimp only at h
    have kN204 := k126l0_0 z0 z1 v168 v169 (v168 : Int) v170 v171 v172 v173 v174 0 _ g203
    obtain ⟨N204, kN204⟩ := kN204
    cases h
    refine ev_call (fn := a126) rfl ⟨N204, fun n hn => ?_⟩
    have kN204 := kN204 n (by omega)
    simp (maxSteps := 2000000) only [h126l0_0, q126l0_0, wn, rc_DispatchMode] at kN204
    simp (maxSteps := 2000000) only [W, reduceIte, Nat.reduceEqDiff, Nat.reduceAdd, Nat.reduceSub, Nat.reduceLT, Nat.reduceLeDiff, Nat.reduceMul, a126, a126l0, rc_DispatchMode, kN204, @x_loopAt]
  · dsimp only at h
    have kN204 := k126l0_0 z0 z1 v168 v169 (v168 : Int) v170 v171 v172 v173 v174 0 _ g203
    obtain ⟨N204, kN204⟩ := kN204
    cases h
    refine ev_call (fn := a126) rfl ⟨N204, fun n hn => ?_⟩
    have kN204 := kN204 n (by omega)
    simp (maxSteps := 2000000) only [h126l0_0, q126l0_0, wn, rc_DispatchMode] at kN204
    simp (maxSteps := 2000000) only [W, reduceIte, Nat.reduceEqDiff, Nat.reduceAdd, Nat.reduceSub, Nat.reduceLT, Nat.reduceLeDiff, Nat.reduceMul, a126, a126l0, rc_DispatchMode, kN204, @x_loopAt]
theorem c78_0 (z0 : Bool) (z1 : Bool) (v161 : Nat) (v162 : Nat) (v163 : List DispatchMode) (v164 : ByteArray) (v165 : Int) (v166 : Int) (v167 : Int) (r210 : Bool) (h : F78_0 v161 v162 v163 v164 v165 v166 v167 = some r210) : Ev fun n => (ex tab n).call 78 [.slice (.p 0) 0 v161 v162 4 false, .func 79 [] [.ptr (.p 1) 0]] [.row z0 true (rowC v163), .row z1 true [.str v164, .int .i64 v165, .int .i64 v166, .int .i64 v167]] = some (.bool r210, [.row z0 true (rowC v163), .row z1 true [.str v164, .int .i64 v165, .int .i64 v166, .int .i64 v167]]) := by
  unfold F78_0 at h
  obtain ⟨r209, g207, h⟩ := un1 h
  obtain ⟨N208, kN208⟩ := c126_0 z0 z1 v161 v162 v163 v164 v165 v166 v167 _ g207
  cases h
  refine ev_call (fn := a78) rfl ⟨N208, fun n hn => ?_⟩
  have kN208 := kN208 n (by omega)
  try simp (maxSteps := 2000000) only [wn] at kN208
  simp (maxSteps := 2000000) only [W, reduceIte, Nat.reduceEqDiff, Nat.reduceAdd, Nat.reduceSub, Nat.reduceLT, Nat.reduceLeDiff, Nat.reduceMul, a78, kN208]
theorem c80_0 (v214 : Int) (v215 : Int) (r219 : Bool) (h : F80_0 v214 v215 = some r219) : Ev fun n => (ex tab n).call 80 [.int .i64 v214, .int .i64 v215] [] = some (.bool r219, []) := by
  unfold F80_0 at h
  obtain ⟨r218, g216, h⟩ := un1 h
  obtain ⟨N217, kN217⟩ := c75_0 v214 (aw .i64 (0 - v215)) v215 _ g216
  cases h
  refine ev_call (fn := a80) rfl ⟨N217, fun n hn => ?_⟩
  have kN217 := kN217 n (by omega)
  try simp (maxSteps := 2000000) only [wn] at kN217
  simp (maxSteps := 2000000) only [W, reduceIte, Nat.reduceEqDiff, Nat.reduceAdd, Nat.reduceSub, Nat.reduceLT, Nat.reduceLeDiff, Nat.reduceMul, a80, kN217]
noncomputable def h81l0_0 (v233 : ByteArray) (v234 : Int) (v236 : List UInt8) : (Int) → Env × Heap
  | v235 => ([(0, .str v233), (7, .slice (.p 0) 0 v236.length v236.length 1 false), (8, .int .i64 v234), (9, .int .i64 v235)], [.row false true (rowC v236)])
noncomputable def q81l0_0 (v233 : ByteArray) (v234 : Int) (v236 : List UInt8) : ((Unit) ⊕ (Unit)) → AExit × Env × Heap
  | .inl (_) => (.exit 0, [(0, .str v233), (2, .undef)], [])
  | .inr (_) => (.ret, [(0, .str v233), (2, .bool false)], [])
theorem k81l0_0 (v233 : ByteArray) (v234 : Int) (v236 : List UInt8) (s : Int) (o : (Unit) ⊕ (Unit)) (h : L81l0_0 v233 v234 v236 s = some o) : Ev fun n => loopAt [0, 7, 8, 9] [0, 2] a81l0b (ex tab n) 0 (h81l0_0 v233 v234 v236 s) = some (q81l0_0 v233 v234 v236 o) := by
  refine iter_sound (S81l0_0 v233 v234 v236) [0, 7, 8, 9] [0, 2] a81l0b 0 (h81l0_0 v233 v234 v236) (q81l0_0 v233 v234 v236) ?_ _ _ _ h
  rintro v235 z h
  simp only [S81l0_0] at h
  by_cases c237 : v234 ≤ v235
  · rw [if_pos c237] at h
    have c237d := dt c237
    cases h
    refine ⟨0, fun n hn => ?_⟩
    simp (maxSteps := 2000000) only [W, reduceIte, Nat.reduceEqDiff, Nat.reduceAdd, Nat.reduceSub, Nat.reduceLT, Nat.reduceLeDiff, Nat.reduceMul, h81l0_0, q81l0_0, a81l0b, c237d]
  · rw [if_neg c237] at h
    have c237d := df c237
    obtain ⟨j238, x239, g240, h⟩ := un2 h
    obtain ⟨g2401, g2402⟩ := geti_in g240
    have g2403 := ac_UInt8 g2402
    try simp only [wn] at g2401
    obtain ⟨r243, g241, h⟩ := un1 h
    obtain ⟨N242, kN242⟩ := c75_0 (aw .i64 (ior .u8 (x239.toNat : Int) 32)) 97 122 _ g241
    by_cases c244 : r243 = true
    · rw [if_pos c244] at h
      have c244d := c244
      cases h
      refine ⟨N242, fun n hn => ?_⟩
      have kN242 := kN242 n (by omega)
      try simp (maxSteps := 2000000) only [wn] at kN242
      simp (maxSteps := 2000000) only [W, reduceIte, Nat.reduceEqDiff, Nat.reduceAdd, Nat.reduceSub, Nat.reduceLT, Nat.reduceLeDiff, Nat.reduceMul, h81l0_0, q81l0_0, a81l0b, c237d, g2401, g2403, kN242, c244d]
    · rw [if_neg c244] at h
      have c244d := bf c244
      by_cases c245 : v235 = 0
      · rw [if_pos c245] at h
        have c245d := dt c245
        cases h
        refine ⟨N242, fun n hn => ?_⟩
        have kN242 := kN242 n (by omega)
        try simp (maxSteps := 2000000) only [wn] at kN242
        simp (maxSteps := 2000000) only [W, reduceIte, Nat.reduceEqDiff, Nat.reduceAdd, Nat.reduceSub, Nat.reduceLT, Nat.reduceLeDiff, Nat.reduceMul, h81l0_0, q81l0_0, a81l0b, c237d, g2401, g2403, kN242, c244d, c245d]
      · rw [if_neg c245] at h
        have c245d := df c245
        by_cases c246 : (x239.toNat : Int) = 45
        · rw [if_pos c246] at h
          have c246d := dt c246
          cases h
          refine ⟨N242, fun n hn => ?_⟩
          have kN242 := kN242 n (by omega)
          try simp (maxSteps := 2000000) only [wn] at kN242
          simp (maxSteps := 2000000) only [W, reduceIte, Nat.reduceEqDiff, Nat.reduceAdd, Nat.reduceSub, Nat.reduceLT, Nat.reduceLeDiff, Nat.reduceMul, h81l0_0, q81l0_0, a81l0b, c237d, g2401, g2403, kN242, c244d, c245d, c246d]
        · rw [if_neg c246] at h
          have c246d := df c246
          obtain ⟨r249, g247, h⟩ := un1 h
          obtain ⟨N248, kN248⟩ := c75_0 (aw .i64 (x239.toNat : Int)) 48 57 _ g247
          by_cases c250 : r249 = true
          · rw [if_pos c250] at h
            have c250d := c250
            cases h
            refine ⟨N242 + N248, fun n hn => ?_⟩
            have kN242 := kN242 n (by omega)
            try simp (maxSteps := 2000000) only [wn] at kN242
            have kN248 := kN248 n (by omega)
            try simp (maxSteps := 2000000) only [wn] at kN248
            simp (maxSteps := 2000000) only [W, reduceIte, Nat.reduceEqDiff, Nat.reduceAdd, Nat.reduceSub, Nat.reduceLT, Nat.reduceLeDiff, Nat.reduceMul, h81l0_0, q81l0_0, a81l0b, c237d, g2401, g2403, kN242, c244d, c245d, c246d, kN248, c250d]
          · rw [if_neg c250] at h
            have c250d := bf c250
            cases h
            refine ⟨N242 + N248, fun n hn => ?_⟩
            have kN242 := kN242 n (by omega)
            try simp (maxSteps := 2000000) only [wn] at kN242
            have kN248 := kN248 n (by omega)
            try simp (maxSteps := 2000000) only [wn] at kN248
            simp (maxSteps := 2000000) only [W, reduceIte, Nat.reduceEqDiff, Nat.reduceAdd, Nat.reduceSub, Nat.reduceLT, Nat.reduceLeDiff, Nat.reduceMul, h81l0_0, q81l0_0, a81l0b, c237d, g2401, g2403, kN242, c244d, c245d, c246d, kN248, c250d]
theorem c81_0 (v231 : ByteArray) (r256 : Bool) (h : F81_0 v231 = some r256) : Ev fun n => (ex tab n).call 81 [.str v231] [] = some (.bool r256, []) := by
  unfold F81_0 at h
  obtain ⟨g232, h⟩ := un_roomS h
  try simp only [Nat.reduceLeDiff] at g232
  obtain ⟨g251_, g251, h⟩ := un1 h
  rcases g251_ with _ | _
  · dsimp only at h
    have kN252 := k81l0_0 v231 (v231.size : Int) (v231.data.toList) 0 _ g251
    obtain ⟨N252, kN252⟩ := kN252
    obtain ⟨r255, g253, h⟩ := un1 h
    obtain ⟨N254, kN254⟩ := c75_0 (v231.size : Int) 1 12 _ g253
    cases h
    refine ev_call (fn := a81) rfl ⟨N252 + N254, fun n hn => ?_⟩
    have kN252 := kN252 n (by omega)
    simp (maxSteps := 2000000) only [h81l0_0, q81l0_0, wn] at kN252
    have kN254 := kN254 n (by omega)
    try simp (maxSteps := 2000000) only [wn] at kN254
    simp (maxSteps := 2000000) only [W, reduceIte, Nat.reduceEqDiff, Nat.reduceAdd, Nat.reduceSub, Nat.reduceLT, Nat.reduceLeDiff, Nat.reduceMul, a81, a81l0, g232, kN252, kN254, @x_loopAt]
  · dsimp only at h
    have kN252 := k81l0_0 v231 (v231.size : Int) (v231.data.toList) 0 _ g251
    obtain ⟨N252, kN252⟩ := kN252
    cases h
    refine ev_call (fn := a81) rfl ⟨N252, fun n hn => ?_⟩
    have kN252 := kN252 n (by omega)
    simp (maxSteps := 2000000) only [h81l0_0, q81l0_0, wn] at kN252
    simp (maxSteps := 2000000) only [W, reduceIte, Nat.reduceEqDiff, Nat.reduceAdd, Nat.reduceSub, Nat.reduceLT, Nat.reduceLeDiff, Nat.reduceMul, a81, a81l0, g232, kN252, @x_loopAt]
end Go.AI
end
section
/-
  Functions, walked through: dispatch.CheckPlant, dispatch.isPrice.
-/
set_option linter.unusedVariables false
set_option linter.unusedSimpArgs false
set_option maxRecDepth 100000
set_option maxHeartbeats 4000000
namespace Go.AI
noncomputable def h30l0_0 (z0 : Bool) (v150 : Int) (v152 : List DispatchMode) (v153 : Int) (v154 : Int) : (Int) → Env × Heap
  | v151 => ([(1, .ptr (.p 1) 0), (51, .slice (.p 0) 0 v152.length v152.length 4 false), (52, .int .i64 v150), (53, .int .i64 v151)], [.row z0 true (rowC v152), .row true false [.int .i64 v153, .int .i64 v154, .slice (.p 0) 0 v152.length v152.length 4 false]])
noncomputable def q30l0_0 (z0 : Bool) (v150 : Int) (v152 : List DispatchMode) (v153 : Int) (v154 : Int) : ((Unit) ⊕ (Int × Int)) → AExit × Env × Heap
  | .inl (_) => (.exit 0, [(2, .undef), (3, .undef)], [.row z0 true (rowC v152)])
  | .inr (r305, r306) => (.ret, [(2, .int .i64 r305), (3, .int .i64 r306)], [.row z0 true (rowC v152)])
theorem k30l0_0 (z0 : Bool) (v150 : Int) (v152 : List DispatchMode) (v153 : Int) (v154 : Int) (s : Int) (o : (Unit) ⊕ (Int × Int)) (h : L30l0_0 v150 v152 v153 v154 s = some o) : Ev fun n => loopAt [1, 51, 52, 53] [2, 3] a30l0b (ex tab n) 1 (h30l0_0 z0 v150 v152 v153 v154 s) = some (q30l0_0 z0 v150 v152 v153 v154 o) := by
  refine iter_sound (S30l0_0 v150 v152 v153 v154) [1, 51, 52, 53] [2, 3] a30l0b 1 (h30l0_0 z0 v150 v152 v153 v154) (q30l0_0 z0 v150 v152 v153 v154) ?_ _ _ _ h
  rintro v151 z h
  simp only [S30l0_0] at h
  by_cases c155 : v150 ≤ v151
  · rw [if_pos c155] at h
    have c155d := dt c155
    cases h
    refine ⟨0, fun n hn => ?_⟩
    simp (maxSteps := 2000000) only [W, reduceIte, Nat.reduceEqDiff, Nat.reduceAdd, Nat.reduceSub, Nat.reduceLT, Nat.reduceLeDiff, Nat.reduceMul, h30l0_0, q30l0_0, a30l0b, rc_DispatchMode, c155d]
  · rw [if_neg c155] at h
    have c155d := df c155
    obtain ⟨j156, x157, g158, h⟩ := un2 h
    obtain ⟨g1581, g1582⟩ := geti_in g158
    have g1583 := ac_DispatchMode g1582
    try simp only [wn] at g1581
    obtain ⟨j159, g160, h⟩ := un1 h
    try simp only [wn] at g160
    obtain ⟨r213, g211, h⟩ := un1 h
    obtain ⟨N212, kN212⟩ := c78_0 z0 true j159 v152.length v152 x157.fName x157.fChange x157.fEnergy x157.fStart _ g211
    obtain ⟨r222, g220, h⟩ := un1 h
    obtain ⟨N221, kN221⟩ := c80_0 x157.fChange 10000 _ g220
    by_cases c223 : r222 = true
    · rw [if_pos c223] at h
      have c223d := c223
      obtain ⟨r226, g224, h⟩ := un1 h
      obtain ⟨N225, kN225⟩ := c80_0 x157.fEnergy 10000 _ g224
      by_cases c227 : r226 = true
      · rw [if_pos c227] at h
        have c227d := c227
        obtain ⟨r230, g228, h⟩ := un1 h
        obtain ⟨N229, kN229⟩ := c75_0 x157.fStart 0 10000 _ g228
        obtain ⟨r259, g257, h⟩ := un1 h
        obtain ⟨N258, kN258⟩ := c81_0 x157.fName _ g257
        obtain ⟨r262, g260, h⟩ := un1 h
        obtain ⟨N261, kN261⟩ := c70_0 r259 4 _ g260
        obtain ⟨r265, g263, h⟩ := un1 h
        obtain ⟨N264, kN264⟩ := c70_0 (!r213) 5 _ g263
        obtain ⟨r268, g266, h⟩ := un1 h
        obtain ⟨N267, kN267⟩ := c70_0 r230 2 _ g266
        obtain ⟨r271, g269, h⟩ := un1 h
        obtain ⟨N270, kN270⟩ := c69_0 true ([r262, r265, r268] : List Int) _ g269
        by_cases c272 : r271 = 0
        · rw [if_pos c272] at h
          have c272d := dt c272
          cases h
          refine ⟨N212 + N221 + N225 + N229 + N258 + N261 + N264 + N267 + N270, fun n hn => ?_⟩
          have kN212 := kN212 n (by omega)
          try simp (maxSteps := 2000000) only [wn, rc_DispatchMode] at kN212
          have kN221 := kN221 n (by omega)
          try simp (maxSteps := 2000000) only [wn, rc_DispatchMode] at kN221
          have kN225 := kN225 n (by omega)
          try simp (maxSteps := 2000000) only [wn, rc_DispatchMode] at kN225
          have kN229 := kN229 n (by omega)
          try simp (maxSteps := 2000000) only [wn, rc_DispatchMode] at kN229
          have kN258 := kN258 n (by omega)
          try simp (maxSteps := 2000000) only [wn, rc_DispatchMode] at kN258
          have kN261 := kN261 n (by omega)
          try simp (maxSteps := 2000000) only [wn, rc_DispatchMode] at kN261
          have kN264 := kN264 n (by omega)
          try simp (maxSteps := 2000000) only [wn, rc_DispatchMode] at kN264
          have kN267 := kN267 n (by omega)
          try simp (maxSteps := 2000000) only [wn, rc_DispatchMode] at kN267
          have kN270 := kN270 n (by omega)
          try simp (maxSteps := 2000000) only [wn, rc_DispatchMode] at kN270
          simp (maxSteps := 2000000) only [W, reduceIte, Nat.reduceEqDiff, Nat.reduceAdd, Nat.reduceSub, Nat.reduceLT, Nat.reduceLeDiff, Nat.reduceMul, h30l0_0, q30l0_0, a30l0b, rc_DispatchMode, c155d, g1581, g1583, g160, kN212, kN221, c223d, kN225, c227d, kN229, kN258, kN261, kN264, kN267, kN270, c272d]
        · rw [if_neg c272] at h
          have c272d := df c272
          cases h
          refine ⟨N212 + N221 + N225 + N229 + N258 + N261 + N264 + N267 + N270, fun n hn => ?_⟩
          have kN212 := kN212 n (by omega)
          try simp (maxSteps := 2000000) only [wn, rc_DispatchMode] at kN212
          have kN221 := kN221 n (by omega)
          try simp (maxSteps := 2000000) only [wn, rc_DispatchMode] at kN221
          have kN225 := kN225 n (by omega)
          try simp (maxSteps := 2000000) only [wn, rc_DispatchMode] at kN225
          have kN229 := kN229 n (by omega)
          try simp (maxSteps := 2000000) only [wn, rc_DispatchMode] at kN229
          have kN258 := kN258 n (by omega)
          try simp (maxSteps := 2000000) only [wn, rc_DispatchMode] at kN258
          have kN261 := kN261 n (by omega)
          try simp (maxSteps := 2000000) only [wn, rc_DispatchMode] at kN261
          have kN264 := kN264 n (by omega)
          try simp (maxSteps := 2000000) only [wn, rc_DispatchMode] at kN264
          have kN267 := kN267 n (by omega)
          try simp (maxSteps := 2000000) only [wn, rc_DispatchMode] at kN267
          have kN270 := kN270 n (by omega)
          try simp (maxSteps := 2000000) only [wn, rc_DispatchMode] at kN270
          simp (maxSteps := 2000000) only [W, reduceIte, Nat.reduceEqDiff, Nat.reduceAdd, Nat.reduceSub, Nat.reduceLT, Nat.reduceLeDiff, Nat.reduceMul, h30l0_0, q30l0_0, a30l0b, rc_DispatchMode, c155d, g1581, g1583, g160, kN212, kN221, c223d, kN225, c227d, kN229, kN258, kN261, kN264, kN267, kN270, c272d]
      · rw [if_neg c227] at h
        have c227d := bf c227
        obtain ⟨r275, g273, h⟩ := un1 h
        obtain ⟨N274, kN274⟩ := c81_0 x157.fName _ g273
        obtain ⟨r278, g276, h⟩ := un1 h
        obtain ⟨N277, kN277⟩ := c70_0 r275 4 _ g276
        obtain ⟨r281, g279, h⟩ := un1 h
        obtain ⟨N280, kN280⟩ := c70_0 (!r213) 5 _ g279
        obtain ⟨r284, g282, h⟩ := un1 h
        obtain ⟨N283, kN283⟩ := c70_0 false 2 _ g282
        obtain ⟨r287, g285, h⟩ := un1 h
        obtain ⟨N286, kN286⟩ := c69_0 true ([r278, r281, r284] : List Int) _ g285
        by_cases c288 : r287 = 0
        · rw [if_pos c288] at h
          have c288d := dt c288
          cases h
          refine ⟨N212 + N221 + N225 + N274 + N277 + N280 + N283 + N286, fun n hn => ?_⟩
          have kN212 := kN212 n (by omega)
          try simp (maxSteps := 2000000) only [wn, rc_DispatchMode] at kN212
          have kN221 := kN221 n (by omega)
          try simp (maxSteps := 2000000) only [wn, rc_DispatchMode] at kN221
          have kN225 := kN225 n (by omega)
          try simp (maxSteps := 2000000) only [wn, rc_DispatchMode] at kN225
          have kN274 := kN274 n (by omega)
          try simp (maxSteps := 2000000) only [wn, rc_DispatchMode] at kN274
          have kN277 := kN277 n (by omega)
          try simp (maxSteps := 2000000) only [wn, rc_DispatchMode] at kN277
          have kN280 := kN280 n (by omega)
          try simp (maxSteps := 2000000) only [wn, rc_DispatchMode] at kN280
          have kN283 := kN283 n (by omega)
          try simp (maxSteps := 2000000) only [wn, rc_DispatchMode] at kN283
          have kN286 := kN286 n (by omega)
          try simp (maxSteps := 2000000) only [wn, rc_DispatchMode] at kN286
          simp (maxSteps := 2000000) only [W, reduceIte, Nat.reduceEqDiff, Nat.reduceAdd, Nat.reduceSub, Nat.reduceLT, Nat.reduceLeDiff, Nat.reduceMul, h30l0_0, q30l0_0, a30l0b, rc_DispatchMode, c155d, g1581, g1583, g160, kN212, kN221, c223d, kN225, c227d, kN274, kN277, kN280, kN283, kN286, c288d]
        · rw [if_neg c288] at h
          have c288d := df c288
          cases h
          refine ⟨N212 + N221 + N225 + N274 + N277 + N280 + N283 + N286, fun n hn => ?_⟩
          have kN212 := kN212 n (by omega)
          try simp (maxSteps := 2000000) only [wn, rc_DispatchMode] at kN212
          have kN221 := kN221 n (by omega)
          try simp (maxSteps := 2000000) only [wn, rc_DispatchMode] at kN221
          have kN225 := kN225 n (by omega)
          try simp (maxSteps := 2000000) only [wn, rc_DispatchMode] at kN225
          have kN274 := kN274 n (by omega)
          try simp (maxSteps := 2000000) only [wn, rc_DispatchMode] at kN274
          have kN277 := kN277 n (by omega)
          try simp (maxSteps := 2000000) only [wn, rc_DispatchMode] at kN277
          have kN280 := kN280 n (by omega)
          try simp (maxSteps := 2000000) only [wn, rc_DispatchMode] at kN280
          have kN283 := kN283 n (by omega)
          try simp (maxSteps := 2000000) only [wn, rc_DispatchMode] at kN283
          have kN286 := kN286 n (by omega)
          try simp (maxSteps := 2000000) only [wn, rc_DispatchMode] at kN286
          simp (maxSteps := 2000000) only [W, reduceIte, Nat.reduceEqDiff, Nat.reduceAdd, Nat.reduceSub, Nat.reduceLT, Nat.reduceLeDiff, Nat.reduceMul, h30l0_0, q30l0_0, a30l0b, rc_DispatchMode, c155d, g1581, g1583, g160, kN212, kN221, c223d, kN225, c227d, kN274, kN277, kN280, kN283, kN286, c288d]
    · rw [if_neg c223] at h
      have c223d := bf c223
      obtain ⟨r291, g289, h⟩ := un1 h
      obtain ⟨N290, kN290⟩ := c81_0 x157.fName _ g289
      obtain ⟨r294, g292, h⟩ := un1 h
      obtain ⟨N293, kN293⟩ := c70_0 r291 4 _ g292
      obtain ⟨r297, g295, h⟩ := un1 h
      obtain ⟨N296, kN296⟩ := c70_0 (!r213) 5 _ g295
      obtain ⟨r300, g298, h⟩ := un1 h
      obtain ⟨N299, kN299⟩ := c70_0 false 2 _ g298
      obtain ⟨r303, g301, h⟩ := un1 h
      obtain ⟨N302, kN302⟩ := c69_0 true ([r294, r297, r300] : List Int) _ g301
      by_cases c304 : r303 = 0
      · rw [if_pos c304] at h
        have c304d := dt c304
        cases h
        refine ⟨N212 + N221 + N290 + N293 + N296 + N299 + N302, fun n hn => ?_⟩
        have kN212 := kN212 n (by omega)
        try simp (maxSteps := 2000000) only [wn, rc_DispatchMode] at kN212
        have kN221 := kN221 n (by omega)
        try simp (maxSteps := 2000000) only [wn, rc_DispatchMode] at kN221
        have kN290 := kN290 n (by omega)
        try simp (maxSteps := 2000000) only [wn, rc_DispatchMode] at kN290
        have kN293 := kN293 n (by omega)
        try simp (maxSteps := 2000000) only [wn, rc_DispatchMode] at kN293
        have kN296 := kN296 n (by omega)
        try simp (maxSteps := 2000000) only [wn, rc_DispatchMode] at kN296
        have kN299 := kN299 n (by omega)
        try simp (maxSteps := 2000000) only [wn, rc_DispatchMode] at kN299
        have kN302 := kN302 n (by omega)
        try simp (maxSteps := 2000000) only [wn, rc_DispatchMode] at kN302
        simp (maxSteps := 2000000) only [W, reduceIte, Nat.reduceEqDiff, Nat.reduceAdd, Nat.reduceSub, Nat.reduceLT, Nat.reduceLeDiff, Nat.reduceMul, h30l0_0, q30l0_0, a30l0b, rc_DispatchMode, c155d, g1581, g1583, g160, kN212, kN221, c223d, kN290, kN293, kN296, kN299, kN302, c304d]
      · rw [if_neg c304] at h
        have c304d := df c304
        cases h
        refine ⟨N212 + N221 + N290 + N293 + N296 + N299 + N302, fun n hn => ?_⟩
        have kN212 := kN212 n (by omega)
        try simp (maxSteps := 2000000) only [wn, rc_DispatchMode] at kN212
        have kN221 := kN221 n (by omega)
        try simp (maxSteps := 2000000) only [wn, rc_DispatchMode] at kN221
        have kN290 := kN290 n (by omega)
        try simp (maxSteps := 2000000) only [wn, rc_DispatchMode] at kN290
        have kN293 := kN293 n (by omega)
        try simp (maxSteps := 2000000) only [wn, rc_DispatchMode] at kN293
        have kN296 := kN296 n (by omega)
        try simp (maxSteps := 2000000) only [wn, rc_DispatchMode] at kN296
        have kN299 := kN299 n (by omega)
        try simp (maxSteps := 2000000) only [wn, rc_DispatchMode] at kN299
        have kN302 := kN302 n (by omega)
        try simp (maxSteps := 2000000) only [wn, rc_DispatchMode] at kN302
        simp (maxSteps := 2000000) only [W, reduceIte, Nat.reduceEqDiff, Nat.reduceAdd, Nat.reduceSub, Nat.reduceLT, Nat.reduceLeDiff, Nat.reduceMul, h30l0_0, q30l0_0, a30l0b, rc_DispatchMode, c155d, g1581, g1583, g160, kN212, kN221, c223d, kN290, kN293, kN296, kN299, kN302, c304d]
theorem c30_0 (z0 : Bool) (v93 : Int) (v94 : Int) (v95 : List DispatchMode) (r334 : Int) (r335 : Int) (h : F30_0 v93 v94 v95 = some (r334, r335)) : Ev fun n => (ex tab n).call 30 [.agg [.int .i64 v93, .int .i64 v94, .slice (.p 0) 0 v95.length v95.length 4 false]] [.row z0 true (rowC v95)] = some (.tup [.int .i64 r334, .int .i64 r335], [.row z0 true (rowC v95)]) := by
  unfold F30_0 at h
  obtain ⟨r108, g106, h⟩ := un1 h
  obtain ⟨N107, kN107⟩ := c77_0 v93 _ g106
  by_cases c109 : r108 = true
  · rw [if_pos c109] at h
    have c109d := c109
    obtain ⟨r112, g110, h⟩ := un1 h
    obtain ⟨N111, kN111⟩ := c77_0 v94 _ g110
    obtain ⟨r119, g117, h⟩ := un1 h
    obtain ⟨N118, kN118⟩ := c70_0 r112 2 _ g117
    obtain ⟨r122, g120, h⟩ := un1 h
    obtain ⟨N121, kN121⟩ := c70_0 (decide (v93 ≤ v94)) 9 _ g120
    obtain ⟨r125, g123, h⟩ := un1 h
    obtain ⟨N124, kN124⟩ := c70_0 (!(decide (40 ≤ (aw .i64 (v94 - v93))))) 8 _ g123
    obtain ⟨r128, g126, h⟩ := un1 h
    obtain ⟨N127, kN127⟩ := c70_0 (!(decide ((v95.length : Int) ≤ 0))) 10 _ g126
    obtain ⟨r131, g129, h⟩ := un1 h
    obtain ⟨N130, kN130⟩ := c70_0 (decide ((v95.length : Int) ≤ 5)) 8 _ g129
    obtain ⟨r148, g146, h⟩ := un1 h
    obtain ⟨N147, kN147⟩ := c69_0 true ([r119, r122, r125, r128, r131] : List Int) _ g146
    by_cases c149 : r148 = 0
    · rw [if_pos c149] at h
      have c149d := dt c149
      obtain ⟨g307_, g307, h⟩ := un1 h
      rcases g307_ with _ | ⟨r309, r310⟩
      · dsimp only at h
        have kN308 := k30l0_0 z0 (v95.length : Int) v95 v93 v94 0 _ g307
        obtain ⟨N308, kN308⟩ := kN308
        cases h
        refine ev_call (fn := a30) rfl ⟨N107 + N111 + N118 + N121 + N124 + N127 + N130 + N147 + N308, fun n hn => ?_⟩
        have kN107 := kN107 n (by omega)
        try simp (maxSteps := 2000000) only [wn] at kN107
        have kN111 := kN111 n (by omega)
        try simp (maxSteps := 2000000) only [wn] at kN111
        have kN118 := kN118 n (by omega)
        try simp (maxSteps := 2000000) only [wn] at kN118
        have kN121 := kN121 n (by omega)
        try simp (maxSteps := 2000000) only [wn] at kN121
        have kN124 := kN124 n (by omega)
        try simp (maxSteps := 2000000) only [wn] at kN124
        have kN127 := kN127 n (by omega)
        try simp (maxSteps := 2000000) only [wn] at kN127
        have kN130 := kN130 n (by omega)
        try simp (maxSteps := 2000000) only [wn] at kN130
        have kN147 := kN147 n (by omega)
        try simp (maxSteps := 2000000) only [wn] at kN147
        have kN308 := kN308 n (by omega)
        simp (maxSteps := 2000000) only [h30l0_0, q30l0_0, wn, rc_DispatchMode] at kN308
        simp (maxSteps := 2000000) only [W, reduceIte, Nat.reduceEqDiff, Nat.reduceAdd, Nat.reduceSub, Nat.reduceLT, Nat.reduceLeDiff, Nat.reduceMul, a30, a30l0, rc_DispatchMode, kN107, c109d, kN111, kN118, kN121, kN124, kN127, kN130, kN147, c149d, kN308, @x_loopAt, wd]
      · dsimp only at h
        have kN308 := k30l0_0 z0 (v95.length : Int) v95 v93 v94 0 _ g307
        obtain ⟨N308, kN308⟩ := kN308
        cases h
        refine ev_call (fn := a30) rfl ⟨N107 + N111 + N118 + N121 + N124 + N127 + N130 + N147 + N308, fun n hn => ?_⟩
        have kN107 := kN107 n (by omega)
        try simp (maxSteps := 2000000) only [wn] at kN107
        have kN111 := kN111 n (by omega)
        try simp (maxSteps := 2000000) only [wn] at kN111
        have kN118 := kN118 n (by omega)
        try simp (maxSteps := 2000000) only [wn] at kN118
        have kN121 := kN121 n (by omega)
        try simp (maxSteps := 2000000) only [wn] at kN121
        have kN124 := kN124 n (by omega)
        try simp (maxSteps := 2000000) only [wn] at kN124
        have kN127 := kN127 n (by omega)
        try simp (maxSteps := 2000000) only [wn] at kN127
        have kN130 := kN130 n (by omega)
        try simp (maxSteps := 2000000) only [wn] at kN130
        have kN147 := kN147 n (by omega)
        try simp (maxSteps := 2000000) only [wn] at kN147
        have kN308 := kN308 n (by omega)
        simp (maxSteps := 2000000) only [h30l0_0, q30l0_0, wn, rc_DispatchMode] at kN308
        simp (maxSteps := 2000000) only [W, reduceIte, Nat.reduceEqDiff, Nat.reduceAdd, Nat.reduceSub, Nat.reduceLT, Nat.reduceLeDiff, Nat.reduceMul, a30, a30l0, rc_DispatchMode, kN107, c109d, kN111, kN118, kN121, kN124, kN127, kN130, kN147, c149d, kN308, @x_loopAt, wd]
    · rw [if_neg c149] at h
      have c149d := df c149
      cases h
      refine ev_call (fn := a30) rfl ⟨N107 + N111 + N118 + N121 + N124 + N127 + N130 + N147, fun n hn => ?_⟩
      have kN107 := kN107 n (by omega)
      try simp (maxSteps := 2000000) only [wn] at kN107
      have kN111 := kN111 n (by omega)
      try simp (maxSteps := 2000000) only [wn] at kN111
      have kN118 := kN118 n (by omega)
      try simp (maxSteps := 2000000) only [wn] at kN118
      have kN121 := kN121 n (by omega)
      try simp (maxSteps := 2000000) only [wn] at kN121
      have kN124 := kN124 n (by omega)
      try simp (maxSteps := 2000000) only [wn] at kN124
      have kN127 := kN127 n (by omega)
      try simp (maxSteps := 2000000) only [wn] at kN127
      have kN130 := kN130 n (by omega)
      try simp (maxSteps := 2000000) only [wn] at kN130
      have kN147 := kN147 n (by omega)
      try simp (maxSteps := 2000000) only [wn] at kN147
      simp (maxSteps := 2000000) only [W, reduceIte, Nat.reduceEqDiff, Nat.reduceAdd, Nat.reduceSub, Nat.reduceLT, Nat.reduceLeDiff, Nat.reduceMul, a30, a30l0, rc_DispatchMode, kN107, c109d, kN111, kN118, kN121, kN124, kN127, kN130, kN147, c149d, @x_loopAt, wd]
  · rw [if_neg c109] at h
    have c109d := bf c109
    obtain ⟨r313, g311, h⟩ := un1 h
    obtain ⟨N312, kN312⟩ := c70_0 false 2 _ g311
    obtain ⟨r316, g314, h⟩ := un1 h
    obtain ⟨N315, kN315⟩ := c70_0 (decide (v93 ≤ v94)) 9 _ g314
    obtain ⟨r319, g317, h⟩ := un1 h
    obtain ⟨N318, kN318⟩ := c70_0 (!(decide (40 ≤ (aw .i64 (v94 - v93))))) 8 _ g317
    obtain ⟨r322, g320, h⟩ := un1 h
    obtain ⟨N321, kN321⟩ := c70_0 (!(decide ((v95.length : Int) ≤ 0))) 10 _ g320
    obtain ⟨r325, g323, h⟩ := un1 h
    obtain ⟨N324, kN324⟩ := c70_0 (decide ((v95.length : Int) ≤ 5)) 8 _ g323
    obtain ⟨r328, g326, h⟩ := un1 h
    obtain ⟨N327, kN327⟩ := c69_0 true ([r313, r316, r319, r322, r325] : List Int) _ g326
    by_cases c329 : r328 = 0
    · rw [if_pos c329] at h
      have c329d := dt c329
      obtain ⟨g330_, g330, h⟩ := un1 h
      rcases g330_ with _ | ⟨r332, r333⟩
      · dsimp only at h
        have kN331 := k30l0_0 z0 (v95.length : Int) v95 v93 v94 0 _ g330
        obtain ⟨N331, kN331⟩ := kN331
        cases h
        refine ev_call (fn := a30) rfl ⟨N107 + N312 + N315 + N318 + N321 + N324 + N327 + N331, fun n hn => ?_⟩
        have kN107 := kN107 n (by omega)
        try simp (maxSteps := 2000000) only [wn] at kN107
        have kN312 := kN312 n (by omega)
        try simp (maxSteps := 2000000) only [wn, rc_DispatchMode] at kN312
        have kN315 := kN315 n (by omega)
        try simp (maxSteps := 2000000) only [wn, rc_DispatchMode] at kN315
        have kN318 := kN318 n (by omega)
        try simp (maxSteps := 2000000) only [wn, rc_DispatchMode] at kN318
        have kN321 := kN321 n (by omega)
        try simp (maxSteps := 2000000) only [wn, rc_DispatchMode] at kN321
        have kN324 := kN324 n (by omega)
        try simp (maxSteps := 2000000) only [wn, rc_DispatchMode] at kN324
        have kN327 := kN327 n (by omega)
        try simp (maxSteps := 2000000) only [wn, rc_DispatchMode] at kN327
        have kN331 := kN331 n (by omega)
        simp (maxSteps := 2000000) only [h30l0_0, q30l0_0, wn, rc_DispatchMode] at kN331
        simp (maxSteps := 2000000) only [W, reduceIte, Nat.reduceEqDiff, Nat.reduceAdd, Nat.reduceSub, Nat.reduceLT, Nat.reduceLeDiff, Nat.reduceMul, a30, a30l0, rc_DispatchMode, kN107, c109d, kN312, kN315, kN318, kN321, kN324, kN327, c329d, kN331, @x_loopAt, wd]
      · dsimp only at h
        have kN331 := k30l0_0 z0 (v95.length : Int) v95 v93 v94 0 _ g330
        obtain ⟨N331, kN331⟩ := kN331
        cases h
        refine ev_call (fn := a30) rfl ⟨N107 + N312 + N315 + N318 + N321 + N324 + N327 + N331, fun n hn => ?_⟩
        have kN107 := kN107 n (by omega)
        try simp (maxSteps := 2000000) only [wn] at kN107
        have kN312 := kN312 n (by omega)
        try simp (maxSteps := 2000000) only [wn, rc_DispatchMode] at kN312
        have kN315 := kN315 n (by omega)
        try simp (maxSteps := 2000000) only [wn, rc_DispatchMode] at kN315
        have kN318 := kN318 n (by omega)
        try simp (maxSteps := 2000000) only [wn, rc_DispatchMode] at kN318
        have kN321 := kN321 n (by omega)
        try simp (maxSteps := 2000000) only [wn, rc_DispatchMode] at kN321
        have kN324 := kN324 n (by omega)
        try simp (maxSteps := 2000000) only [wn, rc_DispatchMode] at kN324
        have kN327 := kN327 n (by omega)
        try simp (maxSteps := 2000000) only [wn, rc_DispatchMode] at kN327
        have kN331 := kN331 n (by omega)
        simp (maxSteps := 2000000) only [h30l0_0, q30l0_0, wn, rc_DispatchMode] at kN331
        simp (maxSteps := 2000000) only [W, reduceIte, Nat.reduceEqDiff, Nat.reduceAdd, Nat.reduceSub, Nat.reduceLT, Nat.reduceLeDiff, Nat.reduceMul, a30, a30l0, rc_DispatchMode, kN107, c109d, kN312, kN315, kN318, kN321, kN324, kN327, c329d, kN331, @x_loopAt, wd]
    · rw [if_neg c329] at h
      have c329d := df c329
      cases h
      refine ev_call (fn := a30) rfl ⟨N107 + N312 + N315 + N318 + N321 + N324 + N327, fun n hn => ?_⟩
      have kN107 := kN107 n (by omega)
      try simp (maxSteps := 2000000) only [wn] at kN107
      have kN312 := kN312 n (by omega)
      try simp (maxSteps := 2000000) only [wn, rc_DispatchMode] at kN312
      have kN315 := kN315 n (by omega)
      try simp (maxSteps := 2000000) only [wn, rc_DispatchMode] at kN315
      have kN318 := kN318 n (by omega)
      try simp (maxSteps := 2000000) only [wn, rc_DispatchMode] at kN318
      have kN321 := kN321 n (by omega)
      try simp (maxSteps := 2000000) only [wn, rc_DispatchMode] at kN321
      have kN324 := kN324 n (by omega)
      try simp (maxSteps := 2000000) only [wn, rc_DispatchMode] at kN324
      have kN327 := kN327 n (by omega)
      try simp (maxSteps := 2000000) only [wn, rc_DispatchMode] at kN327
      simp (maxSteps := 2000000) only [W, reduceIte, Nat.reduceEqDiff, Nat.reduceAdd, Nat.reduceSub, Nat.reduceLT, Nat.reduceLeDiff, Nat.reduceMul, a30, a30l0, rc_DispatchMode, kN107, c109d, kN312, kN315, kN318, kN321, kN324, kN327, c329d, @x_loopAt, wd]
theorem c82_0 (v352 : Int) (r356 : Bool) (h : F82_0 v352 = some r356) : Ev fun n => (ex tab n).call 82 [.int .i64 v352] [] = some (.bool r356, []) := by
  unfold F82_0 at h
  obtain ⟨r355, g353, h⟩ := un1 h
  obtain ⟨N354, kN354⟩ := c80_0 v352 10000 _ g353
  cases h
  refine ev_call (fn := a82) rfl ⟨N354, fun n hn => ?_⟩
  have kN354 := kN354 n (by omega)
  try simp (maxSteps := 2000000) only [wn] at kN354
  simp (maxSteps := 2000000) only [W, reduceIte, Nat.reduceEqDiff, Nat.reduceAdd, Nat.reduceSub, Nat.reduceLT, Nat.reduceLeDiff, Nat.reduceMul, a82, kN354]
end Go.AI
end
section
/-
  Functions, walked through: dispatch.CheckTask, dispatch.open, dispatch.work).isMode, dispatch.openPlan$1, slices.IndexFunc[[]int,int], slices.ContainsFunc[[]int,int], dispatch.work).after, dispatch.work).isVolume.
-/
set_option linter.unusedVariables false
set_option linter.unusedSimpArgs false
set_option maxRecDepth 100000
set_option maxHeartbeats 4000000
namespace Go.AI
noncomputable def h31l0_0 (z0 : Bool) (z1 : Bool) (v373 : Int) (v375 : List DispatchMode) (v376 : List DispatchHour) : (Int) → Env × Heap
  | v374 => ([(53, .slice (.p 1) 0 v376.length v376.length 3 false), (54, .int .i64 v373), (55, .int .i64 v374)], [.row z0 true (rowC v375), .row z1 true (rowC v376)])
noncomputable def q31l0_0 (z0 : Bool) (z1 : Bool) (v373 : Int) (v375 : List DispatchMode) (v376 : List DispatchHour) : ((Unit) ⊕ (Int × Int)) → AExit × Env × Heap
  | .inl (_) => (.exit 0, [(4, .undef), (5, .undef)], [.row z0 true (rowC v375), .row z1 true (rowC v376)])
  | .inr (r422, r423) => (.ret, [(4, .int .i64 r422), (5, .int .i64 r423)], [.row z0 true (rowC v375), .row z1 true (rowC v376)])
theorem k31l0_0 (z0 : Bool) (z1 : Bool) (v373 : Int) (v375 : List DispatchMode) (v376 : List DispatchHour) (s : Int) (o : (Unit) ⊕ (Int × Int)) (h : L31l0_0 v373 v375 v376 s = some o) : Ev fun n => loopAt [53, 54, 55] [4, 5] a31l0b (ex tab n) 2 (h31l0_0 z0 z1 v373 v375 v376 s) = some (q31l0_0 z0 z1 v373 v375 v376 o) := by
  refine iter_sound (S31l0_0 v373 v375 v376) [53, 54, 55] [4, 5] a31l0b 2 (h31l0_0 z0 z1 v373 v375 v376) (q31l0_0 z0 z1 v373 v375 v376) ?_ _ _ _ h
  rintro v374 z h
  simp only [S31l0_0] at h
  by_cases c377 : v373 ≤ v374
  · rw [if_pos c377] at h
    have c377d := dt c377
    cases h
    refine ⟨0, fun n hn => ?_⟩
    simp (maxSteps := 2000000) only [W, reduceIte, Nat.reduceEqDiff, Nat.reduceAdd, Nat.reduceSub, Nat.reduceLT, Nat.reduceLeDiff, Nat.reduceMul, h31l0_0, q31l0_0, a31l0b, rc_DispatchHour, c377d, wd]
  · rw [if_neg c377] at h
    have c377d := df c377
    obtain ⟨j378, x379, g380, h⟩ := un2 h
    obtain ⟨g3801, g3802⟩ := geti_in g380
    have g3803 := ac_DispatchHour g3802
    try simp only [wn] at g3801
    obtain ⟨r383, g381, h⟩ := un1 h
    obtain ⟨N382, kN382⟩ := c82_0 x379.fBuy _ g381
    by_cases c384 : r383 = true
    · rw [if_pos c384] at h
      have c384d := c384
      obtain ⟨r387, g385, h⟩ := un1 h
      obtain ⟨N386, kN386⟩ := c82_0 x379.fSell _ g385
      by_cases c388 : r387 = true
      · rw [if_pos c388] at h
        have c388d := c388
        obtain ⟨r391, g389, h⟩ := un1 h
        obtain ⟨N390, kN390⟩ := c82_0 x379.fInflow _ g389
        obtain ⟨r394, g392, h⟩ := un1 h
        obtain ⟨N393, kN393⟩ := c70_0 r391 2 _ g392
        obtain ⟨r397, g395, h⟩ := un1 h
        obtain ⟨N396, kN396⟩ := c70_0 (decide (x379.fSell ≤ x379.fBuy)) 9 _ g395
        obtain ⟨r400, g398, h⟩ := un1 h
        obtain ⟨N399, kN399⟩ := c69_0 true ([r394, r397] : List Int) _ g398
        by_cases c401 : r400 = 0
        · rw [if_pos c401] at h
          have c401d := dt c401
          cases h
          refine ⟨N382 + N386 + N390 + N393 + N396 + N399, fun n hn => ?_⟩
          have kN382 := kN382 n (by omega)
          try simp (maxSteps := 2000000) only [wn, rc_DispatchHour] at kN382
          have kN386 := kN386 n (by omega)
          try simp (maxSteps := 2000000) only [wn, rc_DispatchHour] at kN386
          have kN390 := kN390 n (by omega)
          try simp (maxSteps := 2000000) only [wn, rc_DispatchHour] at kN390
          have kN393 := kN393 n (by omega)
          try simp (maxSteps := 2000000) only [wn, rc_DispatchHour] at kN393
          have kN396 := kN396 n (by omega)
          try simp (maxSteps := 2000000) only [wn, rc_DispatchHour] at kN396
          have kN399 := kN399 n (by omega)
          try simp (maxSteps := 2000000) only [wn, rc_DispatchHour] at kN399
          simp (maxSteps := 2000000) only [W, reduceIte, Nat.reduceEqDiff, Nat.reduceAdd, Nat.reduceSub, Nat.reduceLT, Nat.reduceLeDiff, Nat.reduceMul, h31l0_0, q31l0_0, a31l0b, rc_DispatchHour, c377d, g3801, g3803, kN382, c384d, kN386, c388d, kN390, kN393, kN396, kN399, c401d, wd]
        · rw [if_neg c401] at h
          have c401d := df c401
          cases h
          refine ⟨N382 + N386 + N390 + N393 + N396 + N399, fun n hn => ?_⟩
          have kN382 := kN382 n (by omega)
          try simp (maxSteps := 2000000) only [wn, rc_DispatchHour] at kN382
          have kN386 := kN386 n (by omega)
          try simp (maxSteps := 2000000) only [wn, rc_DispatchHour] at kN386
          have kN390 := kN390 n (by omega)
          try simp (maxSteps := 2000000) only [wn, rc_DispatchHour] at kN390
          have kN393 := kN393 n (by omega)
          try simp (maxSteps := 2000000) only [wn, rc_DispatchHour] at kN393
          have kN396 := kN396 n (by omega)
          try simp (maxSteps := 2000000) only [wn, rc_DispatchHour] at kN396
          have kN399 := kN399 n (by omega)
          try simp (maxSteps := 2000000) only [wn, rc_DispatchHour] at kN399
          simp (maxSteps := 2000000) only [W, reduceIte, Nat.reduceEqDiff, Nat.reduceAdd, Nat.reduceSub, Nat.reduceLT, Nat.reduceLeDiff, Nat.reduceMul, h31l0_0, q31l0_0, a31l0b, rc_DispatchHour, c377d, g3801, g3803, kN382, c384d, kN386, c388d, kN390, kN393, kN396, kN399, c401d, wd]
      · rw [if_neg c388] at h
        have c388d := bf c388
        obtain ⟨r404, g402, h⟩ := un1 h
        obtain ⟨N403, kN403⟩ := c70_0 false 2 _ g402
        obtain ⟨r407, g405, h⟩ := un1 h
        obtain ⟨N406, kN406⟩ := c70_0 (decide (x379.fSell ≤ x379.fBuy)) 9 _ g405
        obtain ⟨r410, g408, h⟩ := un1 h
        obtain ⟨N409, kN409⟩ := c69_0 true ([r404, r407] : List Int) _ g408
        by_cases c411 : r410 = 0
        · rw [if_pos c411] at h
          have c411d := dt c411
          cases h
          refine ⟨N382 + N386 + N403 + N406 + N409, fun n hn => ?_⟩
          have kN382 := kN382 n (by omega)
          try simp (maxSteps := 2000000) only [wn, rc_DispatchHour] at kN382
          have kN386 := kN386 n (by omega)
          try simp (maxSteps := 2000000) only [wn, rc_DispatchHour] at kN386
          have kN403 := kN403 n (by omega)
          try simp (maxSteps := 2000000) only [wn, rc_DispatchHour] at kN403
          have kN406 := kN406 n (by omega)
          try simp (maxSteps := 2000000) only [wn, rc_DispatchHour] at kN406
          have kN409 := kN409 n (by omega)
          try simp (maxSteps := 2000000) only [wn, rc_DispatchHour] at kN409
          simp (maxSteps := 2000000) only [W, reduceIte, Nat.reduceEqDiff, Nat.reduceAdd, Nat.reduceSub, Nat.reduceLT, Nat.reduceLeDiff, Nat.reduceMul, h31l0_0, q31l0_0, a31l0b, rc_DispatchHour, c377d, g3801, g3803, kN382, c384d, kN386, c388d, kN403, kN406, kN409, c411d, wd]
        · rw [if_neg c411] at h
          have c411d := df c411
          cases h
          refine ⟨N382 + N386 + N403 + N406 + N409, fun n hn => ?_⟩
          have kN382 := kN382 n (by omega)
          try simp (maxSteps := 2000000) only [wn, rc_DispatchHour] at kN382
          have kN386 := kN386 n (by omega)
          try simp (maxSteps := 2000000) only [wn, rc_DispatchHour] at kN386
          have kN403 := kN403 n (by omega)
          try simp (maxSteps := 2000000) only [wn, rc_DispatchHour] at kN403
          have kN406 := kN406 n (by omega)
          try simp (maxSteps := 2000000) only [wn, rc_DispatchHour] at kN406
          have kN409 := kN409 n (by omega)
          try simp (maxSteps := 2000000) only [wn, rc_DispatchHour] at kN409
          simp (maxSteps := 2000000) only [W, reduceIte, Nat.reduceEqDiff, Nat.reduceAdd, Nat.reduceSub, Nat.reduceLT, Nat.reduceLeDiff, Nat.reduceMul, h31l0_0, q31l0_0, a31l0b, rc_DispatchHour, c377d, g3801, g3803, kN382, c384d, kN386, c388d, kN403, kN406, kN409, c411d, wd]
    · rw [if_neg c384] at h
      have c384d := bf c384
      obtain ⟨r414, g412, h⟩ := un1 h
      obtain ⟨N413, kN413⟩ := c70_0 false 2 _ g412
      obtain ⟨r417, g415, h⟩ := un1 h
      obtain ⟨N416, kN416⟩ := c70_0 (decide (x379.fSell ≤ x379.fBuy)) 9 _ g415
      obtain ⟨r420, g418, h⟩ := un1 h
      obtain ⟨N419, kN419⟩ := c69_0 true ([r414, r417] : List Int) _ g418
      by_cases c421 : r420 = 0
      · rw [if_pos c421] at h
        have c421d := dt c421
        cases h
        refine ⟨N382 + N413 + N416 + N419, fun n hn => ?_⟩
        have kN382 := kN382 n (by omega)
        try simp (maxSteps := 2000000) only [wn, rc_DispatchHour] at kN382
        have kN413 := kN413 n (by omega)
        try simp (maxSteps := 2000000) only [wn, rc_DispatchHour] at kN413
        have kN416 := kN416 n (by omega)
        try simp (maxSteps := 2000000) only [wn, rc_DispatchHour] at kN416
        have kN419 := kN419 n (by omega)
        try simp (maxSteps := 2000000) only [wn, rc_DispatchHour] at kN419
        simp (maxSteps := 2000000) only [W, reduceIte, Nat.reduceEqDiff, Nat.reduceAdd, Nat.reduceSub, Nat.reduceLT, Nat.reduceLeDiff, Nat.reduceMul, h31l0_0, q31l0_0, a31l0b, rc_DispatchHour, c377d, g3801, g3803, kN382, c384d, kN413, kN416, kN419, c421d, wd]
      · rw [if_neg c421] at h
        have c421d := df c421
        cases h
        refine ⟨N382 + N413 + N416 + N419, fun n hn => ?_⟩
        have kN382 := kN382 n (by omega)
        try simp (maxSteps := 2000000) only [wn, rc_DispatchHour] at kN382
        have kN413 := kN413 n (by omega)
        try simp (maxSteps := 2000000) only [wn, rc_DispatchHour] at kN413
        have kN416 := kN416 n (by omega)
        try simp (maxSteps := 2000000) only [wn, rc_DispatchHour] at kN416
        have kN419 := kN419 n (by omega)
        try simp (maxSteps := 2000000) only [wn, rc_DispatchHour] at kN419
        simp (maxSteps := 2000000) only [W, reduceIte, Nat.reduceEqDiff, Nat.reduceAdd, Nat.reduceSub, Nat.reduceLT, Nat.reduceLeDiff, Nat.reduceMul, h31l0_0, q31l0_0, a31l0b, rc_DispatchHour, c377d, g3801, g3803, kN382, c384d, kN413, kN416, kN419, c421d, wd]
theorem c31_0 (z0 : Bool) (z1 : Bool) (v86 : Int) (v87 : Int) (v88 : Int) (v89 : Int) (v90 : Int) (v91 : List DispatchMode) (v92 : List DispatchHour) (r428 : Int) (r429 : Int) (h : F31_0 v86 v87 v88 v89 v90 v91 v92 = some (r428, r429)) : Ev fun n => (ex tab n).call 31 [.agg [.int .i64 v86, .int .i64 v87, .slice (.p 0) 0 v91.length v91.length 4 false], .agg [.int .i64 v88, .int .i64 v89, .int .i64 v90, .slice (.p 1) 0 v92.length v92.length 3 false]] [.row z0 true (rowC v91), .row z1 true (rowC v92)] = some (.tup [.int .i64 r428, .int .i64 r429], [.row z0 true (rowC v91), .row z1 true (rowC v92)]) := by
  unfold F31_0 at h
  obtain ⟨r338, r339, g336, h⟩ := un2 h
  obtain ⟨N337, kN337⟩ := c30_0 z0 v86 v87 v91 _ _ g336
  obtain ⟨r342, g340, h⟩ := un1 h
  obtain ⟨N341, kN341⟩ := c75_0 v88 v86 v87 _ g340
  obtain ⟨r345, g343, h⟩ := un1 h
  obtain ⟨N344, kN344⟩ := c70_0 r342 2 _ g343
  obtain ⟨r348, g346, h⟩ := un1 h
  obtain ⟨N347, kN347⟩ := c75_0 v89 0 (aw .i64 ((v91.length : Int) - 1)) _ g346
  obtain ⟨r351, g349, h⟩ := un1 h
  obtain ⟨N350, kN350⟩ := c70_0 r348 6 _ g349
  obtain ⟨r359, g357, h⟩ := un1 h
  obtain ⟨N358, kN358⟩ := c82_0 v90 _ g357
  obtain ⟨r362, g360, h⟩ := un1 h
  obtain ⟨N361, kN361⟩ := c70_0 r359 2 _ g360
  obtain ⟨r365, g363, h⟩ := un1 h
  obtain ⟨N364, kN364⟩ := c70_0 (!(decide ((v92.length : Int) ≤ 0))) 10 _ g363
  obtain ⟨r368, g366, h⟩ := un1 h
  obtain ⟨N367, kN367⟩ := c70_0 (decide ((v92.length : Int) ≤ 10)) 8 _ g366
  obtain ⟨r371, g369, h⟩ := un1 h
  obtain ⟨N370, kN370⟩ := c69_0 true ([r339, r345, r351, r362, r365, r368] : List Int) _ g369
  by_cases c372 : r371 = 0
  · rw [if_pos c372] at h
    have c372d := dt c372
    obtain ⟨g424_, g424, h⟩ := un1 h
    rcases g424_ with _ | ⟨r426, r427⟩
    · dsimp only at h
      have kN425 := k31l0_0 z0 z1 (v92.length : Int) v91 v92 0 _ g424
      obtain ⟨N425, kN425⟩ := kN425
      cases h
      refine ev_call (fn := a31) rfl ⟨N337 + N341 + N344 + N347 + N350 + N358 + N361 + N364 + N367 + N370 + N425, fun n hn => ?_⟩
      have kN337 := kN337 n (by omega)
      try simp (maxSteps := 2000000) only [wn] at kN337
      have kN341 := kN341 n (by omega)
      try simp (maxSteps := 2000000) only [wn] at kN341
      have kN344 := kN344 n (by omega)
      try simp (maxSteps := 2000000) only [wn] at kN344
      have kN347 := kN347 n (by omega)
      try simp (maxSteps := 2000000) only [wn] at kN347
      have kN350 := kN350 n (by omega)
      try simp (maxSteps := 2000000) only [wn] at kN350
      have kN358 := kN358 n (by omega)
      try simp (maxSteps := 2000000) only [wn] at kN358
      have kN361 := kN361 n (by omega)
      try simp (maxSteps := 2000000) only [wn] at kN361
      have kN364 := kN364 n (by omega)
      try simp (maxSteps := 2000000) only [wn] at kN364
      have kN367 := kN367 n (by omega)
      try simp (maxSteps := 2000000) only [wn] at kN367
      have kN370 := kN370 n (by omega)
      try simp (maxSteps := 2000000) only [wn] at kN370
      have kN425 := kN425 n (by omega)
      simp (maxSteps := 2000000) only [h31l0_0, q31l0_0, wn, rc_DispatchHour] at kN425
      simp (maxSteps := 2000000) only [W, reduceIte, Nat.reduceEqDiff, Nat.reduceAdd, Nat.reduceSub, Nat.reduceLT, Nat.reduceLeDiff, Nat.reduceMul, a31, a31l0, rc_DispatchHour, kN337, kN341, kN344, kN347, kN350, kN358, kN361, kN364, kN367, kN370, c372d, kN425, @x_loopAt, wd]
    · dsimp only at h
      have kN425 := k31l0_0 z0 z1 (v92.length : Int) v91 v92 0 _ g424
      obtain ⟨N425, kN425⟩ := kN425
      cases h
      refine ev_call (fn := a31) rfl ⟨N337 + N341 + N344 + N347 + N350 + N358 + N361 + N364 + N367 + N370 + N425, fun n hn => ?_⟩
      have kN337 := kN337 n (by omega)
      try simp (maxSteps := 2000000) only [wn] at kN337
      have kN341 := kN341 n (by omega)
      try simp (maxSteps := 2000000) only [wn] at kN341
      have kN344 := kN344 n (by omega)
      try simp (maxSteps := 2000000) only [wn] at kN344
      have kN347 := kN347 n (by omega)
      try simp (maxSteps := 2000000) only [wn] at kN347
      have kN350 := kN350 n (by omega)
      try simp (maxSteps := 2000000) only [wn] at kN350
      have kN358 := kN358 n (by omega)
      try simp (maxSteps := 2000000) only [wn] at kN358
      have kN361 := kN361 n (by omega)
      try simp (maxSteps := 2000000) only [wn] at kN361
      have kN364 := kN364 n (by omega)
      try simp (maxSteps := 2000000) only [wn] at kN364
      have kN367 := kN367 n (by omega)
      try simp (maxSteps := 2000000) only [wn] at kN367
      have kN370 := kN370 n (by omega)
      try simp (maxSteps := 2000000) only [wn] at kN370
      have kN425 := kN425 n (by omega)
      simp (maxSteps := 2000000) only [h31l0_0, q31l0_0, wn, rc_DispatchHour] at kN425
      simp (maxSteps := 2000000) only [W, reduceIte, Nat.reduceEqDiff, Nat.reduceAdd, Nat.reduceSub, Nat.reduceLT, Nat.reduceLeDiff, Nat.reduceMul, a31, a31l0, rc_DispatchHour, kN337, kN341, kN344, kN347, kN350, kN358, kN361, kN364, kN367, kN370, c372d, kN425, @x_loopAt, wd]
  · rw [if_neg c372] at h
    have c372d := df c372
    cases h
    refine ev_call (fn := a31) rfl ⟨N337 + N341 + N344 + N347 + N350 + N358 + N361 + N364 + N367 + N370, fun n hn => ?_⟩
    have kN337 := kN337 n (by omega)
    try simp (maxSteps := 2000000) only [wn] at kN337
    have kN341 := kN341 n (by omega)
    try simp (maxSteps := 2000000) only [wn] at kN341
    have kN344 := kN344 n (by omega)
    try simp (maxSteps := 2000000) only [wn] at kN344
    have kN347 := kN347 n (by omega)
    try simp (maxSteps := 2000000) only [wn] at kN347
    have kN350 := kN350 n (by omega)
    try simp (maxSteps := 2000000) only [wn] at kN350
    have kN358 := kN358 n (by omega)
    try simp (maxSteps := 2000000) only [wn] at kN358
    have kN361 := kN361 n (by omega)
    try simp (maxSteps := 2000000) only [wn] at kN361
    have kN364 := kN364 n (by omega)
    try simp (maxSteps := 2000000) only [wn] at kN364
    have kN367 := kN367 n (by omega)
    try simp (maxSteps := 2000000) only [wn] at kN367
    have kN370 := kN370 n (by omega)
    try simp (maxSteps := 2000000) only [wn] at kN370
    simp (maxSteps := 2000000) only [W, reduceIte, Nat.reduceEqDiff, Nat.reduceAdd, Nat.reduceSub, Nat.reduceLT, Nat.reduceLeDiff, Nat.reduceMul, a31, a31l0, rc_DispatchHour, kN337, kN341, kN344, kN347, kN350, kN358, kN361, kN364, kN367, kN370, c372d, @x_loopAt, wd]
theorem c74_0 (z0 : Bool) (z1 : Bool) (v79 : Int) (v80 : Int) (v81 : Int) (v82 : Int) (v83 : Int) (v84 : List DispatchMode) (v85 : List DispatchHour) (r434 : Int) (h : F74_0 v79 v80 v81 v82 v83 v84 v85 = some r434) : Ev fun n => (ex tab n).call 74 [.agg [.int .i64 v79, .int .i64 v80, .slice (.p 0) 0 v84.length v84.length 4 false], .agg [.int .i64 v81, .int .i64 v82, .int .i64 v83, .slice (.p 1) 0 v85.length v85.length 3 false]] [.row z0 true (rowC v84), .row z1 true (rowC v85)] = some (.tup [.agg [.int .i64 v79, .int .i64 v80, .slice (.p 0) 0 v84.length v84.length 4 false, .int .i64 v81, .int .i64 v82, .int .i64 v83, .slice (.p 1) 0 v85.length v85.length 3 false], .int .i64 r434], [.row z0 true (rowC v84), .row z1 true (rowC v85)]) := by
  unfold F74_0 at h
  obtain ⟨r432, r433, g430, h⟩ := un2 h
  obtain ⟨N431, kN431⟩ := c31_0 z0 z1 v79 v80 v81 v82 v83 v84 v85 _ _ g430
  cases h
  refine ev_call (fn := a74) rfl ⟨N431, fun n hn => ?_⟩
  have kN431 := kN431 n (by omega)
  try simp (maxSteps := 2000000) only [wn, rc_DispatchHour, rc_DispatchMode] at kN431
  simp (maxSteps := 2000000) only [W, reduceIte, Nat.reduceEqDiff, Nat.reduceAdd, Nat.reduceSub, Nat.reduceLT, Nat.reduceLeDiff, Nat.reduceMul, a74, rc_DispatchHour, rc_DispatchMode, kN431]
theorem c71_0 (z0 : Bool) (z1 : Bool) (v476 : Int) (v477 : Int) (v478 : Int) (v479 : Int) (v480 : Int) (v481 : Int) (v482 : List DispatchMode) (v483 : List DispatchHour) (r487 : Bool) (h : F71_0 v476 v477 v478 v479 v480 v481 v482 v483 = some r487) : Ev fun n => (ex tab n).call 71 [.agg [.int .i64 v476, .int .i64 v477, .slice (.p 0) 0 v482.length v482.length 4 false, .int .i64 v478, .int .i64 v479, .int .i64 v480, .slice (.p 1) 0 v483.length v483.length 3 false], .int .i64 v481] [.row z0 true (rowC v482), .row z1 true (rowC v483)] = some (.bool r487, [.row z0 true (rowC v482), .row z1 true (rowC v483)]) := by
  unfold F71_0 at h
  obtain ⟨r486, g484, h⟩ := un1 h
  obtain ⟨N485, kN485⟩ := c75_0 v481 0 (aw .i64 ((v482.length : Int) - 1)) _ g484
  cases h
  refine ev_call (fn := a71) rfl ⟨N485, fun n hn => ?_⟩
  have kN485 := kN485 n (by omega)
  try simp (maxSteps := 2000000) only [wn] at kN485
  simp (maxSteps := 2000000) only [W, reduceIte, Nat.reduceEqDiff, Nat.reduceAdd, Nat.reduceSub, Nat.reduceLT, Nat.reduceLeDiff, Nat.reduceMul, a71, kN485]
theorem c120_0 (z0 : Bool) (z1 : Bool) (z2 : Bool) (v468 : Int) (v469 : Int) (v470 : Int) (v471 : Int) (v472 : Int) (v473 : Int) (v474 : List DispatchMode) (v475 : List DispatchHour) (r491 : Bool) (h : F120_0 v468 v469 v470 v471 v472 v473 v474 v475 = some r491) : Ev fun n => (ex tab n).call 120 [.int .i64 v468, .ptr (.p 0) 0] [.row z0 false [.int .i64 v469, .int .i64 v470, .slice (.p 1) 0 v474.length v474.length 4 false, .int .i64 v471, .int .i64 v472, .int .i64 v473, .slice (.p 2) 0 v475.length v475.length 3 false], .row z1 true (rowC v474), .row z2 true (rowC v475)] = some (.bool r491, [.row z0 false [.int .i64 v469, .int .i64 v470, .slice (.p 1) 0 v474.length v474.length 4 false, .int .i64 v471, .int .i64 v472, .int .i64 v473, .slice (.p 2) 0 v475.length v475.length 3 false], .row z1 true (rowC v474), .row z2 true (rowC v475)]) := by
  unfold F120_0 at h
  obtain ⟨r490, g488, h⟩ := un1 h
  obtain ⟨N489, kN489⟩ := c71_0 z1 z2 v469 v470 v471 v472 v473 v468 v474 v475 _ g488
  cases h
  refine ev_call (fn := a120) rfl ⟨N489, fun n hn => ?_⟩
  have kN489 := kN489 n (by omega)
  try simp (maxSteps := 2000000) only [wn] at kN489
  simp (maxSteps := 2000000) only [W, reduceIte, Nat.reduceEqDiff, Nat.reduceAdd, Nat.reduceSub, Nat.reduceLT, Nat.reduceLeDiff, Nat.reduceMul, a120, kN489]
noncomputable def h130l0_0 (z0 : Bool) (z1 : Bool) (z2 : Bool) (z3 : Bool) (v454 : Int) (v456 : List Int) (v457 : Int) (v458 : Int) (v459 : Int) (v460 : Int) (v461 : Int) (v462 : List DispatchMode) (v463 : List DispatchHour) : (Int) → Env × Heap
  | v455 => ([(0, .slice (.p 0) 0 v456.length v456.length 1 false), (1, .func 120 [] [.ptr (.p 1) 0]), (7, .int .i64 v454), (8, .int .i64 v455)], [.row z0 true (rowC v456), .row z1 false [.int .i64 v457, .int .i64 v458, .slice (.p 2) 0 v462.length v462.length 4 false, .int .i64 v459, .int .i64 v460, .int .i64 v461, .slice (.p 3) 0 v463.length v463.length 3 false], .row z2 true (rowC v462), .row z3 true (rowC v463)])
noncomputable def q130l0_0 (z0 : Bool) (z1 : Bool) (z2 : Bool) (z3 : Bool) (v454 : Int) (v456 : List Int) (v457 : Int) (v458 : Int) (v459 : Int) (v460 : Int) (v461 : Int) (v462 : List DispatchMode) (v463 : List DispatchHour) : ((Unit) ⊕ (Int)) → AExit × Env × Heap
  | .inl (_) => (.exit 0, [(4, .undef)], [.row z0 true (rowC v456), .row z1 false [.int .i64 v457, .int .i64 v458, .slice (.p 2) 0 v462.length v462.length 4 false, .int .i64 v459, .int .i64 v460, .int .i64 v461, .slice (.p 3) 0 v463.length v463.length 3 false], .row z2 true (rowC v462), .row z3 true (rowC v463)])
  | .inr (r496) => (.ret, [(4, .int .i64 r496)], [.row z0 true (rowC v456), .row z1 false [.int .i64 v457, .int .i64 v458, .slice (.p 2) 0 v462.length v462.length 4 false, .int .i64 v459, .int .i64 v460, .int .i64 v461, .slice (.p 3) 0 v463.length v463.length 3 false], .row z2 true (rowC v462), .row z3 true (rowC v463)])
theorem k130l0_0 (z0 : Bool) (z1 : Bool) (z2 : Bool) (z3 : Bool) (v454 : Int) (v456 : List Int) (v457 : Int) (v458 : Int) (v459 : Int) (v460 : Int) (v461 : Int) (v462 : List DispatchMode) (v463 : List DispatchHour) (s : Int) (o : (Unit) ⊕ (Int)) (h : L130l0_0 v454 v456 v457 v458 v459 v460 v461 v462 v463 s = some o) : Ev fun n => loopAt [0, 1, 7, 8] [4] a130l0b (ex tab n) 4 (h130l0_0 z0 z1 z2 z3 v454 v456 v457 v458 v459 v460 v461 v462 v463 s) = some (q130l0_0 z0 z1 z2 z3 v454 v456 v457 v458 v459 v460 v461 v462 v463 o) := by
  refine iter_sound (S130l0_0 v454 v456 v457 v458 v459 v460 v461 v462 v463) [0, 1, 7, 8] [4] a130l0b 4 (h130l0_0 z0 z1 z2 z3 v454 v456 v457 v458 v459 v460 v461 v462 v463) (q130l0_0 z0 z1 z2 z3 v454 v456 v457 v458 v459 v460 v461 v462 v463) ?_ _ _ _ h
  rintro v455 z h
  simp only [S130l0_0] at h
  by_cases c464 : v454 ≤ v455
  · rw [if_pos c464] at h
    have c464d := dt c464
    cases h
    refine ⟨0, fun n hn => ?_⟩
    simp (maxSteps := 2000000) only [W, reduceIte, Nat.reduceEqDiff, Nat.reduceAdd, Nat.reduceSub, Nat.reduceLT, Nat.reduceLeDiff, Nat.reduceMul, h130l0_0, q130l0_0, a130l0b, c464d]
  · rw [if_neg c464] at h
    have c464d := df c464
    obtain ⟨j465, x466, g467, h⟩ := un2 h
    obtain ⟨g4671, g4672⟩ := geti_in g467
    have g4673 := ac_Int g4672
    try simp only [wn] at g4671
    obtain ⟨r494, g492, h⟩ := un1 h
    obtain ⟨N493, kN493⟩ := c120_0 z1 z2 z3 x466 v457 v458 v459 v460 v461 v462 v463 _ g492
    by_cases c495 : r494 = true
    · rw [if_pos c495] at h
      have c495d := c495
      cases h
      refine ⟨N493, fun n hn => ?_⟩
      have kN493 := kN493 n (by omega)
      try simp (maxSteps := 2000000) only [wn] at kN493
      simp (maxSteps := 2000000) only [W, reduceIte, Nat.reduceEqDiff, Nat.reduceAdd, Nat.reduceSub, Nat.reduceLT, Nat.reduceLeDiff, Nat.reduceMul, h130l0_0, q130l0_0, a130l0b, c464d, g4671, g4673, kN493, c495d]
    · rw [if_neg c495] at h
      have c495d := bf c495
      cases h
      refine ⟨N493, fun n hn => ?_⟩
      have kN493 := kN493 n (by omega)
      try simp (maxSteps := 2000000) only [wn] at kN493
      simp (maxSteps := 2000000) only [W, reduceIte, Nat.reduceEqDiff, Nat.reduceAdd, Nat.reduceSub, Nat.reduceLT, Nat.reduceLeDiff, Nat.reduceMul, h130l0_0, q130l0_0, a130l0b, c464d, g4671, g4673, kN493, c495d]
theorem c130_0 (z0 : Bool) (z1 : Bool) (z2 : Bool) (z3 : Bool) (v446 : List Int) (v447 : Int) (v448 : Int) (v449 : Int) (v450 : Int) (v451 : Int) (v452 : List DispatchMode) (v453 : List DispatchHour) (r500 : Int) (h : F130_0 v446 v447 v448 v449 v450 v451 v452 v453 = some r500) : Ev fun n => (ex tab n).call 130 [.slice (.p 0) 0 v446.length v446.length 1 false, .func 120 [] [.ptr (.p 1) 0]] [.row z0 true (rowC v446), .row z1 false [.int .i64 v447, .int .i64 v448, .slice (.p 2) 0 v452.length v452.length 4 false, .int .i64 v449, .int .i64 v450, .int .i64 v451, .slice (.p 3) 0 v453.length v453.length 3 false], .row z2 true (rowC v452), .row z3 true (rowC v453)] = some (.int .i64 r500, [.row z0 true (rowC v446), .row z1 false [.int .i64 v447, .int .i64 v448, .slice (.p 2) 0 v452.length v452.length 4 false, .int .i64 v449, .int .i64 v450, .int .i64 v451, .slice (.p 3) 0 v453.length v453.length 3 false], .row z2 true (rowC v452), .row z3 true (rowC v453)]) := by
  unfold F130_0 at h
  obtain ⟨g497_, g497, h⟩ := un1 h
  rcases g497_ with _ | r499
  · dsimp only at h
    have kN498 := k130l0_0 z0 z1 z2 z3 (v446.length : Int) v446 v447 v448 v449 v450 v451 v452 v453 0 _ g497
    obtain ⟨N498, kN498⟩ := kN498
    cases h
    refine ev_call (fn := a130) rfl ⟨N498, fun n hn => ?_⟩
    have kN498 := kN498 n (by omega)
    simp (maxSteps := 2000000) only [h130l0_0, q130l0_0, wn] at kN498
    simp (maxSteps := 2000000) only [W, reduceIte, Nat.reduceEqDiff, Nat.reduceAdd, Nat.reduceSub, Nat.reduceLT, Nat.reduceLeDiff, Nat.reduceMul, a130, a130l0, kN498, @x_loopAt]
  · dsimp only at h
    have kN498 := k130l0_0 z0 z1 z2 z3 (v446.length : Int) v446 v447 v448 v449 v450 v451 v452 v453 0 _ g497
    obtain ⟨N498, kN498⟩ := kN498
    cases h
    refine ev_call (fn := a130) rfl ⟨N498, fun n hn => ?_⟩
    have kN498 := kN498 n (by omega)
    simp (maxSteps := 2000000) only [h130l0_0, q130l0_0, wn] at kN498
    simp (maxSteps := 2000000) only [W, reduceIte, Nat.reduceEqDiff, Nat.reduceAdd, Nat.reduceSub, Nat.reduceLT, Nat.reduceLeDiff, Nat.reduceMul, a130, a130l0, kN498, @x_loopAt]
theorem c99_0 (z0 : Bool) (z1 : Bool) (z2 : Bool) (z3 : Bool) (v438 : List Int) (v439 : Int) (v440 : Int) (v441 : Int) (v442 : Int) (v443 : Int) (v444 : List DispatchMode) (v445 : List DispatchHour) (r504 : Bool) (h : F99_0 v438 v439 v440 v441 v442 v443 v444 v445 = some r504) : Ev fun n => (ex tab n).call 99 [.slice (.p 0) 0 v438.length v438.length 1 false, .func 120 [] [.ptr (.p 1) 0]] [.row z0 true (rowC v438), .row z1 false [.int .i64 v439, .int .i64 v440, .slice (.p 2) 0 v444.length v444.length 4 false, .int .i64 v441, .int .i64 v442, .int .i64 v443, .slice (.p 3) 0 v445.length v445.length 3 false], .row z2 true (rowC v444), .row z3 true (rowC v445)] = some (.bool r504, [.row z0 true (rowC v438), .row z1 false [.int .i64 v439, .int .i64 v440, .slice (.p 2) 0 v444.length v444.length 4 false, .int .i64 v441, .int .i64 v442, .int .i64 v443, .slice (.p 3) 0 v445.length v445.length 3 false], .row z2 true (rowC v444), .row z3 true (rowC v445)]) := by
  unfold F99_0 at h
  obtain ⟨r503, g501, h⟩ := un1 h
  obtain ⟨N502, kN502⟩ := c130_0 z0 z1 z2 z3 v438 v439 v440 v441 v442 v443 v444 v445 _ g501
  cases h
  refine ev_call (fn := a99) rfl ⟨N502, fun n hn => ?_⟩
  have kN502 := kN502 n (by omega)
  try simp (maxSteps := 2000000) only [wn] at kN502
  simp (maxSteps := 2000000) only [W, reduceIte, Nat.reduceEqDiff, Nat.reduceAdd, Nat.reduceSub, Nat.reduceLT, Nat.reduceLeDiff, Nat.reduceMul, a99, kN502]
theorem c122_0 (z0 : Bool) (z1 : Bool) (v544 : Int) (v545 : Int) (v546 : Int) (v547 : Int) (v548 : Int) (v549 : Int) (v550 : Int) (v551 : Int) (v552 : List DispatchMode) (v553 : List DispatchHour) (r560 : Int) (h : F122_0 v544 v545 v546 v547 v548 v549 v550 v551 v552 v553 = some r560) : Ev fun n => (ex tab n).call 122 [.agg [.int .i64 v544, .int .i64 v545, .slice (.p 0) 0 v552.length v552.length 4 false, .int .i64 v546, .int .i64 v547, .int .i64 v548, .slice (.p 1) 0 v553.length v553.length 3 false], .int .i64 v549, .int .i64 v550, .int .i64 v551] [.row z0 true (rowC v552), .row z1 true (rowC v553)] = some (.int .i64 r560, [.row z0 true (rowC v552), .row z1 true (rowC v553)]) := by
  unfold F122_0 at h
  obtain ⟨j554, x555, g556, h⟩ := un2 h
  obtain ⟨g5561, g5562⟩ := geti_in g556
  have g5563 := ac_DispatchHour g5562
  try simp only [wn] at g5561
  obtain ⟨j557, x558, g559, h⟩ := un2 h
  obtain ⟨g5591, g5592⟩ := geti_in g559
  have g5593 := ac_DispatchMode g5592
  try simp only [wn] at g5591
  cases h
  refine ev_call (fn := a122) rfl ⟨0, fun n hn => ?_⟩
  simp (maxSteps := 2000000) only [W, reduceIte, Nat.reduceEqDiff, Nat.reduceAdd, Nat.reduceSub, Nat.reduceLT, Nat.reduceLeDiff, Nat.reduceMul, a122, rc_DispatchHour, rc_DispatchMode, g5561, g5563, g5591, g5593, wd]
theorem c123_0 (z0 : Bool) (z1 : Bool) (v564 : Int) (v565 : Int) (v566 : Int) (v567 : Int) (v568 : Int) (v569 : Int) (v570 : List DispatchMode) (v571 : List DispatchHour) (r575 : Bool) (h : F123_0 v564 v565 v566 v567 v568 v569 v570 v571 = some r575) : Ev fun n => (ex tab n).call 123 [.agg [.int .i64 v564, .int .i64 v565, .slice (.p 0) 0 v570.length v570.length 4 false, .int .i64 v566, .int .i64 v567, .int .i64 v568, .slice (.p 1) 0 v571.length v571.length 3 false], .int .i64 v569] [.row z0 true (rowC v570), .row z1 true (rowC v571)] = some (.bool r575, [.row z0 true (rowC v570), .row z1 true (rowC v571)]) := by
  unfold F123_0 at h
  obtain ⟨r574, g572, h⟩ := un1 h
  obtain ⟨N573, kN573⟩ := c75_0 v569 v564 v565 _ g572
  cases h
  refine ev_call (fn := a123) rfl ⟨N573, fun n hn => ?_⟩
  have kN573 := kN573 n (by omega)
  try simp (maxSteps := 2000000) only [wn] at kN573
  simp (maxSteps := 2000000) only [W, reduceIte, Nat.reduceEqDiff, Nat.reduceAdd, Nat.reduceSub, Nat.reduceLT, Nat.reduceLeDiff, Nat.reduceMul, a123, kN573]
end Go.AI
end
