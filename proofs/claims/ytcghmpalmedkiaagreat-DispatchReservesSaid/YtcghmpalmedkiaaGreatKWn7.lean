import Derived.Test.YtcghmpalmedkiaaGreatKAiY
import Derived.Test.YtcghmpalmedkiaaGreatKAiTab
import Derived.Test.YtcghmpalmedkiaaGreatKAiAwake
import Derived.Test.YtcghmpalmedkiaaGreatKWnF
import Derived.Test.YtcghmpalmedkiaaGreatKWn5
import Derived.Test.YtcghmpalmedkiaaGreatKWn2
section
/-
  Functions, walked through: guidevaneref08.Volumes, guidevaneref08.Possible, guidevaneref08.PlanErr, guidevaneref08.ReserveErr, guidevaneref08.given, guidevaneref08.Reserve.
-/
set_option linter.unusedVariables false
set_option linter.unusedSimpArgs false
set_option maxRecDepth 100000
set_option maxHeartbeats 4000000
namespace Go.AI
noncomputable def h37l0_0 (z0 : Bool) (z1 : Bool) (z2 : Bool) (v973 : List DispatchMode) (v974 : List DispatchHour) (v975 : List Int) (v976 : Int) (v977 : Int) (v978 : Int) (v979 : Int) (v980 : Int) : (Int × (List Int)) → Env × Heap
  | (v972, v981) => ([(2, .slice (.p 2) 0 v975.length v975.length 1 false), (3, .ptr (.p 3) 0), (4, .ptr (.p 4) 0), (7, .slice (.p 5) 0 v981.length v981.length 1 false), (8, .int .i64 v972)], [.row z0 true (rowC v973), .row z1 true (rowC v974), .row z2 true (rowC v975), .row true false [.int .i64 v976, .int .i64 v977, .slice (.p 0) 0 v973.length v973.length 4 false], .row true false [.int .i64 v978, .int .i64 v979, .int .i64 v980, .slice (.p 1) 0 v974.length v974.length 3 false], .row true true (rowC v981)])
noncomputable def q37l0_0 (z0 : Bool) (z1 : Bool) (z2 : Bool) (v973 : List DispatchMode) (v974 : List DispatchHour) (v975 : List Int) (v976 : Int) (v977 : Int) (v978 : Int) (v979 : Int) (v980 : Int) : ((List Int)) → AExit × Env × Heap
  | r996 => (.exit 0, [(6, .undef), (7, .slice (.p 3) 0 r996.length r996.length 1 false)], [.row z0 true (rowC v973), .row z1 true (rowC v974), .row z2 true (rowC v975), .row true true (rowC r996)])
theorem k37l0_0 (z0 : Bool) (z1 : Bool) (z2 : Bool) (v973 : List DispatchMode) (v974 : List DispatchHour) (v975 : List Int) (v976 : Int) (v977 : Int) (v978 : Int) (v979 : Int) (v980 : Int) (s : Int × (List Int)) (o : (List Int)) (h : L37l0_0 v973 v974 v975 v976 v977 v978 v979 v980 s = some o) : Ev fun n => loopAt [2, 3, 4, 7, 8] [6, 7] a37l0b (ex tab n) 3 (h37l0_0 z0 z1 z2 v973 v974 v975 v976 v977 v978 v979 v980 s) = some (q37l0_0 z0 z1 z2 v973 v974 v975 v976 v977 v978 v979 v980 o) := by
  refine iter_sound (S37l0_0 v973 v974 v975 v976 v977 v978 v979 v980) [2, 3, 4, 7, 8] [6, 7] a37l0b 3 (h37l0_0 z0 z1 z2 v973 v974 v975 v976 v977 v978 v979 v980) (q37l0_0 z0 z1 z2 v973 v974 v975 v976 v977 v978 v979 v980) ?_ _ _ _ h
  rintro ⟨v972, v981⟩ z h
  simp only [S37l0_0] at h
  by_cases c982 : (v975.length : Int) ≤ v972
  · rw [if_pos c982] at h
    have c982d := dt c982
    cases h
    refine ⟨0, fun n hn => ?_⟩
    simp (maxSteps := 2000000) only [W, reduceIte, Nat.reduceEqDiff, Nat.reduceAdd, Nat.reduceSub, Nat.reduceLT, Nat.reduceLeDiff, Nat.reduceMul, h37l0_0, q37l0_0, a37l0b, rc_DispatchHour, rc_DispatchMode, c982d, wd]
  · rw [if_neg c982] at h
    have c982d := df c982
    obtain ⟨j983, x984, g985, h⟩ := un2 h
    obtain ⟨g9851, g9852⟩ := geti_in g985
    have g9853 := ac_Int g9852
    try simp only [wn] at g9851
    obtain ⟨j986, x987, g988, h⟩ := un2 h
    obtain ⟨g9881, g9882⟩ := geti_in g988
    have g9883 := ac_DispatchHour g9882
    try simp only [wn] at g9881
    obtain ⟨j989, x990, g991, h⟩ := un2 h
    obtain ⟨g9911, g9912⟩ := geti_in g991
    have g9913 := ac_Int g9912
    try simp only [wn] at g9911
    obtain ⟨j992, x993, g994, h⟩ := un2 h
    obtain ⟨g9941, g9942⟩ := geti_in g994
    have g9943 := ac_DispatchMode g9942
    try simp only [wn] at g9941
    obtain ⟨g995, h⟩ := un_roomd h
    cases h
    refine ⟨0, fun n hn => ?_⟩
    simp (maxSteps := 2000000) only [W, reduceIte, Nat.reduceEqDiff, Nat.reduceAdd, Nat.reduceSub, Nat.reduceLT, Nat.reduceLeDiff, Nat.reduceMul, h37l0_0, q37l0_0, a37l0b, rc_DispatchHour, rc_DispatchMode, c982d, g9851, g9853, g9881, g9883, g9911, g9913, g9941, g9943, g995, wd]
theorem c37_0 (z0 : Bool) (z1 : Bool) (z2 : Bool) (v964 : Int) (v965 : Int) (v966 : Int) (v967 : Int) (v968 : Int) (v969 : List DispatchMode) (v970 : List DispatchHour) (v971 : List Int) (r1000 : List Int) (h : F37_0 v964 v965 v966 v967 v968 v969 v970 v971 = some r1000) : Ev fun n => (ex tab n).call 37 [.agg [.int .i64 v964, .int .i64 v965, .slice (.p 0) 0 v969.length v969.length 4 false], .agg [.int .i64 v966, .int .i64 v967, .int .i64 v968, .slice (.p 1) 0 v970.length v970.length 3 false], .slice (.p 2) 0 v971.length v971.length 1 false] [.row z0 true (rowC v969), .row z1 true (rowC v970), .row z2 true (rowC v971)] = some (.slice (.p 3) 0 r1000.length r1000.length 1 false, [.row z0 true (rowC v969), .row z1 true (rowC v970), .row z2 true (rowC v971), .row true true (rowC r1000)]) := by
  unfold F37_0 at h
  obtain ⟨r999, g997, h⟩ := un1 h
  have kN998 := k37l0_0 z0 z1 z2 v969 v970 v971 v964 v965 v966 v967 v968 (0, ([v966] : List Int)) _ g997
  obtain ⟨N998, kN998⟩ := kN998
  cases h
  refine ev_call (fn := a37) rfl ⟨N998, fun n hn => ?_⟩
  have kN998 := kN998 n (by omega)
  simp (maxSteps := 2000000) only [h37l0_0, q37l0_0, wn, rc_DispatchHour, rc_DispatchMode] at kN998
  simp (maxSteps := 2000000) only [W, reduceIte, Nat.reduceEqDiff, Nat.reduceAdd, Nat.reduceSub, Nat.reduceLT, Nat.reduceLeDiff, Nat.reduceMul, a37, a37l0, rc_DispatchHour, rc_DispatchMode, kN998, @x_loopAt]
noncomputable def h87l0_0 (z0 : Bool) (z1 : Bool) (z2 : Bool) (v1005 : List DispatchMode) (v1006 : List DispatchHour) (v1007 : List Int) (v1008 : Int) (v1009 : Int) (v1010 : List Int) : (Int) → Env × Heap
  | v1004 => ([(3, .ptr (.p 3) 0), (7, .slice (.p 4) 0 v1010.length v1010.length 1 false), (8, .int .i64 v1004)], [.row z0 true (rowC v1005), .row z1 true (rowC v1006), .row z2 true (rowC v1007), .row true false [.int .i64 v1008, .int .i64 v1009, .slice (.p 0) 0 v1005.length v1005.length 4 false], .row true true (rowC v1010)])
noncomputable def q87l0_0 (z0 : Bool) (z1 : Bool) (z2 : Bool) (v1005 : List DispatchMode) (v1006 : List DispatchHour) (v1007 : List Int) (v1008 : Int) (v1009 : Int) (v1010 : List Int) : ((Unit) ⊕ (Unit)) → AExit × Env × Heap
  | .inl (_) => (.exit 0, [(6, .undef)], [.row z0 true (rowC v1005), .row z1 true (rowC v1006), .row z2 true (rowC v1007)])
  | .inr (_) => (.ret, [(6, .bool false)], [.row z0 true (rowC v1005), .row z1 true (rowC v1006), .row z2 true (rowC v1007)])
theorem k87l0_0 (z0 : Bool) (z1 : Bool) (z2 : Bool) (v1005 : List DispatchMode) (v1006 : List DispatchHour) (v1007 : List Int) (v1008 : Int) (v1009 : Int) (v1010 : List Int) (s : Int) (o : (Unit) ⊕ (Unit)) (h : L87l0_0 v1005 v1006 v1007 v1008 v1009 v1010 s = some o) : Ev fun n => loopAt [3, 7, 8] [6] a87l0b (ex tab n) 3 (h87l0_0 z0 z1 z2 v1005 v1006 v1007 v1008 v1009 v1010 s) = some (q87l0_0 z0 z1 z2 v1005 v1006 v1007 v1008 v1009 v1010 o) := by
  refine iter_sound (S87l0_0 v1005 v1006 v1007 v1008 v1009 v1010) [3, 7, 8] [6] a87l0b 3 (h87l0_0 z0 z1 z2 v1005 v1006 v1007 v1008 v1009 v1010) (q87l0_0 z0 z1 z2 v1005 v1006 v1007 v1008 v1009 v1010) ?_ _ _ _ h
  rintro v1004 z h
  simp only [S87l0_0] at h
  by_cases c1011 : (v1010.length : Int) ≤ v1004
  · rw [if_pos c1011] at h
    have c1011d := dt c1011
    cases h
    refine ⟨0, fun n hn => ?_⟩
    simp (maxSteps := 2000000) only [W, reduceIte, Nat.reduceEqDiff, Nat.reduceAdd, Nat.reduceSub, Nat.reduceLT, Nat.reduceLeDiff, Nat.reduceMul, h87l0_0, q87l0_0, a87l0b, c1011d, wd]
  · rw [if_neg c1011] at h
    have c1011d := df c1011
    obtain ⟨j1012, x1013, g1014, h⟩ := un2 h
    obtain ⟨g10141, g10142⟩ := geti_in g1014
    have g10143 := ac_Int g10142
    try simp only [wn] at g10141
    obtain ⟨r1017, g1015, h⟩ := un1 h
    obtain ⟨N1016, kN1016⟩ := c27_0 x1013 v1008 v1009 _ g1015
    by_cases c1018 : r1017 = true
    · rw [if_pos c1018] at h
      have c1018d := c1018
      cases h
      refine ⟨N1016, fun n hn => ?_⟩
      have kN1016 := kN1016 n (by omega)
      try simp (maxSteps := 2000000) only [wn] at kN1016
      simp (maxSteps := 2000000) only [W, reduceIte, Nat.reduceEqDiff, Nat.reduceAdd, Nat.reduceSub, Nat.reduceLT, Nat.reduceLeDiff, Nat.reduceMul, h87l0_0, q87l0_0, a87l0b, c1011d, g10141, g10143, kN1016, c1018d, wd]
    · rw [if_neg c1018] at h
      have c1018d := bf c1018
      cases h
      refine ⟨N1016, fun n hn => ?_⟩
      have kN1016 := kN1016 n (by omega)
      try simp (maxSteps := 2000000) only [wn] at kN1016
      simp (maxSteps := 2000000) only [W, reduceIte, Nat.reduceEqDiff, Nat.reduceAdd, Nat.reduceSub, Nat.reduceLT, Nat.reduceLeDiff, Nat.reduceMul, h87l0_0, q87l0_0, a87l0b, c1011d, g10141, g10143, kN1016, c1018d, wd]
theorem c87_0 (z0 : Bool) (z1 : Bool) (z2 : Bool) (v956 : Int) (v957 : Int) (v958 : Int) (v959 : Int) (v960 : Int) (v961 : List DispatchMode) (v962 : List DispatchHour) (v963 : List Int) (r1021 : Bool) (h : F87_0 v956 v957 v958 v959 v960 v961 v962 v963 = some r1021) : Ev fun n => (ex tab n).call 87 [.agg [.int .i64 v956, .int .i64 v957, .slice (.p 0) 0 v961.length v961.length 4 false], .agg [.int .i64 v958, .int .i64 v959, .int .i64 v960, .slice (.p 1) 0 v962.length v962.length 3 false], .slice (.p 2) 0 v963.length v963.length 1 false] [.row z0 true (rowC v961), .row z1 true (rowC v962), .row z2 true (rowC v963)] = some (.bool r1021, [.row z0 true (rowC v961), .row z1 true (rowC v962), .row z2 true (rowC v963)]) := by
  unfold F87_0 at h
  obtain ⟨r1003, g1001, h⟩ := un1 h
  obtain ⟨N1002, kN1002⟩ := c37_0 z0 z1 z2 v956 v957 v958 v959 v960 v961 v962 v963 _ g1001
  obtain ⟨g1019_, g1019, h⟩ := un1 h
  rcases g1019_ with _ | _
  · dsimp only at h
    have kN1020 := k87l0_0 z0 z1 z2 v961 v962 v963 v956 v957 r1003 0 _ g1019
    obtain ⟨N1020, kN1020⟩ := kN1020
    cases h
    refine ev_call (fn := a87) rfl ⟨N1002 + N1020, fun n hn => ?_⟩
    have kN1002 := kN1002 n (by omega)
    try simp (maxSteps := 2000000) only [wn] at kN1002
    have kN1020 := kN1020 n (by omega)
    simp (maxSteps := 2000000) only [h87l0_0, q87l0_0, wn] at kN1020
    simp (maxSteps := 2000000) only [W, reduceIte, Nat.reduceEqDiff, Nat.reduceAdd, Nat.reduceSub, Nat.reduceLT, Nat.reduceLeDiff, Nat.reduceMul, a87, a87l0, kN1002, kN1020, @x_loopAt]
  · dsimp only at h
    have kN1020 := k87l0_0 z0 z1 z2 v961 v962 v963 v956 v957 r1003 0 _ g1019
    obtain ⟨N1020, kN1020⟩ := kN1020
    cases h
    refine ev_call (fn := a87) rfl ⟨N1002 + N1020, fun n hn => ?_⟩
    have kN1002 := kN1002 n (by omega)
    try simp (maxSteps := 2000000) only [wn] at kN1002
    have kN1020 := kN1020 n (by omega)
    simp (maxSteps := 2000000) only [h87l0_0, q87l0_0, wn] at kN1020
    simp (maxSteps := 2000000) only [W, reduceIte, Nat.reduceEqDiff, Nat.reduceAdd, Nat.reduceSub, Nat.reduceLT, Nat.reduceLeDiff, Nat.reduceMul, a87, a87l0, kN1002, kN1020, @x_loopAt]
theorem c36_0 (z0 : Bool) (z1 : Bool) (z2 : Bool) (v928 : Int) (v929 : Int) (v930 : Int) (v931 : Int) (v932 : Int) (v933 : List DispatchMode) (v934 : List DispatchHour) (v935 : List Int) (r1026 : Int) (h : F36_0 v928 v929 v930 v931 v932 v933 v934 v935 = some r1026) : Ev fun n => (ex tab n).call 36 [.agg [.int .i64 v928, .int .i64 v929, .slice (.p 0) 0 v933.length v933.length 4 false], .agg [.int .i64 v930, .int .i64 v931, .int .i64 v932, .slice (.p 1) 0 v934.length v934.length 3 false], .slice (.p 2) 0 v935.length v935.length 1 false] [.row z0 true (rowC v933), .row z1 true (rowC v934), .row z2 true (rowC v935)] = some (.int .i64 r1026, [.row z0 true (rowC v933), .row z1 true (rowC v934), .row z2 true (rowC v935)]) := by
  unfold F36_0 at h
  by_cases c936 : (v935.length : Int) = (v934.length : Int)
  · rw [if_pos c936] at h
    have c936d := dt c936
    obtain ⟨g954_, g954, h⟩ := un1 h
    rcases g954_ with _ | _
    · dsimp only at h
      have kN955 := k36l0_0 z0 z1 z2 v933 v934 v935 v928 v929 v930 v931 v932 0 _ g954
      obtain ⟨N955, kN955⟩ := kN955
      obtain ⟨r1024, g1022, h⟩ := un1 h
      obtain ⟨N1023, kN1023⟩ := c87_0 z0 z1 z2 v928 v929 v930 v931 v932 v933 v934 v935 _ g1022
      by_cases c1025 : r1024 = true
      · rw [if_pos c1025] at h
        have c1025d := c1025
        cases h
        refine ev_call (fn := a36) rfl ⟨N955 + N1023, fun n hn => ?_⟩
        have kN955 := kN955 n (by omega)
        simp (maxSteps := 2000000) only [h36l0_0, q36l0_0, wn] at kN955
        have kN1023 := kN1023 n (by omega)
        try simp (maxSteps := 2000000) only [wn] at kN1023
        simp (maxSteps := 2000000) only [W, reduceIte, Nat.reduceEqDiff, Nat.reduceAdd, Nat.reduceSub, Nat.reduceLT, Nat.reduceLeDiff, Nat.reduceMul, a36, a36l0, c936d, kN955, kN1023, c1025d, @x_loopAt]
      · rw [if_neg c1025] at h
        have c1025d := bf c1025
        cases h
        refine ev_call (fn := a36) rfl ⟨N955 + N1023, fun n hn => ?_⟩
        have kN955 := kN955 n (by omega)
        simp (maxSteps := 2000000) only [h36l0_0, q36l0_0, wn] at kN955
        have kN1023 := kN1023 n (by omega)
        try simp (maxSteps := 2000000) only [wn] at kN1023
        simp (maxSteps := 2000000) only [W, reduceIte, Nat.reduceEqDiff, Nat.reduceAdd, Nat.reduceSub, Nat.reduceLT, Nat.reduceLeDiff, Nat.reduceMul, a36, a36l0, c936d, kN955, kN1023, c1025d, @x_loopAt]
    · dsimp only at h
      have kN955 := k36l0_0 z0 z1 z2 v933 v934 v935 v928 v929 v930 v931 v932 0 _ g954
      obtain ⟨N955, kN955⟩ := kN955
      cases h
      refine ev_call (fn := a36) rfl ⟨N955, fun n hn => ?_⟩
      have kN955 := kN955 n (by omega)
      simp (maxSteps := 2000000) only [h36l0_0, q36l0_0, wn] at kN955
      simp (maxSteps := 2000000) only [W, reduceIte, Nat.reduceEqDiff, Nat.reduceAdd, Nat.reduceSub, Nat.reduceLT, Nat.reduceLeDiff, Nat.reduceMul, a36, a36l0, c936d, kN955, @x_loopAt]
  · rw [if_neg c936] at h
    have c936d := df c936
    cases h
    refine ev_call (fn := a36) rfl ⟨0, fun n hn => ?_⟩
    simp (maxSteps := 2000000) only [W, reduceIte, Nat.reduceEqDiff, Nat.reduceAdd, Nat.reduceSub, Nat.reduceLT, Nat.reduceLeDiff, Nat.reduceMul, a36, a36l0, c936d, @x_loopAt]
theorem c21_0 (z0 : Bool) (z1 : Bool) (z2 : Bool) (v919 : Int) (v920 : Int) (v921 : Int) (v922 : Int) (v923 : Int) (v924 : Int) (v925 : List DispatchMode) (v926 : List DispatchHour) (v927 : List Int) (r1035 : Int) (h : F21_0 v919 v920 v921 v922 v923 v924 v925 v926 v927 = some r1035) : Ev fun n => (ex tab n).call 21 [.agg [.int .i64 v919, .int .i64 v920, .slice (.p 0) 0 v925.length v925.length 4 false], .agg [.int .i64 v921, .int .i64 v922, .int .i64 v923, .slice (.p 1) 0 v926.length v926.length 3 false], .agg [.slice (.p 2) 0 v927.length v927.length 1 false, .int .i64 v924]] [.row z0 true (rowC v925), .row z1 true (rowC v926), .row z2 true (rowC v927)] = some (.int .i64 r1035, [.row z0 true (rowC v925), .row z1 true (rowC v926), .row z2 true (rowC v927)]) := by
  unfold F21_0 at h
  obtain ⟨r1029, g1027, h⟩ := un1 h
  obtain ⟨N1028, kN1028⟩ := c36_0 z0 z1 z2 v919 v920 v921 v922 v923 v925 v926 v927 _ g1027
  by_cases c1030 : r1029 = 0
  · rw [if_pos c1030] at h
    have c1030d := dt c1030
    obtain ⟨r1033, g1031, h⟩ := un1 h
    obtain ⟨N1032, kN1032⟩ := c27_0 v924 0 (aw .i64 ((v925.length : Int) - 1)) _ g1031
    by_cases c1034 : r1033 = true
    · rw [if_pos c1034] at h
      have c1034d := c1034
      cases h
      refine ev_call (fn := a21) rfl ⟨N1028 + N1032, fun n hn => ?_⟩
      have kN1028 := kN1028 n (by omega)
      try simp (maxSteps := 2000000) only [wn] at kN1028
      have kN1032 := kN1032 n (by omega)
      try simp (maxSteps := 2000000) only [wn] at kN1032
      simp (maxSteps := 2000000) only [W, reduceIte, Nat.reduceEqDiff, Nat.reduceAdd, Nat.reduceSub, Nat.reduceLT, Nat.reduceLeDiff, Nat.reduceMul, a21, kN1028, c1030d, kN1032, c1034d]
    · rw [if_neg c1034] at h
      have c1034d := bf c1034
      cases h
      refine ev_call (fn := a21) rfl ⟨N1028 + N1032, fun n hn => ?_⟩
      have kN1028 := kN1028 n (by omega)
      try simp (maxSteps := 2000000) only [wn] at kN1028
      have kN1032 := kN1032 n (by omega)
      try simp (maxSteps := 2000000) only [wn] at kN1032
      simp (maxSteps := 2000000) only [W, reduceIte, Nat.reduceEqDiff, Nat.reduceAdd, Nat.reduceSub, Nat.reduceLT, Nat.reduceLeDiff, Nat.reduceMul, a21, kN1028, c1030d, kN1032, c1034d]
  · rw [if_neg c1030] at h
    have c1030d := df c1030
    cases h
    refine ev_call (fn := a21) rfl ⟨N1028, fun n hn => ?_⟩
    have kN1028 := kN1028 n (by omega)
    try simp (maxSteps := 2000000) only [wn] at kN1028
    simp (maxSteps := 2000000) only [W, reduceIte, Nat.reduceEqDiff, Nat.reduceAdd, Nat.reduceSub, Nat.reduceLT, Nat.reduceLeDiff, Nat.reduceMul, a21, kN1028, c1030d]
noncomputable def h73l0_0 (z0 : Bool) (z1 : Bool) (v1080 : Int) (v1083 : List DispatchMode) (v1084 : List DispatchHour) (v1085 : Int) (v1086 : Int) (v1087 : Int) (v1088 : Int) (v1089 : Int) : (Int × Int × Int) → Env × Heap
  | (v1079, v1081, v1082) => ([(3, .int .i64 v1079), (4, .int .i64 v1080), (5, .ptr (.p 2) 0), (6, .ptr (.p 3) 0), (11, .int .i64 v1081), (12, .int .i64 v1082)], [.row z0 true (rowC v1083), .row z1 true (rowC v1084), .row true false [.int .i64 v1085, .int .i64 v1086, .slice (.p 0) 0 v1083.length v1083.length 4 false], .row true false [.int .i64 v1087, .int .i64 v1088, .int .i64 v1089, .slice (.p 1) 0 v1084.length v1084.length 3 false]])
noncomputable def q73l0_0 (z0 : Bool) (z1 : Bool) (v1080 : Int) (v1083 : List DispatchMode) (v1084 : List DispatchHour) (v1085 : Int) (v1086 : Int) (v1087 : Int) (v1088 : Int) (v1089 : Int) : ((Int) ⊕ (Int × Int)) → AExit × Env × Heap
  | .inl (r1101) => (.exit 0, [(10, .undef), (11, .int .i64 r1101)], [.row z0 true (rowC v1083), .row z1 true (rowC v1084)])
  | .inr (r1102, r1103) => (.ret, [(10, .int .i64 r1102), (11, .int .i64 r1103)], [.row z0 true (rowC v1083), .row z1 true (rowC v1084)])
theorem k73l0_0 (z0 : Bool) (z1 : Bool) (v1080 : Int) (v1083 : List DispatchMode) (v1084 : List DispatchHour) (v1085 : Int) (v1086 : Int) (v1087 : Int) (v1088 : Int) (v1089 : Int) (s : Int × Int × Int) (o : (Int) ⊕ (Int × Int)) (h : L73l0_0 v1080 v1083 v1084 v1085 v1086 v1087 v1088 v1089 s = some o) : Ev fun n => loopAt [3, 4, 5, 6, 11, 12] [10, 11] a73l0b (ex tab n) 2 (h73l0_0 z0 z1 v1080 v1083 v1084 v1085 v1086 v1087 v1088 v1089 s) = some (q73l0_0 z0 z1 v1080 v1083 v1084 v1085 v1086 v1087 v1088 v1089 o) := by
  refine iter_sound (S73l0_0 v1080 v1083 v1084 v1085 v1086 v1087 v1088 v1089) [3, 4, 5, 6, 11, 12] [10, 11] a73l0b 2 (h73l0_0 z0 z1 v1080 v1083 v1084 v1085 v1086 v1087 v1088 v1089) (q73l0_0 z0 z1 v1080 v1083 v1084 v1085 v1086 v1087 v1088 v1089) ?_ _ _ _ h
  rintro ⟨v1079, v1081, v1082⟩ z h
  simp only [S73l0_0] at h
  by_cases c1090 : (v1084.length : Int) ≤ v1082
  · rw [if_pos c1090] at h
    have c1090d := dt c1090
    cases h
    refine ⟨0, fun n hn => ?_⟩
    simp (maxSteps := 2000000) only [W, reduceIte, Nat.reduceEqDiff, Nat.reduceAdd, Nat.reduceSub, Nat.reduceLT, Nat.reduceLeDiff, Nat.reduceMul, h73l0_0, q73l0_0, a73l0b, rc_DispatchHour, rc_DispatchMode, c1090d, wd]
  · rw [if_neg c1090] at h
    have c1090d := df c1090
    obtain ⟨j1091, x1092, g1093, h⟩ := un2 h
    obtain ⟨g10931, g10932⟩ := geti_in g1093
    have g10933 := ac_DispatchHour g10932
    try simp only [wn] at g10931
    obtain ⟨j1094, x1095, g1096, h⟩ := un2 h
    obtain ⟨g10961, g10962⟩ := geti_in g1096
    have g10963 := ac_DispatchMode g10962
    try simp only [wn] at g10961
    obtain ⟨r1099, g1097, h⟩ := un1 h
    obtain ⟨N1098, kN1098⟩ := c27_0 (aw .i64 ((aw .i64 (v1079 + x1092.fInflow)) + x1095.fChange)) v1085 v1086 _ g1097
    by_cases c1100 : r1099 = true
    · rw [if_pos c1100] at h
      have c1100d := c1100
      cases h
      refine ⟨N1098, fun n hn => ?_⟩
      have kN1098 := kN1098 n (by omega)
      try simp (maxSteps := 2000000) only [wn, rc_DispatchHour, rc_DispatchMode] at kN1098
      simp (maxSteps := 2000000) only [W, reduceIte, Nat.reduceEqDiff, Nat.reduceAdd, Nat.reduceSub, Nat.reduceLT, Nat.reduceLeDiff, Nat.reduceMul, h73l0_0, q73l0_0, a73l0b, rc_DispatchHour, rc_DispatchMode, c1090d, g10931, g10933, g10961, g10963, kN1098, c1100d, wd]
    · rw [if_neg c1100] at h
      have c1100d := bf c1100
      cases h
      refine ⟨N1098, fun n hn => ?_⟩
      have kN1098 := kN1098 n (by omega)
      try simp (maxSteps := 2000000) only [wn, rc_DispatchHour, rc_DispatchMode] at kN1098
      simp (maxSteps := 2000000) only [W, reduceIte, Nat.reduceEqDiff, Nat.reduceAdd, Nat.reduceSub, Nat.reduceLT, Nat.reduceLeDiff, Nat.reduceMul, h73l0_0, q73l0_0, a73l0b, rc_DispatchHour, rc_DispatchMode, c1090d, g10931, g10933, g10961, g10963, kN1098, c1100d, wd]
theorem c73_0 (z0 : Bool) (z1 : Bool) (v1069 : Int) (v1070 : Int) (v1071 : Int) (v1072 : Int) (v1073 : Int) (v1074 : Int) (v1075 : Int) (v1076 : Int) (v1077 : List DispatchMode) (v1078 : List DispatchHour) (r1109 : Int) (h : F73_0 v1069 v1070 v1071 v1072 v1073 v1074 v1075 v1076 v1077 v1078 = some r1109) : Ev fun n => (ex tab n).call 73 [.agg [.int .i64 v1069, .int .i64 v1070, .slice (.p 0) 0 v1077.length v1077.length 4 false], .agg [.int .i64 v1071, .int .i64 v1072, .int .i64 v1073, .slice (.p 1) 0 v1078.length v1078.length 3 false], .int .i64 v1074, .int .i64 v1075, .int .i64 v1076] [.row z0 true (rowC v1077), .row z1 true (rowC v1078)] = some (.int .i64 r1109, [.row z0 true (rowC v1077), .row z1 true (rowC v1078)]) := by
  unfold F73_0 at h
  obtain ⟨g1104_, g1104, h⟩ := un1 h
  rcases g1104_ with r1106 | ⟨r1107, r1108⟩
  · dsimp only at h
    have kN1105 := k73l0_0 z0 z1 v1076 v1077 v1078 v1069 v1070 v1071 v1072 v1073 (v1075, 0, v1074) _ g1104
    obtain ⟨N1105, kN1105⟩ := kN1105
    cases h
    refine ev_call (fn := a73) rfl ⟨N1105, fun n hn => ?_⟩
    have kN1105 := kN1105 n (by omega)
    simp (maxSteps := 2000000) only [h73l0_0, q73l0_0, wn, rc_DispatchHour, rc_DispatchMode] at kN1105
    simp (maxSteps := 2000000) only [W, reduceIte, Nat.reduceEqDiff, Nat.reduceAdd, Nat.reduceSub, Nat.reduceLT, Nat.reduceLeDiff, Nat.reduceMul, a73, a73l0, rc_DispatchHour, rc_DispatchMode, kN1105, @x_loopAt]
  · dsimp only at h
    have kN1105 := k73l0_0 z0 z1 v1076 v1077 v1078 v1069 v1070 v1071 v1072 v1073 (v1075, 0, v1074) _ g1104
    obtain ⟨N1105, kN1105⟩ := kN1105
    cases h
    refine ev_call (fn := a73) rfl ⟨N1105, fun n hn => ?_⟩
    have kN1105 := kN1105 n (by omega)
    simp (maxSteps := 2000000) only [h73l0_0, q73l0_0, wn, rc_DispatchHour, rc_DispatchMode] at kN1105
    simp (maxSteps := 2000000) only [W, reduceIte, Nat.reduceEqDiff, Nat.reduceAdd, Nat.reduceSub, Nat.reduceLT, Nat.reduceLeDiff, Nat.reduceMul, a73, a73l0, rc_DispatchHour, rc_DispatchMode, kN1105, @x_loopAt]
noncomputable def h23l0_0 (z0 : Bool) (z1 : Bool) (z2 : Bool) (v1054 : List DispatchMode) (v1055 : List DispatchHour) (v1056 : List Int) (v1057 : Int) (v1058 : Int) (v1059 : Int) (v1060 : Int) (v1061 : Int) (v1062 : Int) (v1063 : List Int) : (Int × (List Int)) → Env × Heap
  | (v1053, v1064) => ([(3, .ptr (.p 3) 0), (4, .ptr (.p 4) 0), (5, .ptr (.p 5) 0), (7, .slice (.p 6) 0 v1063.length v1063.length 1 false), (8, .slice (.p 7) 0 v1064.length v1064.length 1 false), (9, .int .i64 v1053)], [.row z0 true (rowC v1054), .row z1 true (rowC v1055), .row z2 true (rowC v1056), .row true false [.int .i64 v1057, .int .i64 v1058, .slice (.p 0) 0 v1054.length v1054.length 4 false], .row true false [.int .i64 v1059, .int .i64 v1060, .int .i64 v1061, .slice (.p 1) 0 v1055.length v1055.length 3 false], .row true false [.slice (.p 2) 0 v1056.length v1056.length 1 false, .int .i64 v1062], .row true true (rowC v1063), .row true true (rowC v1064)])
noncomputable def q23l0_0 (z0 : Bool) (z1 : Bool) (z2 : Bool) (v1054 : List DispatchMode) (v1055 : List DispatchHour) (v1056 : List Int) (v1057 : Int) (v1058 : Int) (v1059 : Int) (v1060 : Int) (v1061 : Int) (v1062 : Int) (v1063 : List Int) : ((List Int)) → AExit × Env × Heap
  | r1114 => (.exit 0, [(6, .undef), (8, .slice (.p 3) 0 r1114.length r1114.length 1 false)], [.row z0 true (rowC v1054), .row z1 true (rowC v1055), .row z2 true (rowC v1056), .row true true (rowC r1114)])
theorem k23l0_0 (z0 : Bool) (z1 : Bool) (z2 : Bool) (v1054 : List DispatchMode) (v1055 : List DispatchHour) (v1056 : List Int) (v1057 : Int) (v1058 : Int) (v1059 : Int) (v1060 : Int) (v1061 : Int) (v1062 : Int) (v1063 : List Int) (s : Int × (List Int)) (o : (List Int)) (h : L23l0_0 v1054 v1055 v1056 v1057 v1058 v1059 v1060 v1061 v1062 v1063 s = some o) : Ev fun n => loopAt [3, 4, 5, 7, 8, 9] [6, 8] a23l0b (ex tab n) 3 (h23l0_0 z0 z1 z2 v1054 v1055 v1056 v1057 v1058 v1059 v1060 v1061 v1062 v1063 s) = some (q23l0_0 z0 z1 z2 v1054 v1055 v1056 v1057 v1058 v1059 v1060 v1061 v1062 v1063 o) := by
  refine iter_sound (S23l0_0 v1054 v1055 v1056 v1057 v1058 v1059 v1060 v1061 v1062 v1063) [3, 4, 5, 7, 8, 9] [6, 8] a23l0b 3 (h23l0_0 z0 z1 z2 v1054 v1055 v1056 v1057 v1058 v1059 v1060 v1061 v1062 v1063) (q23l0_0 z0 z1 z2 v1054 v1055 v1056 v1057 v1058 v1059 v1060 v1061 v1062 v1063) ?_ _ _ _ h
  rintro ⟨v1053, v1064⟩ z h
  simp only [S23l0_0] at h
  by_cases c1065 : (v1055.length : Int) ≤ v1053
  · rw [if_pos c1065] at h
    have c1065d := dt c1065
    cases h
    refine ⟨0, fun n hn => ?_⟩
    simp (maxSteps := 2000000) only [W, reduceIte, Nat.reduceEqDiff, Nat.reduceAdd, Nat.reduceSub, Nat.reduceLT, Nat.reduceLeDiff, Nat.reduceMul, h23l0_0, q23l0_0, a23l0b, c1065d, wd]
  · rw [if_neg c1065] at h
    have c1065d := df c1065
    obtain ⟨j1066, x1067, g1068, h⟩ := un2 h
    obtain ⟨g10681, g10682⟩ := geti_in g1068
    have g10683 := ac_Int g10682
    try simp only [wn] at g10681
    obtain ⟨r1112, g1110, h⟩ := un1 h
    obtain ⟨N1111, kN1111⟩ := c73_0 z0 z1 v1057 v1058 v1059 v1060 v1061 v1053 x1067 v1062 v1054 v1055 _ g1110
    obtain ⟨g1113, h⟩ := un_roomd h
    cases h
    refine ⟨N1111, fun n hn => ?_⟩
    have kN1111 := kN1111 n (by omega)
    try simp (maxSteps := 2000000) only [wn] at kN1111
    simp (maxSteps := 2000000) only [W, reduceIte, Nat.reduceEqDiff, Nat.reduceAdd, Nat.reduceSub, Nat.reduceLT, Nat.reduceLeDiff, Nat.reduceMul, h23l0_0, q23l0_0, a23l0b, c1065d, g10681, g10683, kN1111, g1113, wd]
theorem c23_0 (z0 : Bool) (z1 : Bool) (z2 : Bool) (v1041 : Int) (v1042 : Int) (v1043 : Int) (v1044 : Int) (v1045 : Int) (v1046 : Int) (v1047 : List DispatchMode) (v1048 : List DispatchHour) (v1049 : List Int) (r1118 : List Int) (h : F23_0 v1041 v1042 v1043 v1044 v1045 v1046 v1047 v1048 v1049 = some r1118) : Ev fun n => (ex tab n).call 23 [.agg [.int .i64 v1041, .int .i64 v1042, .slice (.p 0) 0 v1047.length v1047.length 4 false], .agg [.int .i64 v1043, .int .i64 v1044, .int .i64 v1045, .slice (.p 1) 0 v1048.length v1048.length 3 false], .agg [.slice (.p 2) 0 v1049.length v1049.length 1 false, .int .i64 v1046]] [.row z0 true (rowC v1047), .row z1 true (rowC v1048), .row z2 true (rowC v1049)] = some (.slice (.p 3) 0 r1118.length r1118.length 1 false, [.row z0 true (rowC v1047), .row z1 true (rowC v1048), .row z2 true (rowC v1049), .row true true (rowC r1118)]) := by
  unfold F23_0 at h
  obtain ⟨r1052, g1050, h⟩ := un1 h
  obtain ⟨N1051, kN1051⟩ := c37_0 z0 z1 z2 v1041 v1042 v1043 v1044 v1045 v1047 v1048 v1049 _ g1050
  obtain ⟨r1117, g1115, h⟩ := un1 h
  have kN1116 := k23l0_0 z0 z1 z2 v1047 v1048 v1049 v1041 v1042 v1043 v1044 v1045 v1046 r1052 (0, ([] : List Int)) _ g1115
  obtain ⟨N1116, kN1116⟩ := kN1116
  cases h
  refine ev_call (fn := a23) rfl ⟨N1051 + N1116, fun n hn => ?_⟩
  have kN1051 := kN1051 n (by omega)
  try simp (maxSteps := 2000000) only [wn] at kN1051
  have kN1116 := kN1116 n (by omega)
  simp (maxSteps := 2000000) only [h23l0_0, q23l0_0, wn] at kN1116
  simp (maxSteps := 2000000) only [W, reduceIte, Nat.reduceEqDiff, Nat.reduceAdd, Nat.reduceSub, Nat.reduceLT, Nat.reduceLeDiff, Nat.reduceMul, a23, a23l0, kN1051, kN1116, @x_loopAt]
noncomputable def h22l0_0 (z0 : Bool) (z1 : Bool) (v1126 : List Int) (v1127 : List Int) : (Int) → Env × Heap
  | v1125 => ([(0, .slice (.p 0) 0 v1126.length v1126.length 1 false), (1, .slice (.p 1) 0 v1127.length v1127.length 1 false), (5, .int .i64 v1125)], [.row z0 true (rowC v1126), .row z1 true (rowC v1127)])
noncomputable def q22l0_0 (z0 : Bool) (z1 : Bool) (v1126 : List Int) (v1127 : List Int) : ((Unit) ⊕ (Unit)) → AExit × Env × Heap
  | .inl (_) => (.exit 0, [(4, .undef)], [.row z0 true (rowC v1126), .row z1 true (rowC v1127)])
  | .inr (_) => (.ret, [(4, .bool false)], [.row z0 true (rowC v1126), .row z1 true (rowC v1127)])
theorem k22l0_0 (z0 : Bool) (z1 : Bool) (v1126 : List Int) (v1127 : List Int) (s : Int) (o : (Unit) ⊕ (Unit)) (h : L22l0_0 v1126 v1127 s = some o) : Ev fun n => loopAt [0, 1, 5] [4] a22l0b (ex tab n) 2 (h22l0_0 z0 z1 v1126 v1127 s) = some (q22l0_0 z0 z1 v1126 v1127 o) := by
  refine iter_sound (S22l0_0 v1126 v1127) [0, 1, 5] [4] a22l0b 2 (h22l0_0 z0 z1 v1126 v1127) (q22l0_0 z0 z1 v1126 v1127) ?_ _ _ _ h
  rintro v1125 z h
  simp only [S22l0_0] at h
  by_cases c1128 : (v1126.length : Int) ≤ v1125
  · rw [if_pos c1128] at h
    have c1128d := dt c1128
    cases h
    refine ⟨0, fun n hn => ?_⟩
    simp (maxSteps := 2000000) only [W, reduceIte, Nat.reduceEqDiff, Nat.reduceAdd, Nat.reduceSub, Nat.reduceLT, Nat.reduceLeDiff, Nat.reduceMul, h22l0_0, q22l0_0, a22l0b, c1128d, wd]
  · rw [if_neg c1128] at h
    have c1128d := df c1128
    obtain ⟨j1129, x1130, g1131, h⟩ := un2 h
    obtain ⟨g11311, g11312⟩ := geti_in g1131
    have g11313 := ac_Int g11312
    try simp only [wn] at g11311
    obtain ⟨j1132, x1133, g1134, h⟩ := un2 h
    obtain ⟨g11341, g11342⟩ := geti_in g1134
    have g11343 := ac_Int g11342
    try simp only [wn] at g11341
    by_cases c1135 : x1130 = x1133
    · rw [if_pos c1135] at h
      have c1135d := dt c1135
      cases h
      refine ⟨0, fun n hn => ?_⟩
      simp (maxSteps := 2000000) only [W, reduceIte, Nat.reduceEqDiff, Nat.reduceAdd, Nat.reduceSub, Nat.reduceLT, Nat.reduceLeDiff, Nat.reduceMul, h22l0_0, q22l0_0, a22l0b, c1128d, g11311, g11313, g11341, g11343, c1135d, wd]
    · rw [if_neg c1135] at h
      have c1135d := df c1135
      cases h
      refine ⟨0, fun n hn => ?_⟩
      simp (maxSteps := 2000000) only [W, reduceIte, Nat.reduceEqDiff, Nat.reduceAdd, Nat.reduceSub, Nat.reduceLT, Nat.reduceLeDiff, Nat.reduceMul, h22l0_0, q22l0_0, a22l0b, c1128d, g11311, g11313, g11341, g11343, c1135d, wd]
end Go.AI
end
section
/-
  Functions, walked through: guidevanebase.Ints, guidevaneref08.Promised, guidevanelaw08.DispatchReserves, dispatch.VolumesOf, dispatch.work).modes, dispatch.work).revenue.
-/
set_option linter.unusedVariables false
set_option linter.unusedSimpArgs false
set_option maxRecDepth 100000
set_option maxHeartbeats 4000000
namespace Go.AI
theorem c22_0 (z0 : Bool) (z1 : Bool) (v1122 : List Int) (v1123 : List Int) (r1138 : Bool) (h : F22_0 v1122 v1123 = some r1138) : Ev fun n => (ex tab n).call 22 [.slice (.p 0) 0 v1122.length v1122.length 1 false, .slice (.p 1) 0 v1123.length v1123.length 1 false] [.row z0 true (rowC v1122), .row z1 true (rowC v1123)] = some (.bool r1138, [.row z0 true (rowC v1122), .row z1 true (rowC v1123)]) := by
  unfold F22_0 at h
  by_cases c1124 : (v1122.length : Int) = (v1123.length : Int)
  · rw [if_pos c1124] at h
    have c1124d := dt c1124
    obtain ⟨g1136_, g1136, h⟩ := un1 h
    rcases g1136_ with _ | _
    · dsimp only at h
      have kN1137 := k22l0_0 z0 z1 v1122 v1123 0 _ g1136
      obtain ⟨N1137, kN1137⟩ := kN1137
      cases h
      refine ev_call (fn := a22) rfl ⟨N1137, fun n hn => ?_⟩
      have kN1137 := kN1137 n (by omega)
      simp (maxSteps := 2000000) only [h22l0_0, q22l0_0, wn] at kN1137
      simp (maxSteps := 2000000) only [W, reduceIte, Nat.reduceEqDiff, Nat.reduceAdd, Nat.reduceSub, Nat.reduceLT, Nat.reduceLeDiff, Nat.reduceMul, a22, a22l0, c1124d, kN1137, @x_loopAt]
    · dsimp only at h
      have kN1137 := k22l0_0 z0 z1 v1122 v1123 0 _ g1136
      obtain ⟨N1137, kN1137⟩ := kN1137
      cases h
      refine ev_call (fn := a22) rfl ⟨N1137, fun n hn => ?_⟩
      have kN1137 := kN1137 n (by omega)
      simp (maxSteps := 2000000) only [h22l0_0, q22l0_0, wn] at kN1137
      simp (maxSteps := 2000000) only [W, reduceIte, Nat.reduceEqDiff, Nat.reduceAdd, Nat.reduceSub, Nat.reduceLT, Nat.reduceLeDiff, Nat.reduceMul, a22, a22l0, c1124d, kN1137, @x_loopAt]
  · rw [if_neg c1124] at h
    have c1124d := df c1124
    cases h
    refine ev_call (fn := a22) rfl ⟨0, fun n hn => ?_⟩
    simp (maxSteps := 2000000) only [W, reduceIte, Nat.reduceEqDiff, Nat.reduceAdd, Nat.reduceSub, Nat.reduceLT, Nat.reduceLeDiff, Nat.reduceMul, a22, a22l0, c1124d, @x_loopAt]
noncomputable def h24l0_0 (z0 : Bool) (z1 : Bool) (z2 : Bool) (v1158 : List DispatchMode) (v1159 : List DispatchHour) (v1160 : List Int) (v1161 : List Int) : (Int × Int) → Env × Heap
  | (v1156, v1157) => ([(7, .int .i64 v1156), (8, .slice (.p 3) 0 v1161.length v1161.length 1 false), (9, .int .i64 v1157)], [.row z0 true (rowC v1158), .row z1 true (rowC v1159), .row z2 true (rowC v1160), .row true true (rowC v1161)])
noncomputable def q24l0_0 (z0 : Bool) (z1 : Bool) (z2 : Bool) (v1158 : List DispatchMode) (v1159 : List DispatchHour) (v1160 : List Int) (v1161 : List Int) : (Int) → AExit × Env × Heap
  | r1167 => (.exit 0, [(6, .undef), (7, .int .i64 r1167)], [.row z0 true (rowC v1158), .row z1 true (rowC v1159), .row z2 true (rowC v1160)])
theorem k24l0_0 (z0 : Bool) (z1 : Bool) (z2 : Bool) (v1158 : List DispatchMode) (v1159 : List DispatchHour) (v1160 : List Int) (v1161 : List Int) (s : Int × Int) (o : Int) (h : L24l0_0 v1158 v1159 v1160 v1161 s = some o) : Ev fun n => loopAt [7, 8, 9] [6, 7] a24l0b (ex tab n) 3 (h24l0_0 z0 z1 z2 v1158 v1159 v1160 v1161 s) = some (q24l0_0 z0 z1 z2 v1158 v1159 v1160 v1161 o) := by
  refine iter_sound (S24l0_0 v1158 v1159 v1160 v1161) [7, 8, 9] [6, 7] a24l0b 3 (h24l0_0 z0 z1 z2 v1158 v1159 v1160 v1161) (q24l0_0 z0 z1 z2 v1158 v1159 v1160 v1161) ?_ _ _ _ h
  rintro ⟨v1156, v1157⟩ z h
  simp only [S24l0_0] at h
  by_cases c1162 : (v1161.length : Int) ≤ v1157
  · rw [if_pos c1162] at h
    have c1162d := dt c1162
    cases h
    refine ⟨0, fun n hn => ?_⟩
    simp (maxSteps := 2000000) only [W, reduceIte, Nat.reduceEqDiff, Nat.reduceAdd, Nat.reduceSub, Nat.reduceLT, Nat.reduceLeDiff, Nat.reduceMul, h24l0_0, q24l0_0, a24l0b, c1162d]
  · rw [if_neg c1162] at h
    have c1162d := df c1162
    obtain ⟨j1163, x1164, g1165, h⟩ := un2 h
    obtain ⟨g11651, g11652⟩ := geti_in g1165
    have g11653 := ac_Int g11652
    try simp only [wn] at g11651
    by_cases c1166 : (aw .i64 ((v1161.length : Int) - v1157)) ≤ x1164
    · rw [if_pos c1166] at h
      have c1166d := dt c1166
      cases h
      refine ⟨0, fun n hn => ?_⟩
      simp (maxSteps := 2000000) only [W, reduceIte, Nat.reduceEqDiff, Nat.reduceAdd, Nat.reduceSub, Nat.reduceLT, Nat.reduceLeDiff, Nat.reduceMul, h24l0_0, q24l0_0, a24l0b, c1162d, g11651, g11653, c1166d]
    · rw [if_neg c1166] at h
      have c1166d := df c1166
      cases h
      refine ⟨0, fun n hn => ?_⟩
      simp (maxSteps := 2000000) only [W, reduceIte, Nat.reduceEqDiff, Nat.reduceAdd, Nat.reduceSub, Nat.reduceLT, Nat.reduceLeDiff, Nat.reduceMul, h24l0_0, q24l0_0, a24l0b, c1162d, g11651, g11653, c1166d]
theorem c24_0 (z0 : Bool) (z1 : Bool) (z2 : Bool) (v1144 : Int) (v1145 : Int) (v1146 : Int) (v1147 : Int) (v1148 : Int) (v1149 : Int) (v1150 : List DispatchMode) (v1151 : List DispatchHour) (v1152 : List Int) (r1171 : Int) (h : F24_0 v1144 v1145 v1146 v1147 v1148 v1149 v1150 v1151 v1152 = some r1171) : Ev fun n => (ex tab n).call 24 [.agg [.int .i64 v1144, .int .i64 v1145, .slice (.p 0) 0 v1150.length v1150.length 4 false], .agg [.int .i64 v1146, .int .i64 v1147, .int .i64 v1148, .slice (.p 1) 0 v1151.length v1151.length 3 false], .agg [.slice (.p 2) 0 v1152.length v1152.length 1 false, .int .i64 v1149]] [.row z0 true (rowC v1150), .row z1 true (rowC v1151), .row z2 true (rowC v1152)] = some (.int .i64 r1171, [.row z0 true (rowC v1150), .row z1 true (rowC v1151), .row z2 true (rowC v1152)]) := by
  unfold F24_0 at h
  obtain ⟨r1155, g1153, h⟩ := un1 h
  obtain ⟨N1154, kN1154⟩ := c23_0 z0 z1 z2 v1144 v1145 v1146 v1147 v1148 v1149 v1150 v1151 v1152 _ g1153
  obtain ⟨r1170, g1168, h⟩ := un1 h
  have kN1169 := k24l0_0 z0 z1 z2 v1150 v1151 v1152 r1155 (10, 0) _ g1168
  obtain ⟨N1169, kN1169⟩ := kN1169
  cases h
  refine ev_call (fn := a24) rfl ⟨N1154 + N1169, fun n hn => ?_⟩
  have kN1154 := kN1154 n (by omega)
  try simp (maxSteps := 2000000) only [wn] at kN1154
  have kN1169 := kN1169 n (by omega)
  simp (maxSteps := 2000000) only [h24l0_0, q24l0_0, wn] at kN1169
  simp (maxSteps := 2000000) only [W, reduceIte, Nat.reduceEqDiff, Nat.reduceAdd, Nat.reduceSub, Nat.reduceLT, Nat.reduceLeDiff, Nat.reduceMul, a24, a24l0, kN1154, kN1169, @x_loopAt]
theorem c3_0 (z0 : Bool) (z1 : Bool) (z2 : Bool) (v1 : Int) (v2 : Int) (v3 : Int) (v4 : Int) (v5 : Int) (v6 : Int) (v7 : List DispatchMode) (v8 : List DispatchHour) (v9 : List Int) (r1181 : Bool) (h : F3_0 v1 v2 v3 v4 v5 v6 v7 v8 v9 = some r1181) (ho : r1181 = true) : Ev fun n => (ex tab n).call 3 [.agg [.int .i64 v1, .int .i64 v2, .slice (.p 0) 0 v7.length v7.length 4 false], .agg [.int .i64 v3, .int .i64 v4, .int .i64 v5, .slice (.p 1) 0 v8.length v8.length 3 false], .agg [.slice (.p 2) 0 v9.length v9.length 1 false, .int .i64 v6]] [.row z0 true (rowC v7), .row z1 true (rowC v8), .row z2 true (rowC v9)] = some (.bool r1181, [.row z0 true (rowC v7), .row z1 true (rowC v8), .row z2 true (rowC v9)]) := by
  unfold F3_0 at h
  obtain ⟨N10, kN10⟩ := awake_ev
  obtain ⟨r29, g27, h⟩ := un1 h
  obtain ⟨N28, kN28⟩ := c13_0 z0 v1 v2 v7 _ g27
  by_cases c30 : r29 = true
  · rw [if_pos c30] at h
    have c30d := c30
    obtain ⟨r38, g36, h⟩ := un1 h
    obtain ⟨N37, kN37⟩ := c14_0 z1 v3 v4 v5 v8 _ g36
    by_cases c39 : r38 = true
    · rw [if_pos c39] at h
      have c39d := c39
      by_cases c40 : (v9.length : Int) ≤ 12
      · rw [if_pos c40] at h
        have c40d := dt c40
        obtain ⟨_, g45, h⟩ := un1 h
        obtain ⟨N46, kN46⟩ := c16_0 false v1 v2 v7 g45
        obtain ⟨_, g52, h⟩ := un1 h
        obtain ⟨N53, kN53⟩ := c17_0 false v3 v4 v5 v8 g52
        obtain ⟨_, g60, h⟩ := un1 h
        obtain ⟨N61, kN61⟩ := c18_0 z2 v6 v9 g60
        obtain ⟨r675, r676, g673, h⟩ := un2 h
        obtain ⟨N674, kN674⟩ := c15_0 true true true v1 v2 v3 v4 v5 v6 v7 v8 v9 _ _ g673
        obtain ⟨N678, kN678⟩ := c16_0 false v1 v2 v7 g45
        obtain ⟨N680, kN680⟩ := c17_0 false v3 v4 v5 v8 g52
        obtain ⟨N682, kN682⟩ := c18_0 z2 v6 v9 g60
        obtain ⟨r717, r718, g715, h⟩ := un2 h
        obtain ⟨N716, kN716⟩ := c19_0 true true true v1 v2 v3 v4 v5 v6 v7 v8 v9 _ _ g715
        obtain ⟨r917, g915, h⟩ := un1 h
        obtain ⟨N916, kN916⟩ := c20_0 z0 z1 v1 v2 v3 v4 v5 v7 v8 _ g915
        by_cases c918 : r917 = 0
        · rw [if_pos c918] at h
          have c918d := dt c918
          obtain ⟨r1038, g1036, h⟩ := un1 h
          obtain ⟨N1037, kN1037⟩ := c21_0 z0 z1 z2 v1 v2 v3 v4 v5 v6 v7 v8 v9 _ g1036
          by_cases c1039 : r1038 = 0
          · rw [if_pos c1039] at h
            have c1039d := dt c1039
            by_cases c1040 : r675 = 0
            · rw [if_pos c1040] at h
              have c1040d := dt c1040
              obtain ⟨r1121, g1119, h⟩ := un1 h
              obtain ⟨N1120, kN1120⟩ := c23_0 z0 z1 z2 v1 v2 v3 v4 v5 v6 v7 v8 v9 _ g1119
              obtain ⟨r1141, g1139, h⟩ := un1 h
              obtain ⟨N1140, kN1140⟩ := c22_0 true true r676 r1121 _ g1139
              by_cases c1142 : r1141 = true
              · rw [if_pos c1142] at h
                have c1142d := c1142
                by_cases c1143 : r718 = 0
                · rw [if_pos c1143] at h
                  have c1143d := dt c1143
                  obtain ⟨r1174, g1172, h⟩ := un1 h
                  obtain ⟨N1173, kN1173⟩ := c24_0 z0 z1 z2 v1 v2 v3 v4 v5 v6 v7 v8 v9 _ g1172
                  cases h
                  refine ev_call (fn := a3) rfl ⟨N10 + N28 + N37 + N46 + N53 + N61 + N674 + N678 + N680 + N682 + N716 + N916 + N1037 + N1120 + N1140 + N1173, fun n hn => ?_⟩
                  have kN10 := kN10 n (by omega)
                  have kN28 := kN28 n (by omega)
                  try simp (maxSteps := 2000000) only [wn] at kN28
                  have kN37 := kN37 n (by omega)
                  try simp (maxSteps := 2000000) only [wn] at kN37
                  have kN46 := kN46 n (by omega)
                  try simp (maxSteps := 2000000) only [wn] at kN46
                  have kN53 := kN53 n (by omega)
                  try simp (maxSteps := 2000000) only [wn] at kN53
                  have kN61 := kN61 n (by omega)
                  try simp (maxSteps := 2000000) only [wn] at kN61
                  have kN674 := kN674 n (by omega)
                  try simp (maxSteps := 2000000) only [wn] at kN674
                  have kN678 := kN678 n (by omega)
                  try simp (maxSteps := 2000000) only [wn] at kN678
                  have kN680 := kN680 n (by omega)
                  try simp (maxSteps := 2000000) only [wn] at kN680
                  have kN682 := kN682 n (by omega)
                  try simp (maxSteps := 2000000) only [wn] at kN682
                  have kN716 := kN716 n (by omega)
                  try simp (maxSteps := 2000000) only [wn] at kN716
                  have kN916 := kN916 n (by omega)
                  try simp (maxSteps := 2000000) only [wn] at kN916
                  have kN1037 := kN1037 n (by omega)
                  try simp (maxSteps := 2000000) only [wn] at kN1037
                  have kN1120 := kN1120 n (by omega)
                  try simp (maxSteps := 2000000) only [wn] at kN1120
                  have kN1140 := kN1140 n (by omega)
                  try simp (maxSteps := 2000000) only [wn] at kN1140
                  have kN1173 := kN1173 n (by omega)
                  try simp (maxSteps := 2000000) only [wn] at kN1173
                  simp (maxSteps := 2000000) only [W, reduceIte, Nat.reduceEqDiff, Nat.reduceAdd, Nat.reduceSub, Nat.reduceLT, Nat.reduceLeDiff, Nat.reduceMul, a3, kN10, kN28, c30d, kN37, c39d, c40d, kN46, kN53, kN61, kN674, kN678, kN680, kN682, kN716, kN916, c918d, kN1037, c1039d, c1040d, kN1120, kN1140, c1142d, c1143d, kN1173, wd]
                · rw [if_neg c1143] at h
                  have c1143d := df c1143
                  cases h
                  cases ho
              · rw [if_neg c1142] at h
                have c1142d := bf c1142
                cases h
                cases ho
            · rw [if_neg c1040] at h
              have c1040d := df c1040
              cases h
              cases ho
          · rw [if_neg c1039] at h
            have c1039d := df c1039
            by_cases c1175 : r675 = r1038
            · rw [if_pos c1175] at h
              have c1175d := dt c1175
              by_cases c1176 : r718 = r1038
              · rw [if_pos c1176] at h
                have c1176d := dt c1176
                by_cases c1177 : (r676.length : Int) = 0
                · rw [if_pos c1177] at h
                  have c1177d := dt c1177
                  cases h
                  refine ev_call (fn := a3) rfl ⟨N10 + N28 + N37 + N46 + N53 + N61 + N674 + N678 + N680 + N682 + N716 + N916 + N1037, fun n hn => ?_⟩
                  have kN10 := kN10 n (by omega)
                  have kN28 := kN28 n (by omega)
                  try simp (maxSteps := 2000000) only [wn] at kN28
                  have kN37 := kN37 n (by omega)
                  try simp (maxSteps := 2000000) only [wn] at kN37
                  have kN46 := kN46 n (by omega)
                  try simp (maxSteps := 2000000) only [wn] at kN46
                  have kN53 := kN53 n (by omega)
                  try simp (maxSteps := 2000000) only [wn] at kN53
                  have kN61 := kN61 n (by omega)
                  try simp (maxSteps := 2000000) only [wn] at kN61
                  have kN674 := kN674 n (by omega)
                  try simp (maxSteps := 2000000) only [wn] at kN674
                  have kN678 := kN678 n (by omega)
                  try simp (maxSteps := 2000000) only [wn] at kN678
                  have kN680 := kN680 n (by omega)
                  try simp (maxSteps := 2000000) only [wn] at kN680
                  have kN682 := kN682 n (by omega)
                  try simp (maxSteps := 2000000) only [wn] at kN682
                  have kN716 := kN716 n (by omega)
                  try simp (maxSteps := 2000000) only [wn] at kN716
                  have kN916 := kN916 n (by omega)
                  try simp (maxSteps := 2000000) only [wn] at kN916
                  have kN1037 := kN1037 n (by omega)
                  try simp (maxSteps := 2000000) only [wn] at kN1037
                  simp (maxSteps := 2000000) only [W, reduceIte, Nat.reduceEqDiff, Nat.reduceAdd, Nat.reduceSub, Nat.reduceLT, Nat.reduceLeDiff, Nat.reduceMul, a3, kN10, kN28, c30d, kN37, c39d, c40d, kN46, kN53, kN61, kN674, kN678, kN680, kN682, kN716, kN916, c918d, kN1037, c1039d, c1175d, c1176d, c1177d, wd]
                · rw [if_neg c1177] at h
                  have c1177d := df c1177
                  cases h
                  cases ho
              · rw [if_neg c1176] at h
                have c1176d := df c1176
                cases h
                cases ho
            · rw [if_neg c1175] at h
              have c1175d := df c1175
              cases h
              cases ho
        · rw [if_neg c918] at h
          have c918d := df c918
          by_cases c1178 : r675 = r917
          · rw [if_pos c1178] at h
            have c1178d := dt c1178
            by_cases c1179 : r718 = r917
            · rw [if_pos c1179] at h
              have c1179d := dt c1179
              by_cases c1180 : (r676.length : Int) = 0
              · rw [if_pos c1180] at h
                have c1180d := dt c1180
                cases h
                refine ev_call (fn := a3) rfl ⟨N10 + N28 + N37 + N46 + N53 + N61 + N674 + N678 + N680 + N682 + N716 + N916, fun n hn => ?_⟩
                have kN10 := kN10 n (by omega)
                have kN28 := kN28 n (by omega)
                try simp (maxSteps := 2000000) only [wn] at kN28
                have kN37 := kN37 n (by omega)
                try simp (maxSteps := 2000000) only [wn] at kN37
                have kN46 := kN46 n (by omega)
                try simp (maxSteps := 2000000) only [wn] at kN46
                have kN53 := kN53 n (by omega)
                try simp (maxSteps := 2000000) only [wn] at kN53
                have kN61 := kN61 n (by omega)
                try simp (maxSteps := 2000000) only [wn] at kN61
                have kN674 := kN674 n (by omega)
                try simp (maxSteps := 2000000) only [wn] at kN674
                have kN678 := kN678 n (by omega)
                try simp (maxSteps := 2000000) only [wn] at kN678
                have kN680 := kN680 n (by omega)
                try simp (maxSteps := 2000000) only [wn] at kN680
                have kN682 := kN682 n (by omega)
                try simp (maxSteps := 2000000) only [wn] at kN682
                have kN716 := kN716 n (by omega)
                try simp (maxSteps := 2000000) only [wn] at kN716
                have kN916 := kN916 n (by omega)
                try simp (maxSteps := 2000000) only [wn] at kN916
                simp (maxSteps := 2000000) only [W, reduceIte, Nat.reduceEqDiff, Nat.reduceAdd, Nat.reduceSub, Nat.reduceLT, Nat.reduceLeDiff, Nat.reduceMul, a3, kN10, kN28, c30d, kN37, c39d, c40d, kN46, kN53, kN61, kN674, kN678, kN680, kN682, kN716, kN916, c918d, c1178d, c1179d, c1180d, wd]
              · rw [if_neg c1180] at h
                have c1180d := df c1180
                cases h
                cases ho
            · rw [if_neg c1179] at h
              have c1179d := df c1179
              cases h
              cases ho
          · rw [if_neg c1178] at h
            have c1178d := df c1178
            cases h
            cases ho
      · rw [if_neg c40] at h
        have c40d := df c40
        cases h
        refine ev_call (fn := a3) rfl ⟨N10 + N28 + N37, fun n hn => ?_⟩
        have kN10 := kN10 n (by omega)
        have kN28 := kN28 n (by omega)
        try simp (maxSteps := 2000000) only [wn] at kN28
        have kN37 := kN37 n (by omega)
        try simp (maxSteps := 2000000) only [wn] at kN37
        simp (maxSteps := 2000000) only [W, reduceIte, Nat.reduceEqDiff, Nat.reduceAdd, Nat.reduceSub, Nat.reduceLT, Nat.reduceLeDiff, Nat.reduceMul, a3, kN10, kN28, c30d, kN37, c39d, c40d, wd]
    · rw [if_neg c39] at h
      have c39d := bf c39
      cases h
      refine ev_call (fn := a3) rfl ⟨N10 + N28 + N37, fun n hn => ?_⟩
      have kN10 := kN10 n (by omega)
      have kN28 := kN28 n (by omega)
      try simp (maxSteps := 2000000) only [wn] at kN28
      have kN37 := kN37 n (by omega)
      try simp (maxSteps := 2000000) only [wn] at kN37
      simp (maxSteps := 2000000) only [W, reduceIte, Nat.reduceEqDiff, Nat.reduceAdd, Nat.reduceSub, Nat.reduceLT, Nat.reduceLeDiff, Nat.reduceMul, a3, kN10, kN28, c30d, kN37, c39d, wd]
  · rw [if_neg c30] at h
    have c30d := bf c30
    cases h
    refine ev_call (fn := a3) rfl ⟨N10 + N28, fun n hn => ?_⟩
    have kN10 := kN10 n (by omega)
    have kN28 := kN28 n (by omega)
    try simp (maxSteps := 2000000) only [wn] at kN28
    simp (maxSteps := 2000000) only [W, reduceIte, Nat.reduceEqDiff, Nat.reduceAdd, Nat.reduceSub, Nat.reduceLT, Nat.reduceLeDiff, Nat.reduceMul, a3, kN10, kN28, c30d, wd]
end Go.AI
end
