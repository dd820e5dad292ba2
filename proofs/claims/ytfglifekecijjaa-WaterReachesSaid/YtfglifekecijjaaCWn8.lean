/-
  Functions, walked through: water.open, water.net).nodeErr, water.net).isOpen, water.net).reached, water.where, water.ReachedFrom, water.net).lakes, water.net).wet.
-/
import Derived.Test.YtfglifekecijjaaCAiY
import Derived.Test.YtfglifekecijjaaCAiTab
import Derived.Test.YtfglifekecijjaaCAiAwake
import Derived.Test.YtfglifekecijjaaCWnF
import Derived.Test.YtfglifekecijjaaCWn0
import Derived.Test.YtfglifekecijjaaCWn2
set_option linter.unusedVariables false
set_option linter.unusedSimpArgs false
set_option maxRecDepth 100000
set_option maxHeartbeats 4000000
namespace Go.AI
theorem c87_0 (z0 : Bool) (z1 : Bool) (v961 : List WaterNode) (v962 : List WaterConduit) (r967 : Int) (h : F87_0 v961 v962 = some r967) : Ev fun n => (ex tab n).call 87 [.agg [.slice 0 0 v961.length v961.length 4 false, .slice 1 0 v962.length v962.length 6 false]] [.row z0 true (rowC v961), .row z1 true (rowC v962)] = some (.tup [.agg [.slice 0 0 v961.length v961.length 4 false, .slice 1 0 v962.length v962.length 6 false], .int .i64 r967], [.row z0 true (rowC v961), .row z1 true (rowC v962)]) := by
  unfold F87_0 at h
  obtain ⟨r965, r966, g963, h⟩ := un2 h
  obtain ⟨N964, kN964⟩ := c16_0 z0 z1 v961 v962 _ _ g963
  cases h
  refine ev_call (fn := a87) rfl ⟨N964, fun n hn => ?_⟩
  have kN964 := kN964 n (by omega)
  try simp (maxSteps := 2000000) only [wn, rc_WaterConduit, rc_WaterNode] at kN964
  simp (maxSteps := 2000000) only [W, reduceIte, Nat.reduceEqDiff, Nat.reduceAdd, Nat.reduceSub, Nat.reduceLT, Nat.reduceLeDiff, Nat.reduceMul, a87, rc_WaterConduit, rc_WaterNode, kN964]
theorem c88_0 (z0 : Bool) (z1 : Bool) (v971 : Int) (v972 : List WaterNode) (v973 : List WaterConduit) (r980 : Int) (h : F88_0 v971 v972 v973 = some r980) : Ev fun n => (ex tab n).call 88 [.agg [.slice 0 0 v972.length v972.length 4 false, .slice 1 0 v973.length v973.length 6 false], .int .i64 v971] [.row z0 true (rowC v972), .row z1 true (rowC v973)] = some (.int .i64 r980, [.row z0 true (rowC v972), .row z1 true (rowC v973)]) := by
  unfold F88_0 at h
  obtain ⟨r976, g974, h⟩ := un1 h
  obtain ⟨N975, kN975⟩ := c74_0 v971 0 (aw .i64 ((v972.length : Int) - 1)) _ g974
  obtain ⟨r979, g977, h⟩ := un1 h
  obtain ⟨N978, kN978⟩ := c72_0 r976 6 _ g977
  cases h
  refine ev_call (fn := a88) rfl ⟨N975 + N978, fun n hn => ?_⟩
  have kN975 := kN975 n (by omega)
  try simp (maxSteps := 2000000) only [wn] at kN975
  have kN978 := kN978 n (by omega)
  try simp (maxSteps := 2000000) only [wn] at kN978
  simp (maxSteps := 2000000) only [W, reduceIte, Nat.reduceEqDiff, Nat.reduceAdd, Nat.reduceSub, Nat.reduceLT, Nat.reduceLeDiff, Nat.reduceMul, a88, kN975, kN978]
noncomputable def h90l0_0 (z0 : Bool) (z1 : Bool) (z2 : Bool) (v994 : Int) (v996 : List WaterNode) (v997 : List WaterConduit) (v998 : List Int) : (Int × (List Bool)) → Env × Heap
  | (v995, v999) => ([(2, .func 91 [.agg [.slice 0 0 v996.length v996.length 4 false, .slice 1 0 v997.length v997.length 6 false]] []), (3, .ptr 3 0), (7, .slice 4 0 v999.length v999.length 1 false), (18, .slice 2 0 v998.length v998.length 1 false), (19, .int .i64 v994), (20, .int .i64 v995)], [.row z0 true (rowC v996), .row z1 true (rowC v997), .row z2 true (rowC v998), .row true false [.slice 0 0 v996.length v996.length 4 false, .slice 1 0 v997.length v997.length 6 false], .row true true (rowC v999)])
noncomputable def q90l0_0 (z0 : Bool) (z1 : Bool) (z2 : Bool) (v994 : Int) (v996 : List WaterNode) (v997 : List WaterConduit) (v998 : List Int) : ((List Bool)) → AExit × Env × Heap
  | r1007 => (.exit 0, [(2, .func 91 [.agg [.slice 0 0 v996.length v996.length 4 false, .slice 1 0 v997.length v997.length 6 false]] []), (3, .ptr 3 0), (6, .undef), (7, .slice 4 0 r1007.length r1007.length 1 false)], [.row z0 true (rowC v996), .row z1 true (rowC v997), .row z2 true (rowC v998), .row true false [.slice 0 0 v996.length v996.length 4 false, .slice 1 0 v997.length v997.length 6 false], .row true true (rowC r1007)])
theorem k90l0_0 (z0 : Bool) (z1 : Bool) (z2 : Bool) (v994 : Int) (v996 : List WaterNode) (v997 : List WaterConduit) (v998 : List Int) (s : Int × (List Bool)) (o : (List Bool)) (h : L90l0_0 v994 v996 v997 v998 s = some o) : Ev fun n => loopAt [2, 3, 7, 18, 19, 20] [2, 3, 6, 7] a90l0b (ex tab n) 3 (h90l0_0 z0 z1 z2 v994 v996 v997 v998 s) = some (q90l0_0 z0 z1 z2 v994 v996 v997 v998 o) := by
  refine iter_sound (S90l0_0 v994 v996 v997 v998) [2, 3, 7, 18, 19, 20] [2, 3, 6, 7] a90l0b 3 (h90l0_0 z0 z1 z2 v994 v996 v997 v998) (q90l0_0 z0 z1 z2 v994 v996 v997 v998) ?_ _ _ _ h
  rintro ⟨v995, v999⟩ z h
  simp only [S90l0_0] at h
  by_cases c1000 : v994 ≤ v995
  · rw [if_pos c1000] at h
    have c1000d := dt c1000
    cases h
    refine ⟨0, fun n hn => ?_⟩
    simp (maxSteps := 2000000) only [W, reduceIte, Nat.reduceEqDiff, Nat.reduceAdd, Nat.reduceSub, Nat.reduceLT, Nat.reduceLeDiff, Nat.reduceMul, h90l0_0, q90l0_0, a90l0b, c1000d]
  · rw [if_neg c1000] at h
    have c1000d := df c1000
    obtain ⟨j1001, x1002, g1003, h⟩ := un2 h
    obtain ⟨g10031, g10032⟩ := geti_in g1003
    have g10033 := ac_Int g10032
    try simp only [wn] at g10031
    obtain ⟨j1004, x1005, g1006, h⟩ := un2 h
    obtain ⟨g10061, g10062⟩ := geti_in g1006
    have g10063 := ac_Bool g10062
    try simp only [wn] at g10061
    cases h
    refine ⟨0, fun n hn => ?_⟩
    simp (maxSteps := 2000000) only [W, reduceIte, Nat.reduceEqDiff, Nat.reduceAdd, Nat.reduceSub, Nat.reduceLT, Nat.reduceLeDiff, Nat.reduceMul, h90l0_0, q90l0_0, a90l0b, c1000d, g10031, g10033, g10061, g10063]
theorem c91_0 (z0 : Bool) (z1 : Bool) (v1028 : Int) (v1029 : List WaterNode) (v1030 : List WaterConduit) (r1034 : Bool) (h : F91_0 v1028 v1029 v1030 = some r1034) : Ev fun n => (ex tab n).call 91 [.agg [.slice 0 0 v1029.length v1029.length 4 false, .slice 1 0 v1030.length v1030.length 6 false], .int .i64 v1028] [.row z0 true (rowC v1029), .row z1 true (rowC v1030)] = some (.bool r1034, [.row z0 true (rowC v1029), .row z1 true (rowC v1030)]) := by
  unfold F91_0 at h
  obtain ⟨j1031, x1032, g1033, h⟩ := un2 h
  obtain ⟨g10331, g10332⟩ := geti_in g1033
  have g10333 := ac_WaterConduit g10332
  try simp only [wn] at g10331
  cases h
  refine ev_call (fn := a91) rfl ⟨0, fun n hn => ?_⟩
  simp (maxSteps := 2000000) only [W, reduceIte, Nat.reduceEqDiff, Nat.reduceAdd, Nat.reduceSub, Nat.reduceLT, Nat.reduceLeDiff, Nat.reduceMul, a91, rc_WaterConduit, g10331, g10333]
noncomputable def h90l1_0 (z0 : Bool) (z1 : Bool) (z2 : Bool) (v1018 : Int) (v1020 : List WaterNode) (v1021 : List WaterConduit) (v1022 : List Int) : (Bool × Int × (List Bool)) → Env × Heap
  | (v1017, v1019, v1023) => ([(2, .func 91 [.agg [.slice 0 0 v1020.length v1020.length 4 false, .slice 1 0 v1021.length v1021.length 6 false]] []), (3, .ptr 3 0), (7, .slice 4 0 v1023.length v1023.length 1 false), (10, .bool v1017), (31, .slice 1 0 v1021.length v1021.length 6 false), (32, .int .i64 v1018), (33, .int .i64 v1019)], [.row z0 true (rowC v1020), .row z1 true (rowC v1021), .row z2 true (rowC v1022), .row true false [.slice 0 0 v1020.length v1020.length 4 false, .slice 1 0 v1021.length v1021.length 6 false], .row true true (rowC v1023)])
noncomputable def q90l1_0 (z0 : Bool) (z1 : Bool) (z2 : Bool) (v1018 : Int) (v1020 : List WaterNode) (v1021 : List WaterConduit) (v1022 : List Int) : (Bool × (List Bool)) → AExit × Env × Heap
  | (r1048, r1049) => (.exit 4, [(2, .func 91 [.agg [.slice 0 0 v1020.length v1020.length 4 false, .slice 1 0 v1021.length v1021.length 6 false]] []), (3, .ptr 3 0), (6, .undef), (7, .slice 4 0 r1049.length r1049.length 1 false), (10, .bool r1048)], [.row z0 true (rowC v1020), .row z1 true (rowC v1021), .row z2 true (rowC v1022), .row true false [.slice 0 0 v1020.length v1020.length 4 false, .slice 1 0 v1021.length v1021.length 6 false], .row true true (rowC r1049)])
theorem k90l1_0 (z0 : Bool) (z1 : Bool) (z2 : Bool) (v1018 : Int) (v1020 : List WaterNode) (v1021 : List WaterConduit) (v1022 : List Int) (s : Bool × Int × (List Bool)) (o : Bool × (List Bool)) (h : L90l1_0 v1018 v1020 v1021 v1022 s = some o) : Ev fun n => loopAt [2, 3, 7, 10, 31, 32, 33] [2, 3, 6, 7, 10] a90l1b (ex tab n) 3 (h90l1_0 z0 z1 z2 v1018 v1020 v1021 v1022 s) = some (q90l1_0 z0 z1 z2 v1018 v1020 v1021 v1022 o) := by
  refine iter_sound (S90l1_0 v1018 v1020 v1021 v1022) [2, 3, 7, 10, 31, 32, 33] [2, 3, 6, 7, 10] a90l1b 3 (h90l1_0 z0 z1 z2 v1018 v1020 v1021 v1022) (q90l1_0 z0 z1 z2 v1018 v1020 v1021 v1022) ?_ _ _ _ h
  rintro ⟨v1017, v1019, v1023⟩ z h
  simp only [S90l1_0] at h
  by_cases c1024 : v1018 ≤ v1019
  · rw [if_pos c1024] at h
    have c1024d := dt c1024
    cases h
    refine ⟨0, fun n hn => ?_⟩
    simp (maxSteps := 2000000) only [W, reduceIte, Nat.reduceEqDiff, Nat.reduceAdd, Nat.reduceSub, Nat.reduceLT, Nat.reduceLeDiff, Nat.reduceMul, h90l1_0, q90l1_0, a90l1b, rc_WaterConduit, c1024d, wd]
  · rw [if_neg c1024] at h
    have c1024d := df c1024
    obtain ⟨j1025, x1026, g1027, h⟩ := un2 h
    obtain ⟨g10271, g10272⟩ := geti_in g1027
    have g10273 := ac_WaterConduit g10272
    try simp only [wn] at g10271
    obtain ⟨r1037, g1035, h⟩ := un1 h
    obtain ⟨N1036, kN1036⟩ := c91_0 z0 z1 v1019 v1020 v1021 _ g1035
    by_cases c1038 : r1037 = true
    · rw [if_pos c1038] at h
      have c1038d := c1038
      obtain ⟨j1039, x1040, g1041, h⟩ := un2 h
      obtain ⟨g10411, g10412⟩ := geti_in g1041
      have g10413 := ac_Bool g10412
      try simp only [wn] at g10411
      obtain ⟨j1042, x1043, g1044, h⟩ := un2 h
      obtain ⟨g10441, g10442⟩ := geti_in g1044
      have g10443 := ac_Bool g10442
      try simp only [wn] at g10441
      by_cases c1045 : (x1040 == x1043) = true
      · rw [if_pos c1045] at h
        have c1045d := c1045
        cases h
        refine ⟨N1036, fun n hn => ?_⟩
        have kN1036 := kN1036 n (by omega)
        try simp (maxSteps := 2000000) only [wn, rc_WaterConduit] at kN1036
        simp (maxSteps := 2000000) only [W, reduceIte, Nat.reduceEqDiff, Nat.reduceAdd, Nat.reduceSub, Nat.reduceLT, Nat.reduceLeDiff, Nat.reduceMul, h90l1_0, q90l1_0, a90l1b, rc_WaterConduit, c1024d, g10271, g10273, kN1036, c1038d, g10411, g10413, g10441, g10443, c1045d, wd]
      · rw [if_neg c1045] at h
        have c1045d := bf c1045
        obtain ⟨x1046, g1047, h⟩ := un1 h
        have g10473 := ac_Bool g1047
        cases h
        refine ⟨N1036, fun n hn => ?_⟩
        have kN1036 := kN1036 n (by omega)
        try simp (maxSteps := 2000000) only [wn, rc_WaterConduit] at kN1036
        simp (maxSteps := 2000000) only [W, reduceIte, Nat.reduceEqDiff, Nat.reduceAdd, Nat.reduceSub, Nat.reduceLT, Nat.reduceLeDiff, Nat.reduceMul, h90l1_0, q90l1_0, a90l1b, rc_WaterConduit, c1024d, g10271, g10273, kN1036, c1038d, g10411, g10413, g10441, g10443, c1045d, g10473, wd]
    · rw [if_neg c1038] at h
      have c1038d := bf c1038
      cases h
      refine ⟨N1036, fun n hn => ?_⟩
      have kN1036 := kN1036 n (by omega)
      try simp (maxSteps := 2000000) only [wn, rc_WaterConduit] at kN1036
      simp (maxSteps := 2000000) only [W, reduceIte, Nat.reduceEqDiff, Nat.reduceAdd, Nat.reduceSub, Nat.reduceLT, Nat.reduceLeDiff, Nat.reduceMul, h90l1_0, q90l1_0, a90l1b, rc_WaterConduit, c1024d, g10271, g10273, kN1036, c1038d, wd]
noncomputable def h90l2_0 (z0 : Bool) (z1 : Bool) (z2 : Bool) (v1012 : List WaterNode) (v1013 : List WaterConduit) (v1014 : List Int) : (Bool × (List Bool)) → Env × Heap
  | (v1011, v1015) => ([(2, .func 91 [.agg [.slice 0 0 v1012.length v1012.length 4 false, .slice 1 0 v1013.length v1013.length 6 false]] []), (3, .ptr 3 0), (7, .slice 4 0 v1015.length v1015.length 1 false), (10, .bool v1011)], [.row z0 true (rowC v1012), .row z1 true (rowC v1013), .row z2 true (rowC v1014), .row true false [.slice 0 0 v1012.length v1012.length 4 false, .slice 1 0 v1013.length v1013.length 6 false], .row true true (rowC v1015)])
noncomputable def q90l2_0 (z0 : Bool) (z1 : Bool) (z2 : Bool) (v1012 : List WaterNode) (v1013 : List WaterConduit) (v1014 : List Int) : ((List Bool)) → AExit × Env × Heap
  | r1054 => (.exit 2, [(6, .undef), (7, .slice 3 0 r1054.length r1054.length 1 false)], [.row z0 true (rowC v1012), .row z1 true (rowC v1013), .row z2 true (rowC v1014), .row true true (rowC r1054)])
theorem k90l2_0 (z0 : Bool) (z1 : Bool) (z2 : Bool) (v1012 : List WaterNode) (v1013 : List WaterConduit) (v1014 : List Int) (s : Bool × (List Bool)) (o : (List Bool)) (h : L90l2_0 v1012 v1013 v1014 s = some o) : Ev fun n => loopAt [2, 3, 7, 10] [6, 7] a90l2b (ex tab n) 3 (h90l2_0 z0 z1 z2 v1012 v1013 v1014 s) = some (q90l2_0 z0 z1 z2 v1012 v1013 v1014 o) := by
  refine iter_sound (S90l2_0 v1012 v1013 v1014) [2, 3, 7, 10] [6, 7] a90l2b 3 (h90l2_0 z0 z1 z2 v1012 v1013 v1014) (q90l2_0 z0 z1 z2 v1012 v1013 v1014) ?_ _ _ _ h
  rintro ⟨v1011, v1015⟩ z h
  simp only [S90l2_0] at h
  by_cases c1016 : v1011 = true
  · rw [if_pos c1016] at h
    have c1016d := c1016
    obtain ⟨r1052, r1053, g1050, h⟩ := un2 h
    have kN1051 := k90l1_0 z0 z1 z2 (v1013.length : Int) v1012 v1013 v1014 (false, 0, v1015) _ g1050
    obtain ⟨N1051, kN1051⟩ := kN1051
    cases h
    refine ⟨N1051, fun n hn => ?_⟩
    have kN1051 := kN1051 n (by omega)
    simp (maxSteps := 2000000) only [h90l1_0, q90l1_0, wn, rc_WaterConduit] at kN1051
    simp (maxSteps := 2000000) only [W, reduceIte, Nat.reduceEqDiff, Nat.reduceAdd, Nat.reduceSub, Nat.reduceLT, Nat.reduceLeDiff, Nat.reduceMul, h90l2_0, q90l2_0, a90l1, a90l2b, rc_WaterConduit, c1016d, kN1051, @x_loopAt]
  · rw [if_neg c1016] at h
    have c1016d := bf c1016
    cases h
    refine ⟨0, fun n hn => ?_⟩
    simp (maxSteps := 2000000) only [W, reduceIte, Nat.reduceEqDiff, Nat.reduceAdd, Nat.reduceSub, Nat.reduceLT, Nat.reduceLeDiff, Nat.reduceMul, h90l2_0, q90l2_0, a90l1, a90l2b, rc_WaterConduit, c1016d, @x_loopAt]
theorem c90_0 (z0 : Bool) (z1 : Bool) (z2 : Bool) (v988 : List WaterNode) (v989 : List WaterConduit) (v990 : List Int) (r1058 : List Bool) (h : F90_0 v988 v989 v990 = some r1058) : Ev fun n => (ex tab n).call 90 [.agg [.slice 0 0 v988.length v988.length 4 false, .slice 1 0 v989.length v989.length 6 false], .slice 2 0 v990.length v990.length 1 false, .func 91 [.agg [.slice 0 0 v988.length v988.length 4 false, .slice 1 0 v989.length v989.length 6 false]] []] [.row z0 true (rowC v988), .row z1 true (rowC v989), .row z2 true (rowC v990)] = some (.slice 3 0 r1058.length r1058.length 1 false, [.row z0 true (rowC v988), .row z1 true (rowC v989), .row z2 true (rowC v990), .row true true (rowC r1058)]) := by
  unfold F90_0 at h
  obtain ⟨n991, g992, h⟩ := un1 h
  try simp only [wn] at g992
  obtain ⟨g993, h⟩ := un_roomd h
  try simp only [Nat.reduceLeDiff] at g993
  obtain ⟨r1010, g1008, h⟩ := un1 h
  have kN1009 := k90l0_0 z0 z1 z2 (v990.length : Int) v988 v989 v990 (0, (List.replicate n991 false)) _ g1008
  obtain ⟨N1009, kN1009⟩ := kN1009
  obtain ⟨r1057, g1055, h⟩ := un1 h
  have kN1056 := k90l2_0 z0 z1 z2 v988 v989 v990 (true, r1010) _ g1055
  obtain ⟨N1056, kN1056⟩ := kN1056
  cases h
  refine ev_call (fn := a90) rfl ⟨N1009 + N1056, fun n hn => ?_⟩
  have kN1009 := kN1009 n (by omega)
  simp (maxSteps := 2000000) only [h90l0_0, q90l0_0, wn] at kN1009
  have kN1056 := kN1056 n (by omega)
  simp (maxSteps := 2000000) only [h90l2_0, q90l2_0, wn, rc_WaterConduit] at kN1056
  simp (maxSteps := 2000000) only [W, reduceIte, Nat.reduceEqDiff, Nat.reduceAdd, Nat.reduceSub, Nat.reduceLT, Nat.reduceLeDiff, Nat.reduceMul, a90, a90l0, a90l2, rc_WaterConduit, g992, g993, kN1009, kN1056, @x_loopAt]
noncomputable def h89l0_0 (z0 : Bool) (v1063 : Int) (v1065 : List Bool) : (Int × (List Int)) → Env × Heap
  | (v1064, v1066) => ([(3, .slice 1 0 v1066.length v1066.length 1 false), (6, .slice 0 0 v1065.length v1065.length 1 false), (7, .int .i64 v1063), (8, .int .i64 v1064)], [.row z0 true (rowC v1065), .row true true (rowC v1066)])
noncomputable def q89l0_0 (z0 : Bool) (v1063 : Int) (v1065 : List Bool) : ((List Int)) → AExit × Env × Heap
  | r1073 => (.exit 0, [(2, .undef), (3, .slice 1 0 r1073.length r1073.length 1 false)], [.row z0 true (rowC v1065), .row true true (rowC r1073)])
theorem k89l0_0 (z0 : Bool) (v1063 : Int) (v1065 : List Bool) (s : Int × (List Int)) (o : (List Int)) (h : L89l0_0 v1063 v1065 s = some o) : Ev fun n => loopAt [3, 6, 7, 8] [2, 3] a89l0b (ex tab n) 1 (h89l0_0 z0 v1063 v1065 s) = some (q89l0_0 z0 v1063 v1065 o) := by
  refine iter_sound (S89l0_0 v1063 v1065) [3, 6, 7, 8] [2, 3] a89l0b 1 (h89l0_0 z0 v1063 v1065) (q89l0_0 z0 v1063 v1065) ?_ _ _ _ h
  rintro ⟨v1064, v1066⟩ z h
  simp only [S89l0_0] at h
  by_cases c1067 : v1063 ≤ v1064
  · rw [if_pos c1067] at h
    have c1067d := dt c1067
    cases h
    refine ⟨0, fun n hn => ?_⟩
    simp (maxSteps := 2000000) only [W, reduceIte, Nat.reduceEqDiff, Nat.reduceAdd, Nat.reduceSub, Nat.reduceLT, Nat.reduceLeDiff, Nat.reduceMul, h89l0_0, q89l0_0, a89l0b, c1067d]
  · rw [if_neg c1067] at h
    have c1067d := df c1067
    obtain ⟨j1068, x1069, g1070, h⟩ := un2 h
    obtain ⟨g10701, g10702⟩ := geti_in g1070
    have g10703 := ac_Bool g10702
    try simp only [wn] at g10701
    by_cases c1071 : x1069 = true
    · rw [if_pos c1071] at h
      have c1071d := c1071
      obtain ⟨g1072, h⟩ := un_roomd h
      cases h
      refine ⟨0, fun n hn => ?_⟩
      simp (maxSteps := 2000000) only [W, reduceIte, Nat.reduceEqDiff, Nat.reduceAdd, Nat.reduceSub, Nat.reduceLT, Nat.reduceLeDiff, Nat.reduceMul, h89l0_0, q89l0_0, a89l0b, c1067d, g10701, g10703, c1071d, g1072]
    · rw [if_neg c1071] at h
      have c1071d := bf c1071
      cases h
      refine ⟨0, fun n hn => ?_⟩
      simp (maxSteps := 2000000) only [W, reduceIte, Nat.reduceEqDiff, Nat.reduceAdd, Nat.reduceSub, Nat.reduceLT, Nat.reduceLeDiff, Nat.reduceMul, h89l0_0, q89l0_0, a89l0b, c1067d, g10701, g10703, c1071d]
theorem c89_0 (z0 : Bool) (v1062 : List Bool) (r1077 : List Int) (h : F89_0 v1062 = some r1077) : Ev fun n => (ex tab n).call 89 [.slice 0 0 v1062.length v1062.length 1 false] [.row z0 true (rowC v1062)] = some (.slice 1 0 r1077.length r1077.length 1 false, [.row z0 true (rowC v1062), .row true true (rowC r1077)]) := by
  unfold F89_0 at h
  obtain ⟨r1076, g1074, h⟩ := un1 h
  have kN1075 := k89l0_0 z0 (v1062.length : Int) v1062 (0, ([] : List Int)) _ g1074
  obtain ⟨N1075, kN1075⟩ := kN1075
  cases h
  refine ev_call (fn := a89) rfl ⟨N1075, fun n hn => ?_⟩
  have kN1075 := kN1075 n (by omega)
  simp (maxSteps := 2000000) only [h89l0_0, q89l0_0, wn] at kN1075
  simp (maxSteps := 2000000) only [W, reduceIte, Nat.reduceEqDiff, Nat.reduceAdd, Nat.reduceSub, Nat.reduceLT, Nat.reduceLeDiff, Nat.reduceMul, a89, a89l0, kN1075, @x_loopAt]
theorem c29_0 (z0 : Bool) (z1 : Bool) (v958 : Int) (v959 : List WaterNode) (v960 : List WaterConduit) (r1081 : Int) (r1082 : List Int) (h : F29_0 v958 v959 v960 = some (r1081, r1082)) : Ev fun n => (ex tab n).call 29 [.agg [.slice 0 0 v959.length v959.length 4 false, .slice 1 0 v960.length v960.length 6 false], .int .i64 v958] [.row z0 true (rowC v959), .row z1 true (rowC v960)] = some (.tup [.slice 2 0 r1082.length r1082.length 1 false, .int .i64 r1081], [.row z0 true (rowC v959), .row z1 true (rowC v960), .row true true (rowC r1082)]) := by
  unfold F29_0 at h
  obtain ⟨r970, g968, h⟩ := un1 h
  obtain ⟨N969, kN969⟩ := c87_0 z0 z1 v959 v960 _ g968
  obtain ⟨r983, g981, h⟩ := un1 h
  obtain ⟨N982, kN982⟩ := c88_0 z0 z1 v958 v959 v960 _ g981
  obtain ⟨r986, g984, h⟩ := un1 h
  obtain ⟨N985, kN985⟩ := c71_0 true ([r970, r983] : List Int) _ g984
  by_cases c987 : r986 = 0
  · rw [if_pos c987] at h
    have c987d := dt c987
    obtain ⟨r1061, g1059, h⟩ := un1 h
    obtain ⟨N1060, kN1060⟩ := c90_0 z0 z1 true v959 v960 ([v958] : List Int) _ g1059
    obtain ⟨r1080, g1078, h⟩ := un1 h
    obtain ⟨N1079, kN1079⟩ := c89_0 true r1061 _ g1078
    cases h
    refine ev_call (fn := a29) rfl ⟨N969 + N982 + N985 + N1060 + N1079, fun n hn => ?_⟩
    have kN969 := kN969 n (by omega)
    try simp (maxSteps := 2000000) only [wn] at kN969
    have kN982 := kN982 n (by omega)
    try simp (maxSteps := 2000000) only [wn, rc_WaterConduit, rc_WaterNode] at kN982
    have kN985 := kN985 n (by omega)
    try simp (maxSteps := 2000000) only [wn, rc_WaterConduit, rc_WaterNode] at kN985
    have kN1060 := kN1060 n (by omega)
    try simp (maxSteps := 2000000) only [wn, rc_WaterConduit, rc_WaterNode] at kN1060
    have kN1079 := kN1079 n (by omega)
    try simp (maxSteps := 2000000) only [wn, rc_WaterConduit, rc_WaterNode] at kN1079
    simp (maxSteps := 2000000) only [W, reduceIte, Nat.reduceEqDiff, Nat.reduceAdd, Nat.reduceSub, Nat.reduceLT, Nat.reduceLeDiff, Nat.reduceMul, a29, rc_WaterConduit, rc_WaterNode, kN969, kN982, kN985, c987d, kN1060, kN1079]
  · rw [if_neg c987] at h
    have c987d := df c987
    cases h
    refine ev_call (fn := a29) rfl ⟨N969 + N982 + N985, fun n hn => ?_⟩
    have kN969 := kN969 n (by omega)
    try simp (maxSteps := 2000000) only [wn] at kN969
    have kN982 := kN982 n (by omega)
    try simp (maxSteps := 2000000) only [wn, rc_WaterConduit, rc_WaterNode] at kN982
    have kN985 := kN985 n (by omega)
    try simp (maxSteps := 2000000) only [wn, rc_WaterConduit, rc_WaterNode] at kN985
    simp (maxSteps := 2000000) only [W, reduceIte, Nat.reduceEqDiff, Nat.reduceAdd, Nat.reduceSub, Nat.reduceLT, Nat.reduceLeDiff, Nat.reduceMul, a29, rc_WaterConduit, rc_WaterNode, kN969, kN982, kN985, c987d]
noncomputable def h135l0_0 (z0 : Bool) (z1 : Bool) (v1099 : Int) (v1101 : List WaterNode) (v1102 : List WaterConduit) : (Int × (List Int)) → Env × Heap
  | (v1100, v1103) => ([(3, .slice 2 0 v1103.length v1103.length 1 false), (8, .slice 0 0 v1101.length v1101.length 4 false), (9, .int .i64 v1099), (10, .int .i64 v1100)], [.row z0 true (rowC v1101), .row z1 true (rowC v1102), .row true true (rowC v1103)])
noncomputable def q135l0_0 (z0 : Bool) (z1 : Bool) (v1099 : Int) (v1101 : List WaterNode) (v1102 : List WaterConduit) : ((List Int)) → AExit × Env × Heap
  | r1110 => (.exit 0, [(2, .undef), (3, .slice 2 0 r1110.length r1110.length 1 false)], [.row z0 true (rowC v1101), .row z1 true (rowC v1102), .row true true (rowC r1110)])
theorem k135l0_0 (z0 : Bool) (z1 : Bool) (v1099 : Int) (v1101 : List WaterNode) (v1102 : List WaterConduit) (s : Int × (List Int)) (o : (List Int)) (h : L135l0_0 v1099 v1101 v1102 s = some o) : Ev fun n => loopAt [3, 8, 9, 10] [2, 3] a135l0b (ex tab n) 2 (h135l0_0 z0 z1 v1099 v1101 v1102 s) = some (q135l0_0 z0 z1 v1099 v1101 v1102 o) := by
  refine iter_sound (S135l0_0 v1099 v1101 v1102) [3, 8, 9, 10] [2, 3] a135l0b 2 (h135l0_0 z0 z1 v1099 v1101 v1102) (q135l0_0 z0 z1 v1099 v1101 v1102) ?_ _ _ _ h
  rintro ⟨v1100, v1103⟩ z h
  simp only [S135l0_0] at h
  by_cases c1104 : v1099 ≤ v1100
  · rw [if_pos c1104] at h
    have c1104d := dt c1104
    cases h
    refine ⟨0, fun n hn => ?_⟩
    simp (maxSteps := 2000000) only [W, reduceIte, Nat.reduceEqDiff, Nat.reduceAdd, Nat.reduceSub, Nat.reduceLT, Nat.reduceLeDiff, Nat.reduceMul, h135l0_0, q135l0_0, a135l0b, rc_WaterNode, c1104d]
  · rw [if_neg c1104] at h
    have c1104d := df c1104
    obtain ⟨j1105, x1106, g1107, h⟩ := un2 h
    obtain ⟨g11071, g11072⟩ := geti_in g1107
    have g11073 := ac_WaterNode g11072
    try simp only [wn] at g11071
    by_cases c1108 : x1106.fLake = true
    · rw [if_pos c1108] at h
      have c1108d := c1108
      obtain ⟨g1109, h⟩ := un_roomd h
      cases h
      refine ⟨0, fun n hn => ?_⟩
      simp (maxSteps := 2000000) only [W, reduceIte, Nat.reduceEqDiff, Nat.reduceAdd, Nat.reduceSub, Nat.reduceLT, Nat.reduceLeDiff, Nat.reduceMul, h135l0_0, q135l0_0, a135l0b, rc_WaterNode, c1104d, g11071, g11073, c1108d, g1109]
    · rw [if_neg c1108] at h
      have c1108d := bf c1108
      cases h
      refine ⟨0, fun n hn => ?_⟩
      simp (maxSteps := 2000000) only [W, reduceIte, Nat.reduceEqDiff, Nat.reduceAdd, Nat.reduceSub, Nat.reduceLT, Nat.reduceLeDiff, Nat.reduceMul, h135l0_0, q135l0_0, a135l0b, rc_WaterNode, c1104d, g11071, g11073, c1108d]
theorem c135_0 (z0 : Bool) (z1 : Bool) (v1097 : List WaterNode) (v1098 : List WaterConduit) (r1114 : List Int) (h : F135_0 v1097 v1098 = some r1114) : Ev fun n => (ex tab n).call 135 [.agg [.slice 0 0 v1097.length v1097.length 4 false, .slice 1 0 v1098.length v1098.length 6 false]] [.row z0 true (rowC v1097), .row z1 true (rowC v1098)] = some (.slice 2 0 r1114.length r1114.length 1 false, [.row z0 true (rowC v1097), .row z1 true (rowC v1098), .row true true (rowC r1114)]) := by
  unfold F135_0 at h
  obtain ⟨r1113, g1111, h⟩ := un1 h
  have kN1112 := k135l0_0 z0 z1 (v1097.length : Int) v1097 v1098 (0, ([] : List Int)) _ g1111
  obtain ⟨N1112, kN1112⟩ := kN1112
  cases h
  refine ev_call (fn := a135) rfl ⟨N1112, fun n hn => ?_⟩
  have kN1112 := kN1112 n (by omega)
  simp (maxSteps := 2000000) only [h135l0_0, q135l0_0, wn, rc_WaterNode] at kN1112
  simp (maxSteps := 2000000) only [W, reduceIte, Nat.reduceEqDiff, Nat.reduceAdd, Nat.reduceSub, Nat.reduceLT, Nat.reduceLeDiff, Nat.reduceMul, a135, a135l0, rc_WaterNode, kN1112, @x_loopAt]
noncomputable def h92l0_0 (z0 : Bool) (z1 : Bool) (v1121 : Int) (v1123 : List WaterNode) (v1124 : List WaterConduit) (v1125 : List Bool) : (Int × (List Bool)) → Env × Heap
  | (v1122, v1126) => ([(3, .slice 2 0 v1125.length v1125.length 1 false), (4, .slice 3 0 v1126.length v1126.length 1 false), (15, .slice 1 0 v1124.length v1124.length 6 false), (16, .int .i64 v1121), (17, .int .i64 v1122)], [.row z0 true (rowC v1123), .row z1 true (rowC v1124), .row true true (rowC v1125), .row true true (rowC v1126)])
noncomputable def q92l0_0 (z0 : Bool) (z1 : Bool) (v1121 : Int) (v1123 : List WaterNode) (v1124 : List WaterConduit) (v1125 : List Bool) : ((List Bool)) → AExit × Env × Heap
  | r1142 => (.exit 0, [(2, .undef), (4, .slice 2 0 r1142.length r1142.length 1 false)], [.row z0 true (rowC v1123), .row z1 true (rowC v1124), .row true true (rowC r1142)])
theorem k92l0_0 (z0 : Bool) (z1 : Bool) (v1121 : Int) (v1123 : List WaterNode) (v1124 : List WaterConduit) (v1125 : List Bool) (s : Int × (List Bool)) (o : (List Bool)) (h : L92l0_0 v1121 v1123 v1124 v1125 s = some o) : Ev fun n => loopAt [3, 4, 15, 16, 17] [2, 4] a92l0b (ex tab n) 2 (h92l0_0 z0 z1 v1121 v1123 v1124 v1125 s) = some (q92l0_0 z0 z1 v1121 v1123 v1124 v1125 o) := by
  refine iter_sound (S92l0_0 v1121 v1123 v1124 v1125) [3, 4, 15, 16, 17] [2, 4] a92l0b 2 (h92l0_0 z0 z1 v1121 v1123 v1124 v1125) (q92l0_0 z0 z1 v1121 v1123 v1124 v1125) ?_ _ _ _ h
  rintro ⟨v1122, v1126⟩ z h
  simp only [S92l0_0] at h
  by_cases c1127 : v1121 ≤ v1122
  · rw [if_pos c1127] at h
    have c1127d := dt c1127
    cases h
    refine ⟨0, fun n hn => ?_⟩
    simp (maxSteps := 2000000) only [W, reduceIte, Nat.reduceEqDiff, Nat.reduceAdd, Nat.reduceSub, Nat.reduceLT, Nat.reduceLeDiff, Nat.reduceMul, h92l0_0, q92l0_0, a92l0b, rc_WaterConduit, c1127d]
  · rw [if_neg c1127] at h
    have c1127d := df c1127
    obtain ⟨j1128, x1129, g1130, h⟩ := un2 h
    obtain ⟨g11301, g11302⟩ := geti_in g1130
    have g11303 := ac_WaterConduit g11302
    try simp only [wn] at g11301
    obtain ⟨j1131, x1132, g1133, h⟩ := un2 h
    obtain ⟨g11331, g11332⟩ := geti_in g1133
    have g11333 := ac_Bool g11332
    try simp only [wn] at g11331
    by_cases c1134 : x1132 = true
    · rw [if_pos c1134] at h
      have c1134d := c1134
      obtain ⟨g1135, h⟩ := un_roomd h
      try simp only [Nat.reduceLeDiff] at g1135
      cases h
      refine ⟨0, fun n hn => ?_⟩
      simp (maxSteps := 2000000) only [W, reduceIte, Nat.reduceEqDiff, Nat.reduceAdd, Nat.reduceSub, Nat.reduceLT, Nat.reduceLeDiff, Nat.reduceMul, h92l0_0, q92l0_0, a92l0b, rc_WaterConduit, c1127d, g11301, g11303, g11331, g11333, c1134d, g1135]
    · rw [if_neg c1134] at h
      have c1134d := bf c1134
      by_cases c1136 : x1129.fOpen = true
      · rw [if_pos c1136] at h
        have c1136d := c1136
        obtain ⟨j1137, x1138, g1139, h⟩ := un2 h
        obtain ⟨g11391, g11392⟩ := geti_in g1139
        have g11393 := ac_Bool g11392
        try simp only [wn] at g11391
        obtain ⟨g1140, h⟩ := un_roomd h
        try simp only [Nat.reduceLeDiff] at g1140
        cases h
        refine ⟨0, fun n hn => ?_⟩
        simp (maxSteps := 2000000) only [W, reduceIte, Nat.reduceEqDiff, Nat.reduceAdd, Nat.reduceSub, Nat.reduceLT, Nat.reduceLeDiff, Nat.reduceMul, h92l0_0, q92l0_0, a92l0b, rc_WaterConduit, c1127d, g11301, g11303, g11331, g11333, c1134d, c1136d, g11391, g11393, g1140]
      · rw [if_neg c1136] at h
        have c1136d := bf c1136
        obtain ⟨g1141, h⟩ := un_roomd h
        try simp only [Nat.reduceLeDiff] at g1141
        cases h
        refine ⟨0, fun n hn => ?_⟩
        simp (maxSteps := 2000000) only [W, reduceIte, Nat.reduceEqDiff, Nat.reduceAdd, Nat.reduceSub, Nat.reduceLT, Nat.reduceLeDiff, Nat.reduceMul, h92l0_0, q92l0_0, a92l0b, rc_WaterConduit, c1127d, g11301, g11303, g11331, g11333, c1134d, c1136d, g1141]
theorem c92_0 (z0 : Bool) (z1 : Bool) (v1095 : List WaterNode) (v1096 : List WaterConduit) (r1146 : List Bool) (h : F92_0 v1095 v1096 = some r1146) : Ev fun n => (ex tab n).call 92 [.agg [.slice 0 0 v1095.length v1095.length 4 false, .slice 1 0 v1096.length v1096.length 6 false]] [.row z0 true (rowC v1095), .row z1 true (rowC v1096)] = some (.slice 2 0 r1146.length r1146.length 1 false, [.row z0 true (rowC v1095), .row z1 true (rowC v1096), .row true true (rowC r1146)]) := by
  unfold F92_0 at h
  obtain ⟨r1117, g1115, h⟩ := un1 h
  obtain ⟨N1116, kN1116⟩ := c135_0 false false v1095 v1096 _ g1115
  obtain ⟨r1120, g1118, h⟩ := un1 h
  obtain ⟨N1119, kN1119⟩ := c90_0 z0 z1 true v1095 v1096 r1117 _ g1118
  obtain ⟨r1145, g1143, h⟩ := un1 h
  have kN1144 := k92l0_0 z0 z1 (v1096.length : Int) v1095 v1096 r1120 (0, ([] : List Bool)) _ g1143
  obtain ⟨N1144, kN1144⟩ := kN1144
  cases h
  refine ev_call (fn := a92) rfl ⟨N1116 + N1119 + N1144, fun n hn => ?_⟩
  have kN1116 := kN1116 n (by omega)
  try simp (maxSteps := 2000000) only [wn] at kN1116
  have kN1119 := kN1119 n (by omega)
  try simp (maxSteps := 2000000) only [wn] at kN1119
  have kN1144 := kN1144 n (by omega)
  simp (maxSteps := 2000000) only [h92l0_0, q92l0_0, wn, rc_WaterConduit] at kN1144
  simp (maxSteps := 2000000) only [W, reduceIte, Nat.reduceEqDiff, Nat.reduceAdd, Nat.reduceSub, Nat.reduceLT, Nat.reduceLeDiff, Nat.reduceMul, a92, a92l0, rc_WaterConduit, kN1116, kN1119, kN1144, @x_loopAt, wd]
end Go.AI
