/-
  Functions, walked through: guidevanelaw02.WaterReaches.
-/
import Derived.Test.YtfglifekecijjaaCAiY
import Derived.Test.YtfglifekecijjaaCAiTab
import Derived.Test.YtfglifekecijjaaCAiAwake
import Derived.Test.YtfglifekecijjaaCWnF
import Derived.Test.YtfglifekecijjaaCWn0
import Derived.Test.YtfglifekecijjaaCWn3
import Derived.Test.YtfglifekecijjaaCWn8
import Derived.Test.YtfglifekecijjaaCWn9
import Derived.Test.YtfglifekecijjaaCWn10
set_option linter.unusedVariables false
set_option linter.unusedSimpArgs false
set_option maxRecDepth 100000
set_option maxHeartbeats 4000000
namespace Go.AI
theorem c5_0 (z0 : Bool) (z1 : Bool) (v947 : Int) (v948 : Int) (v949 : List WaterNode) (v950 : List WaterConduit) (r1513 : Bool) (h : F5_0 v947 v948 v949 v950 = some r1513) : Ev fun n => (ex tab n).call 5 [.agg [.slice 0 0 v949.length v949.length 4 false, .slice 1 0 v950.length v950.length 6 false], .int .i64 v947, .int .i64 v948] [.row z0 true (rowC v949), .row z1 true (rowC v950)] = some (.bool r1513, [.row z0 true (rowC v949), .row z1 true (rowC v950)]) := by
  unfold F5_0 at h
  obtain ⟨N951, kN951⟩ := awake_ev
  obtain ⟨r954, g952, h⟩ := un1 h
  obtain ⟨N953, kN953⟩ := c15_0 z0 z1 v949 v950 _ g952
  by_cases c955 : r954 = true
  · rw [if_pos c955] at h
    have c955d := c955
    obtain ⟨_, g956, h⟩ := un1 h
    obtain ⟨N957, kN957⟩ := c17_0 z0 z1 v949 v950 g956
    obtain ⟨r1085, r1086, g1083, h⟩ := un2 h
    obtain ⟨N1084, kN1084⟩ := c29_0 true true v947 v949 v950 _ _ g1083
    obtain ⟨_, g1087, h⟩ := un1 h
    obtain ⟨N1088, kN1088⟩ := c17_0 z0 z1 v949 v950 g1087
    obtain ⟨r1157, r1158, g1155, h⟩ := un2 h
    obtain ⟨N1156, kN1156⟩ := c30_0 true true v949 v950 _ _ g1155
    obtain ⟨_, g1159, h⟩ := un1 h
    obtain ⟨N1160, kN1160⟩ := c17_0 z0 z1 v949 v950 g1159
    obtain ⟨r1231, r1232, g1229, h⟩ := un2 h
    obtain ⟨N1230, kN1230⟩ := c31_0 true true v948 v949 v950 _ _ g1229
    obtain ⟨r1242, g1240, h⟩ := un1 h
    obtain ⟨N1241, kN1241⟩ := c32_0 z0 z1 v949 v950 _ g1240
    by_cases c1243 : r1242 = 0
    · rw [if_pos c1243] at h
      have c1243d := dt c1243
      obtain ⟨r1254, g1252, h⟩ := un1 h
      obtain ⟨N1253, kN1253⟩ := c33_0 z0 z1 v947 v949 v950 _ g1252
      by_cases c1255 : r1254 = 0
      · rw [if_pos c1255] at h
        have c1255d := dt c1255
        by_cases c1256 : r1085 = 0
        · rw [if_pos c1256] at h
          have c1256d := dt c1256
          obtain ⟨r1333, g1331, h⟩ := un1 h
          obtain ⟨N1332, kN1332⟩ := c35_0 z0 z1 v947 v949 v950 _ g1331
          obtain ⟨r1353, g1351, h⟩ := un1 h
          obtain ⟨N1352, kN1352⟩ := c34_0 true true r1086 r1333 _ g1351
          by_cases c1354 : r1353 = true
          · rw [if_pos c1354] at h
            have c1354d := c1354
            by_cases c1355 : r1157 = 0
            · rw [if_pos c1355] at h
              have c1355d := dt c1355
              obtain ⟨r1424, g1422, h⟩ := un1 h
              obtain ⟨N1423, kN1423⟩ := c36_0 z0 z1 v949 v950 _ g1422
              obtain ⟨r1427, g1425, h⟩ := un1 h
              obtain ⟨N1426, kN1426⟩ := c34_0 true true r1158 r1424 _ g1425
              by_cases c1428 : r1427 = true
              · rw [if_pos c1428] at h
                have c1428d := c1428
                obtain ⟨r1431, g1429, h⟩ := un1 h
                obtain ⟨N1430, kN1430⟩ := c20_0 v948 0 (aw .i64 ((v950.length : Int) - 1)) _ g1429
                by_cases c1432 : r1431 = true
                · rw [if_pos c1432] at h
                  have c1432d := c1432
                  obtain ⟨j1433, x1434, g1435, h⟩ := un2 h
                  obtain ⟨g14351, g14352⟩ := geti_in g1435
                  have g14353 := ac_WaterConduit g14352
                  try simp only [wn] at g14351
                  by_cases c1436 : x1434.fValve = true
                  · rw [if_pos c1436] at h
                    have c1436d := c1436
                    by_cases c1437 : r1231 = 0
                    · rw [if_pos c1437] at h
                      have c1437d := dt c1437
                      obtain ⟨r1477, g1475, h⟩ := un1 h
                      obtain ⟨N1476, kN1476⟩ := c37_0 z0 z1 v948 v949 v950 _ g1475
                      obtain ⟨r1480, g1478, h⟩ := un1 h
                      obtain ⟨N1479, kN1479⟩ := c34_0 true true r1232 r1477 _ g1478
                      cases h
                      refine ev_call (fn := a5) rfl ⟨N951 + N953 + N957 + N1084 + N1088 + N1156 + N1160 + N1230 + N1241 + N1253 + N1332 + N1352 + N1423 + N1426 + N1430 + N1476 + N1479, fun n hn => ?_⟩
                      have kN951 := kN951 n (by omega)
                      have kN953 := kN953 n (by omega)
                      try simp (maxSteps := 2000000) only [wn, c1436d] at kN953
                      have kN957 := kN957 n (by omega)
                      try simp (maxSteps := 2000000) only [wn, c1436d] at kN957
                      have kN1084 := kN1084 n (by omega)
                      try simp (maxSteps := 2000000) only [wn, c1436d] at kN1084
                      have kN1088 := kN1088 n (by omega)
                      try simp (maxSteps := 2000000) only [wn, c1436d] at kN1088
                      have kN1156 := kN1156 n (by omega)
                      try simp (maxSteps := 2000000) only [wn, c1436d] at kN1156
                      have kN1160 := kN1160 n (by omega)
                      try simp (maxSteps := 2000000) only [wn, c1436d] at kN1160
                      have kN1230 := kN1230 n (by omega)
                      try simp (maxSteps := 2000000) only [wn, c1436d] at kN1230
                      have kN1241 := kN1241 n (by omega)
                      try simp (maxSteps := 2000000) only [wn, c1436d] at kN1241
                      have kN1253 := kN1253 n (by omega)
                      try simp (maxSteps := 2000000) only [wn, c1436d] at kN1253
                      have kN1332 := kN1332 n (by omega)
                      try simp (maxSteps := 2000000) only [wn, c1436d] at kN1332
                      have kN1352 := kN1352 n (by omega)
                      try simp (maxSteps := 2000000) only [wn, c1436d] at kN1352
                      have kN1423 := kN1423 n (by omega)
                      try simp (maxSteps := 2000000) only [wn, c1436d] at kN1423
                      have kN1426 := kN1426 n (by omega)
                      try simp (maxSteps := 2000000) only [wn, c1436d] at kN1426
                      have kN1430 := kN1430 n (by omega)
                      try simp (maxSteps := 2000000) only [wn, c1436d] at kN1430
                      have kN1476 := kN1476 n (by omega)
                      try simp (maxSteps := 2000000) only [wn, rc_WaterConduit, c1436d] at kN1476
                      have kN1479 := kN1479 n (by omega)
                      try simp (maxSteps := 2000000) only [wn, rc_WaterConduit, c1436d] at kN1479
                      simp (maxSteps := 2000000) only [W, reduceIte, Nat.reduceEqDiff, Nat.reduceAdd, Nat.reduceSub, Nat.reduceLT, Nat.reduceLeDiff, Nat.reduceMul, a5, rc_WaterConduit, kN951, kN953, c955d, kN957, kN1084, kN1088, kN1156, kN1160, kN1230, kN1241, c1243d, kN1253, c1255d, c1256d, kN1332, kN1352, c1354d, c1355d, kN1423, kN1426, c1428d, kN1430, c1432d, g14351, g14353, c1436d, c1437d, kN1476, kN1479]
                    · rw [if_neg c1437] at h
                      have c1437d := df c1437
                      cases h
                      refine ev_call (fn := a5) rfl ⟨N951 + N953 + N957 + N1084 + N1088 + N1156 + N1160 + N1230 + N1241 + N1253 + N1332 + N1352 + N1423 + N1426 + N1430, fun n hn => ?_⟩
                      have kN951 := kN951 n (by omega)
                      have kN953 := kN953 n (by omega)
                      try simp (maxSteps := 2000000) only [wn, c1436d] at kN953
                      have kN957 := kN957 n (by omega)
                      try simp (maxSteps := 2000000) only [wn, c1436d] at kN957
                      have kN1084 := kN1084 n (by omega)
                      try simp (maxSteps := 2000000) only [wn, c1436d] at kN1084
                      have kN1088 := kN1088 n (by omega)
                      try simp (maxSteps := 2000000) only [wn, c1436d] at kN1088
                      have kN1156 := kN1156 n (by omega)
                      try simp (maxSteps := 2000000) only [wn, c1436d] at kN1156
                      have kN1160 := kN1160 n (by omega)
                      try simp (maxSteps := 2000000) only [wn, c1436d] at kN1160
                      have kN1230 := kN1230 n (by omega)
                      try simp (maxSteps := 2000000) only [wn, c1436d] at kN1230
                      have kN1241 := kN1241 n (by omega)
                      try simp (maxSteps := 2000000) only [wn, c1436d] at kN1241
                      have kN1253 := kN1253 n (by omega)
                      try simp (maxSteps := 2000000) only [wn, c1436d] at kN1253
                      have kN1332 := kN1332 n (by omega)
                      try simp (maxSteps := 2000000) only [wn, c1436d] at kN1332
                      have kN1352 := kN1352 n (by omega)
                      try simp (maxSteps := 2000000) only [wn, c1436d] at kN1352
                      have kN1423 := kN1423 n (by omega)
                      try simp (maxSteps := 2000000) only [wn, c1436d] at kN1423
                      have kN1426 := kN1426 n (by omega)
                      try simp (maxSteps := 2000000) only [wn, c1436d] at kN1426
                      have kN1430 := kN1430 n (by omega)
                      try simp (maxSteps := 2000000) only [wn, c1436d] at kN1430
                      simp (maxSteps := 2000000) only [W, reduceIte, Nat.reduceEqDiff, Nat.reduceAdd, Nat.reduceSub, Nat.reduceLT, Nat.reduceLeDiff, Nat.reduceMul, a5, rc_WaterConduit, kN951, kN953, c955d, kN957, kN1084, kN1088, kN1156, kN1160, kN1230, kN1241, c1243d, kN1253, c1255d, c1256d, kN1332, kN1352, c1354d, c1355d, kN1423, kN1426, c1428d, kN1430, c1432d, g14351, g14353, c1436d, c1437d]
                  · rw [if_neg c1436] at h
                    have c1436d := bf c1436
                    by_cases c1481 : r1231 = 12
                    · rw [if_pos c1481] at h
                      have c1481d := dt c1481
                      cases h
                      refine ev_call (fn := a5) rfl ⟨N951 + N953 + N957 + N1084 + N1088 + N1156 + N1160 + N1230 + N1241 + N1253 + N1332 + N1352 + N1423 + N1426 + N1430, fun n hn => ?_⟩
                      have kN951 := kN951 n (by omega)
                      have kN953 := kN953 n (by omega)
                      try simp (maxSteps := 2000000) only [wn, c1436d] at kN953
                      have kN957 := kN957 n (by omega)
                      try simp (maxSteps := 2000000) only [wn, c1436d] at kN957
                      have kN1084 := kN1084 n (by omega)
                      try simp (maxSteps := 2000000) only [wn, c1436d] at kN1084
                      have kN1088 := kN1088 n (by omega)
                      try simp (maxSteps := 2000000) only [wn, c1436d] at kN1088
                      have kN1156 := kN1156 n (by omega)
                      try simp (maxSteps := 2000000) only [wn, c1436d] at kN1156
                      have kN1160 := kN1160 n (by omega)
                      try simp (maxSteps := 2000000) only [wn, c1436d] at kN1160
                      have kN1230 := kN1230 n (by omega)
                      try simp (maxSteps := 2000000) only [wn, c1436d] at kN1230
                      have kN1241 := kN1241 n (by omega)
                      try simp (maxSteps := 2000000) only [wn, c1436d] at kN1241
                      have kN1253 := kN1253 n (by omega)
                      try simp (maxSteps := 2000000) only [wn, c1436d] at kN1253
                      have kN1332 := kN1332 n (by omega)
                      try simp (maxSteps := 2000000) only [wn, c1436d] at kN1332
                      have kN1352 := kN1352 n (by omega)
                      try simp (maxSteps := 2000000) only [wn, c1436d] at kN1352
                      have kN1423 := kN1423 n (by omega)
                      try simp (maxSteps := 2000000) only [wn, c1436d] at kN1423
                      have kN1426 := kN1426 n (by omega)
                      try simp (maxSteps := 2000000) only [wn, c1436d] at kN1426
                      have kN1430 := kN1430 n (by omega)
                      try simp (maxSteps := 2000000) only [wn, c1436d] at kN1430
                      simp (maxSteps := 2000000) only [W, reduceIte, Nat.reduceEqDiff, Nat.reduceAdd, Nat.reduceSub, Nat.reduceLT, Nat.reduceLeDiff, Nat.reduceMul, a5, rc_WaterConduit, kN951, kN953, c955d, kN957, kN1084, kN1088, kN1156, kN1160, kN1230, kN1241, c1243d, kN1253, c1255d, c1256d, kN1332, kN1352, c1354d, c1355d, kN1423, kN1426, c1428d, kN1430, c1432d, g14351, g14353, c1436d, c1481d]
                    · rw [if_neg c1481] at h
                      have c1481d := df c1481
                      cases h
                      refine ev_call (fn := a5) rfl ⟨N951 + N953 + N957 + N1084 + N1088 + N1156 + N1160 + N1230 + N1241 + N1253 + N1332 + N1352 + N1423 + N1426 + N1430, fun n hn => ?_⟩
                      have kN951 := kN951 n (by omega)
                      have kN953 := kN953 n (by omega)
                      try simp (maxSteps := 2000000) only [wn, c1436d] at kN953
                      have kN957 := kN957 n (by omega)
                      try simp (maxSteps := 2000000) only [wn, c1436d] at kN957
                      have kN1084 := kN1084 n (by omega)
                      try simp (maxSteps := 2000000) only [wn, c1436d] at kN1084
                      have kN1088 := kN1088 n (by omega)
                      try simp (maxSteps := 2000000) only [wn, c1436d] at kN1088
                      have kN1156 := kN1156 n (by omega)
                      try simp (maxSteps := 2000000) only [wn, c1436d] at kN1156
                      have kN1160 := kN1160 n (by omega)
                      try simp (maxSteps := 2000000) only [wn, c1436d] at kN1160
                      have kN1230 := kN1230 n (by omega)
                      try simp (maxSteps := 2000000) only [wn, c1436d] at kN1230
                      have kN1241 := kN1241 n (by omega)
                      try simp (maxSteps := 2000000) only [wn, c1436d] at kN1241
                      have kN1253 := kN1253 n (by omega)
                      try simp (maxSteps := 2000000) only [wn, c1436d] at kN1253
                      have kN1332 := kN1332 n (by omega)
                      try simp (maxSteps := 2000000) only [wn, c1436d] at kN1332
                      have kN1352 := kN1352 n (by omega)
                      try simp (maxSteps := 2000000) only [wn, c1436d] at kN1352
                      have kN1423 := kN1423 n (by omega)
                      try simp (maxSteps := 2000000) only [wn, c1436d] at kN1423
                      have kN1426 := kN1426 n (by omega)
                      try simp (maxSteps := 2000000) only [wn, c1436d] at kN1426
                      have kN1430 := kN1430 n (by omega)
                      try simp (maxSteps := 2000000) only [wn, c1436d] at kN1430
                      simp (maxSteps := 2000000) only [W, reduceIte, Nat.reduceEqDiff, Nat.reduceAdd, Nat.reduceSub, Nat.reduceLT, Nat.reduceLeDiff, Nat.reduceMul, a5, rc_WaterConduit, kN951, kN953, c955d, kN957, kN1084, kN1088, kN1156, kN1160, kN1230, kN1241, c1243d, kN1253, c1255d, c1256d, kN1332, kN1352, c1354d, c1355d, kN1423, kN1426, c1428d, kN1430, c1432d, g14351, g14353, c1436d, c1481d]
                · rw [if_neg c1432] at h
                  have c1432d := bf c1432
                  by_cases c1482 : r1231 = 6
                  · rw [if_pos c1482] at h
                    have c1482d := dt c1482
                    cases h
                    refine ev_call (fn := a5) rfl ⟨N951 + N953 + N957 + N1084 + N1088 + N1156 + N1160 + N1230 + N1241 + N1253 + N1332 + N1352 + N1423 + N1426 + N1430, fun n hn => ?_⟩
                    have kN951 := kN951 n (by omega)
                    have kN953 := kN953 n (by omega)
                    try simp (maxSteps := 2000000) only [wn] at kN953
                    have kN957 := kN957 n (by omega)
                    try simp (maxSteps := 2000000) only [wn] at kN957
                    have kN1084 := kN1084 n (by omega)
                    try simp (maxSteps := 2000000) only [wn] at kN1084
                    have kN1088 := kN1088 n (by omega)
                    try simp (maxSteps := 2000000) only [wn] at kN1088
                    have kN1156 := kN1156 n (by omega)
                    try simp (maxSteps := 2000000) only [wn] at kN1156
                    have kN1160 := kN1160 n (by omega)
                    try simp (maxSteps := 2000000) only [wn] at kN1160
                    have kN1230 := kN1230 n (by omega)
                    try simp (maxSteps := 2000000) only [wn] at kN1230
                    have kN1241 := kN1241 n (by omega)
                    try simp (maxSteps := 2000000) only [wn] at kN1241
                    have kN1253 := kN1253 n (by omega)
                    try simp (maxSteps := 2000000) only [wn] at kN1253
                    have kN1332 := kN1332 n (by omega)
                    try simp (maxSteps := 2000000) only [wn] at kN1332
                    have kN1352 := kN1352 n (by omega)
                    try simp (maxSteps := 2000000) only [wn] at kN1352
                    have kN1423 := kN1423 n (by omega)
                    try simp (maxSteps := 2000000) only [wn] at kN1423
                    have kN1426 := kN1426 n (by omega)
                    try simp (maxSteps := 2000000) only [wn] at kN1426
                    have kN1430 := kN1430 n (by omega)
                    try simp (maxSteps := 2000000) only [wn] at kN1430
                    simp (maxSteps := 2000000) only [W, reduceIte, Nat.reduceEqDiff, Nat.reduceAdd, Nat.reduceSub, Nat.reduceLT, Nat.reduceLeDiff, Nat.reduceMul, a5, rc_WaterConduit, kN951, kN953, c955d, kN957, kN1084, kN1088, kN1156, kN1160, kN1230, kN1241, c1243d, kN1253, c1255d, c1256d, kN1332, kN1352, c1354d, c1355d, kN1423, kN1426, c1428d, kN1430, c1432d, c1482d]
                  · rw [if_neg c1482] at h
                    have c1482d := df c1482
                    cases h
                    refine ev_call (fn := a5) rfl ⟨N951 + N953 + N957 + N1084 + N1088 + N1156 + N1160 + N1230 + N1241 + N1253 + N1332 + N1352 + N1423 + N1426 + N1430, fun n hn => ?_⟩
                    have kN951 := kN951 n (by omega)
                    have kN953 := kN953 n (by omega)
                    try simp (maxSteps := 2000000) only [wn] at kN953
                    have kN957 := kN957 n (by omega)
                    try simp (maxSteps := 2000000) only [wn] at kN957
                    have kN1084 := kN1084 n (by omega)
                    try simp (maxSteps := 2000000) only [wn] at kN1084
                    have kN1088 := kN1088 n (by omega)
                    try simp (maxSteps := 2000000) only [wn] at kN1088
                    have kN1156 := kN1156 n (by omega)
                    try simp (maxSteps := 2000000) only [wn] at kN1156
                    have kN1160 := kN1160 n (by omega)
                    try simp (maxSteps := 2000000) only [wn] at kN1160
                    have kN1230 := kN1230 n (by omega)
                    try simp (maxSteps := 2000000) only [wn] at kN1230
                    have kN1241 := kN1241 n (by omega)
                    try simp (maxSteps := 2000000) only [wn] at kN1241
                    have kN1253 := kN1253 n (by omega)
                    try simp (maxSteps := 2000000) only [wn] at kN1253
                    have kN1332 := kN1332 n (by omega)
                    try simp (maxSteps := 2000000) only [wn] at kN1332
                    have kN1352 := kN1352 n (by omega)
                    try simp (maxSteps := 2000000) only [wn] at kN1352
                    have kN1423 := kN1423 n (by omega)
                    try simp (maxSteps := 2000000) only [wn] at kN1423
                    have kN1426 := kN1426 n (by omega)
                    try simp (maxSteps := 2000000) only [wn] at kN1426
                    have kN1430 := kN1430 n (by omega)
                    try simp (maxSteps := 2000000) only [wn] at kN1430
                    simp (maxSteps := 2000000) only [W, reduceIte, Nat.reduceEqDiff, Nat.reduceAdd, Nat.reduceSub, Nat.reduceLT, Nat.reduceLeDiff, Nat.reduceMul, a5, rc_WaterConduit, kN951, kN953, c955d, kN957, kN1084, kN1088, kN1156, kN1160, kN1230, kN1241, c1243d, kN1253, c1255d, c1256d, kN1332, kN1352, c1354d, c1355d, kN1423, kN1426, c1428d, kN1430, c1432d, c1482d]
              · rw [if_neg c1428] at h
                have c1428d := bf c1428
                cases h
                refine ev_call (fn := a5) rfl ⟨N951 + N953 + N957 + N1084 + N1088 + N1156 + N1160 + N1230 + N1241 + N1253 + N1332 + N1352 + N1423 + N1426, fun n hn => ?_⟩
                have kN951 := kN951 n (by omega)
                have kN953 := kN953 n (by omega)
                try simp (maxSteps := 2000000) only [wn] at kN953
                have kN957 := kN957 n (by omega)
                try simp (maxSteps := 2000000) only [wn] at kN957
                have kN1084 := kN1084 n (by omega)
                try simp (maxSteps := 2000000) only [wn] at kN1084
                have kN1088 := kN1088 n (by omega)
                try simp (maxSteps := 2000000) only [wn] at kN1088
                have kN1156 := kN1156 n (by omega)
                try simp (maxSteps := 2000000) only [wn] at kN1156
                have kN1160 := kN1160 n (by omega)
                try simp (maxSteps := 2000000) only [wn] at kN1160
                have kN1230 := kN1230 n (by omega)
                try simp (maxSteps := 2000000) only [wn] at kN1230
                have kN1241 := kN1241 n (by omega)
                try simp (maxSteps := 2000000) only [wn] at kN1241
                have kN1253 := kN1253 n (by omega)
                try simp (maxSteps := 2000000) only [wn] at kN1253
                have kN1332 := kN1332 n (by omega)
                try simp (maxSteps := 2000000) only [wn] at kN1332
                have kN1352 := kN1352 n (by omega)
                try simp (maxSteps := 2000000) only [wn] at kN1352
                have kN1423 := kN1423 n (by omega)
                try simp (maxSteps := 2000000) only [wn] at kN1423
                have kN1426 := kN1426 n (by omega)
                try simp (maxSteps := 2000000) only [wn] at kN1426
                simp (maxSteps := 2000000) only [W, reduceIte, Nat.reduceEqDiff, Nat.reduceAdd, Nat.reduceSub, Nat.reduceLT, Nat.reduceLeDiff, Nat.reduceMul, a5, rc_WaterConduit, kN951, kN953, c955d, kN957, kN1084, kN1088, kN1156, kN1160, kN1230, kN1241, c1243d, kN1253, c1255d, c1256d, kN1332, kN1352, c1354d, c1355d, kN1423, kN1426, c1428d]
            · rw [if_neg c1355] at h
              have c1355d := df c1355
              cases h
              refine ev_call (fn := a5) rfl ⟨N951 + N953 + N957 + N1084 + N1088 + N1156 + N1160 + N1230 + N1241 + N1253 + N1332 + N1352, fun n hn => ?_⟩
              have kN951 := kN951 n (by omega)
              have kN953 := kN953 n (by omega)
              try simp (maxSteps := 2000000) only [wn] at kN953
              have kN957 := kN957 n (by omega)
              try simp (maxSteps := 2000000) only [wn] at kN957
              have kN1084 := kN1084 n (by omega)
              try simp (maxSteps := 2000000) only [wn] at kN1084
              have kN1088 := kN1088 n (by omega)
              try simp (maxSteps := 2000000) only [wn] at kN1088
              have kN1156 := kN1156 n (by omega)
              try simp (maxSteps := 2000000) only [wn] at kN1156
              have kN1160 := kN1160 n (by omega)
              try simp (maxSteps := 2000000) only [wn] at kN1160
              have kN1230 := kN1230 n (by omega)
              try simp (maxSteps := 2000000) only [wn] at kN1230
              have kN1241 := kN1241 n (by omega)
              try simp (maxSteps := 2000000) only [wn] at kN1241
              have kN1253 := kN1253 n (by omega)
              try simp (maxSteps := 2000000) only [wn] at kN1253
              have kN1332 := kN1332 n (by omega)
              try simp (maxSteps := 2000000) only [wn] at kN1332
              have kN1352 := kN1352 n (by omega)
              try simp (maxSteps := 2000000) only [wn] at kN1352
              simp (maxSteps := 2000000) only [W, reduceIte, Nat.reduceEqDiff, Nat.reduceAdd, Nat.reduceSub, Nat.reduceLT, Nat.reduceLeDiff, Nat.reduceMul, a5, rc_WaterConduit, kN951, kN953, c955d, kN957, kN1084, kN1088, kN1156, kN1160, kN1230, kN1241, c1243d, kN1253, c1255d, c1256d, kN1332, kN1352, c1354d, c1355d]
          · rw [if_neg c1354] at h
            have c1354d := bf c1354
            cases h
            refine ev_call (fn := a5) rfl ⟨N951 + N953 + N957 + N1084 + N1088 + N1156 + N1160 + N1230 + N1241 + N1253 + N1332 + N1352, fun n hn => ?_⟩
            have kN951 := kN951 n (by omega)
            have kN953 := kN953 n (by omega)
            try simp (maxSteps := 2000000) only [wn] at kN953
            have kN957 := kN957 n (by omega)
            try simp (maxSteps := 2000000) only [wn] at kN957
            have kN1084 := kN1084 n (by omega)
            try simp (maxSteps := 2000000) only [wn] at kN1084
            have kN1088 := kN1088 n (by omega)
            try simp (maxSteps := 2000000) only [wn] at kN1088
            have kN1156 := kN1156 n (by omega)
            try simp (maxSteps := 2000000) only [wn] at kN1156
            have kN1160 := kN1160 n (by omega)
            try simp (maxSteps := 2000000) only [wn] at kN1160
            have kN1230 := kN1230 n (by omega)
            try simp (maxSteps := 2000000) only [wn] at kN1230
            have kN1241 := kN1241 n (by omega)
            try simp (maxSteps := 2000000) only [wn] at kN1241
            have kN1253 := kN1253 n (by omega)
            try simp (maxSteps := 2000000) only [wn] at kN1253
            have kN1332 := kN1332 n (by omega)
            try simp (maxSteps := 2000000) only [wn] at kN1332
            have kN1352 := kN1352 n (by omega)
            try simp (maxSteps := 2000000) only [wn] at kN1352
            simp (maxSteps := 2000000) only [W, reduceIte, Nat.reduceEqDiff, Nat.reduceAdd, Nat.reduceSub, Nat.reduceLT, Nat.reduceLeDiff, Nat.reduceMul, a5, rc_WaterConduit, kN951, kN953, c955d, kN957, kN1084, kN1088, kN1156, kN1160, kN1230, kN1241, c1243d, kN1253, c1255d, c1256d, kN1332, kN1352, c1354d]
        · rw [if_neg c1256] at h
          have c1256d := df c1256
          cases h
          refine ev_call (fn := a5) rfl ⟨N951 + N953 + N957 + N1084 + N1088 + N1156 + N1160 + N1230 + N1241 + N1253, fun n hn => ?_⟩
          have kN951 := kN951 n (by omega)
          have kN953 := kN953 n (by omega)
          try simp (maxSteps := 2000000) only [wn] at kN953
          have kN957 := kN957 n (by omega)
          try simp (maxSteps := 2000000) only [wn] at kN957
          have kN1084 := kN1084 n (by omega)
          try simp (maxSteps := 2000000) only [wn] at kN1084
          have kN1088 := kN1088 n (by omega)
          try simp (maxSteps := 2000000) only [wn] at kN1088
          have kN1156 := kN1156 n (by omega)
          try simp (maxSteps := 2000000) only [wn] at kN1156
          have kN1160 := kN1160 n (by omega)
          try simp (maxSteps := 2000000) only [wn] at kN1160
          have kN1230 := kN1230 n (by omega)
          try simp (maxSteps := 2000000) only [wn] at kN1230
          have kN1241 := kN1241 n (by omega)
          try simp (maxSteps := 2000000) only [wn] at kN1241
          have kN1253 := kN1253 n (by omega)
          try simp (maxSteps := 2000000) only [wn] at kN1253
          simp (maxSteps := 2000000) only [W, reduceIte, Nat.reduceEqDiff, Nat.reduceAdd, Nat.reduceSub, Nat.reduceLT, Nat.reduceLeDiff, Nat.reduceMul, a5, rc_WaterConduit, kN951, kN953, c955d, kN957, kN1084, kN1088, kN1156, kN1160, kN1230, kN1241, c1243d, kN1253, c1255d, c1256d]
      · rw [if_neg c1255] at h
        have c1255d := df c1255
        by_cases c1483 : r1085 = r1254
        · rw [if_pos c1483] at h
          have c1483d := dt c1483
          by_cases c1484 : (r1086.length : Int) = 0
          · rw [if_pos c1484] at h
            have c1484d := dt c1484
            by_cases c1485 : r1157 = 0
            · rw [if_pos c1485] at h
              have c1485d := dt c1485
              obtain ⟨r1488, g1486, h⟩ := un1 h
              obtain ⟨N1487, kN1487⟩ := c36_0 z0 z1 v949 v950 _ g1486
              obtain ⟨r1491, g1489, h⟩ := un1 h
              obtain ⟨N1490, kN1490⟩ := c34_0 true true r1158 r1488 _ g1489
              by_cases c1492 : r1491 = true
              · rw [if_pos c1492] at h
                have c1492d := c1492
                obtain ⟨r1495, g1493, h⟩ := un1 h
                obtain ⟨N1494, kN1494⟩ := c20_0 v948 0 (aw .i64 ((v950.length : Int) - 1)) _ g1493
                by_cases c1496 : r1495 = true
                · rw [if_pos c1496] at h
                  have c1496d := c1496
                  obtain ⟨j1497, x1498, g1499, h⟩ := un2 h
                  obtain ⟨g14991, g14992⟩ := geti_in g1499
                  have g14993 := ac_WaterConduit g14992
                  try simp only [wn] at g14991
                  by_cases c1500 : x1498.fValve = true
                  · rw [if_pos c1500] at h
                    have c1500d := c1500
                    by_cases c1501 : r1231 = 0
                    · rw [if_pos c1501] at h
                      have c1501d := dt c1501
                      obtain ⟨r1504, g1502, h⟩ := un1 h
                      obtain ⟨N1503, kN1503⟩ := c37_0 z0 z1 v948 v949 v950 _ g1502
                      obtain ⟨r1507, g1505, h⟩ := un1 h
                      obtain ⟨N1506, kN1506⟩ := c34_0 true true r1232 r1504 _ g1505
                      cases h
                      refine ev_call (fn := a5) rfl ⟨N951 + N953 + N957 + N1084 + N1088 + N1156 + N1160 + N1230 + N1241 + N1253 + N1487 + N1490 + N1494 + N1503 + N1506, fun n hn => ?_⟩
                      have kN951 := kN951 n (by omega)
                      have kN953 := kN953 n (by omega)
                      try simp (maxSteps := 2000000) only [wn, c1500d] at kN953
                      have kN957 := kN957 n (by omega)
                      try simp (maxSteps := 2000000) only [wn, c1500d] at kN957
                      have kN1084 := kN1084 n (by omega)
                      try simp (maxSteps := 2000000) only [wn, c1500d] at kN1084
                      have kN1088 := kN1088 n (by omega)
                      try simp (maxSteps := 2000000) only [wn, c1500d] at kN1088
                      have kN1156 := kN1156 n (by omega)
                      try simp (maxSteps := 2000000) only [wn, c1500d] at kN1156
                      have kN1160 := kN1160 n (by omega)
                      try simp (maxSteps := 2000000) only [wn, c1500d] at kN1160
                      have kN1230 := kN1230 n (by omega)
                      try simp (maxSteps := 2000000) only [wn, c1500d] at kN1230
                      have kN1241 := kN1241 n (by omega)
                      try simp (maxSteps := 2000000) only [wn, c1500d] at kN1241
                      have kN1253 := kN1253 n (by omega)
                      try simp (maxSteps := 2000000) only [wn, c1500d] at kN1253
                      have kN1487 := kN1487 n (by omega)
                      try simp (maxSteps := 2000000) only [wn, rc_WaterConduit, c1500d] at kN1487
                      have kN1490 := kN1490 n (by omega)
                      try simp (maxSteps := 2000000) only [wn, rc_WaterConduit, c1500d] at kN1490
                      have kN1494 := kN1494 n (by omega)
                      try simp (maxSteps := 2000000) only [wn, rc_WaterConduit, c1500d] at kN1494
                      have kN1503 := kN1503 n (by omega)
                      try simp (maxSteps := 2000000) only [wn, rc_WaterConduit, c1500d] at kN1503
                      have kN1506 := kN1506 n (by omega)
                      try simp (maxSteps := 2000000) only [wn, rc_WaterConduit, c1500d] at kN1506
                      simp (maxSteps := 2000000) only [W, reduceIte, Nat.reduceEqDiff, Nat.reduceAdd, Nat.reduceSub, Nat.reduceLT, Nat.reduceLeDiff, Nat.reduceMul, a5, rc_WaterConduit, kN951, kN953, c955d, kN957, kN1084, kN1088, kN1156, kN1160, kN1230, kN1241, c1243d, kN1253, c1255d, c1483d, c1484d, c1485d, kN1487, kN1490, c1492d, kN1494, c1496d, g14991, g14993, c1500d, c1501d, kN1503, kN1506]
                    · rw [if_neg c1501] at h
                      have c1501d := df c1501
                      cases h
                      refine ev_call (fn := a5) rfl ⟨N951 + N953 + N957 + N1084 + N1088 + N1156 + N1160 + N1230 + N1241 + N1253 + N1487 + N1490 + N1494, fun n hn => ?_⟩
                      have kN951 := kN951 n (by omega)
                      have kN953 := kN953 n (by omega)
                      try simp (maxSteps := 2000000) only [wn, c1500d] at kN953
                      have kN957 := kN957 n (by omega)
                      try simp (maxSteps := 2000000) only [wn, c1500d] at kN957
                      have kN1084 := kN1084 n (by omega)
                      try simp (maxSteps := 2000000) only [wn, c1500d] at kN1084
                      have kN1088 := kN1088 n (by omega)
                      try simp (maxSteps := 2000000) only [wn, c1500d] at kN1088
                      have kN1156 := kN1156 n (by omega)
                      try simp (maxSteps := 2000000) only [wn, c1500d] at kN1156
                      have kN1160 := kN1160 n (by omega)
                      try simp (maxSteps := 2000000) only [wn, c1500d] at kN1160
                      have kN1230 := kN1230 n (by omega)
                      try simp (maxSteps := 2000000) only [wn, c1500d] at kN1230
                      have kN1241 := kN1241 n (by omega)
                      try simp (maxSteps := 2000000) only [wn, c1500d] at kN1241
                      have kN1253 := kN1253 n (by omega)
                      try simp (maxSteps := 2000000) only [wn, c1500d] at kN1253
                      have kN1487 := kN1487 n (by omega)
                      try simp (maxSteps := 2000000) only [wn, rc_WaterConduit, c1500d] at kN1487
                      have kN1490 := kN1490 n (by omega)
                      try simp (maxSteps := 2000000) only [wn, rc_WaterConduit, c1500d] at kN1490
                      have kN1494 := kN1494 n (by omega)
                      try simp (maxSteps := 2000000) only [wn, rc_WaterConduit, c1500d] at kN1494
                      simp (maxSteps := 2000000) only [W, reduceIte, Nat.reduceEqDiff, Nat.reduceAdd, Nat.reduceSub, Nat.reduceLT, Nat.reduceLeDiff, Nat.reduceMul, a5, rc_WaterConduit, kN951, kN953, c955d, kN957, kN1084, kN1088, kN1156, kN1160, kN1230, kN1241, c1243d, kN1253, c1255d, c1483d, c1484d, c1485d, kN1487, kN1490, c1492d, kN1494, c1496d, g14991, g14993, c1500d, c1501d]
                  · rw [if_neg c1500] at h
                    have c1500d := bf c1500
                    by_cases c1508 : r1231 = 12
                    · rw [if_pos c1508] at h
                      have c1508d := dt c1508
                      cases h
                      refine ev_call (fn := a5) rfl ⟨N951 + N953 + N957 + N1084 + N1088 + N1156 + N1160 + N1230 + N1241 + N1253 + N1487 + N1490 + N1494, fun n hn => ?_⟩
                      have kN951 := kN951 n (by omega)
                      have kN953 := kN953 n (by omega)
                      try simp (maxSteps := 2000000) only [wn, c1500d] at kN953
                      have kN957 := kN957 n (by omega)
                      try simp (maxSteps := 2000000) only [wn, c1500d] at kN957
                      have kN1084 := kN1084 n (by omega)
                      try simp (maxSteps := 2000000) only [wn, c1500d] at kN1084
                      have kN1088 := kN1088 n (by omega)
                      try simp (maxSteps := 2000000) only [wn, c1500d] at kN1088
                      have kN1156 := kN1156 n (by omega)
                      try simp (maxSteps := 2000000) only [wn, c1500d] at kN1156
                      have kN1160 := kN1160 n (by omega)
                      try simp (maxSteps := 2000000) only [wn, c1500d] at kN1160
                      have kN1230 := kN1230 n (by omega)
                      try simp (maxSteps := 2000000) only [wn, c1500d] at kN1230
                      have kN1241 := kN1241 n (by omega)
                      try simp (maxSteps := 2000000) only [wn, c1500d] at kN1241
                      have kN1253 := kN1253 n (by omega)
                      try simp (maxSteps := 2000000) only [wn, c1500d] at kN1253
                      have kN1487 := kN1487 n (by omega)
                      try simp (maxSteps := 2000000) only [wn, rc_WaterConduit, c1500d] at kN1487
                      have kN1490 := kN1490 n (by omega)
                      try simp (maxSteps := 2000000) only [wn, rc_WaterConduit, c1500d] at kN1490
                      have kN1494 := kN1494 n (by omega)
                      try simp (maxSteps := 2000000) only [wn, rc_WaterConduit, c1500d] at kN1494
                      simp (maxSteps := 2000000) only [W, reduceIte, Nat.reduceEqDiff, Nat.reduceAdd, Nat.reduceSub, Nat.reduceLT, Nat.reduceLeDiff, Nat.reduceMul, a5, rc_WaterConduit, kN951, kN953, c955d, kN957, kN1084, kN1088, kN1156, kN1160, kN1230, kN1241, c1243d, kN1253, c1255d, c1483d, c1484d, c1485d, kN1487, kN1490, c1492d, kN1494, c1496d, g14991, g14993, c1500d, c1508d]
                    · rw [if_neg c1508] at h
                      have c1508d := df c1508
                      cases h
                      refine ev_call (fn := a5) rfl ⟨N951 + N953 + N957 + N1084 + N1088 + N1156 + N1160 + N1230 + N1241 + N1253 + N1487 + N1490 + N1494, fun n hn => ?_⟩
                      have kN951 := kN951 n (by omega)
                      have kN953 := kN953 n (by omega)
                      try simp (maxSteps := 2000000) only [wn, c1500d] at kN953
                      have kN957 := kN957 n (by omega)
                      try simp (maxSteps := 2000000) only [wn, c1500d] at kN957
                      have kN1084 := kN1084 n (by omega)
                      try simp (maxSteps := 2000000) only [wn, c1500d] at kN1084
                      have kN1088 := kN1088 n (by omega)
                      try simp (maxSteps := 2000000) only [wn, c1500d] at kN1088
                      have kN1156 := kN1156 n (by omega)
                      try simp (maxSteps := 2000000) only [wn, c1500d] at kN1156
                      have kN1160 := kN1160 n (by omega)
                      try simp (maxSteps := 2000000) only [wn, c1500d] at kN1160
                      have kN1230 := kN1230 n (by omega)
                      try simp (maxSteps := 2000000) only [wn, c1500d] at kN1230
                      have kN1241 := kN1241 n (by omega)
                      try simp (maxSteps := 2000000) only [wn, c1500d] at kN1241
                      have kN1253 := kN1253 n (by omega)
                      try simp (maxSteps := 2000000) only [wn, c1500d] at kN1253
                      have kN1487 := kN1487 n (by omega)
                      try simp (maxSteps := 2000000) only [wn, rc_WaterConduit, c1500d] at kN1487
                      have kN1490 := kN1490 n (by omega)
                      try simp (maxSteps := 2000000) only [wn, rc_WaterConduit, c1500d] at kN1490
                      have kN1494 := kN1494 n (by omega)
                      try simp (maxSteps := 2000000) only [wn, rc_WaterConduit, c1500d] at kN1494
                      simp (maxSteps := 2000000) only [W, reduceIte, Nat.reduceEqDiff, Nat.reduceAdd, Nat.reduceSub, Nat.reduceLT, Nat.reduceLeDiff, Nat.reduceMul, a5, rc_WaterConduit, kN951, kN953, c955d, kN957, kN1084, kN1088, kN1156, kN1160, kN1230, kN1241, c1243d, kN1253, c1255d, c1483d, c1484d, c1485d, kN1487, kN1490, c1492d, kN1494, c1496d, g14991, g14993, c1500d, c1508d]
                · rw [if_neg c1496] at h
                  have c1496d := bf c1496
                  by_cases c1509 : r1231 = 6
                  · rw [if_pos c1509] at h
                    have c1509d := dt c1509
                    cases h
                    refine ev_call (fn := a5) rfl ⟨N951 + N953 + N957 + N1084 + N1088 + N1156 + N1160 + N1230 + N1241 + N1253 + N1487 + N1490 + N1494, fun n hn => ?_⟩
                    have kN951 := kN951 n (by omega)
                    have kN953 := kN953 n (by omega)
                    try simp (maxSteps := 2000000) only [wn] at kN953
                    have kN957 := kN957 n (by omega)
                    try simp (maxSteps := 2000000) only [wn] at kN957
                    have kN1084 := kN1084 n (by omega)
                    try simp (maxSteps := 2000000) only [wn] at kN1084
                    have kN1088 := kN1088 n (by omega)
                    try simp (maxSteps := 2000000) only [wn] at kN1088
                    have kN1156 := kN1156 n (by omega)
                    try simp (maxSteps := 2000000) only [wn] at kN1156
                    have kN1160 := kN1160 n (by omega)
                    try simp (maxSteps := 2000000) only [wn] at kN1160
                    have kN1230 := kN1230 n (by omega)
                    try simp (maxSteps := 2000000) only [wn] at kN1230
                    have kN1241 := kN1241 n (by omega)
                    try simp (maxSteps := 2000000) only [wn] at kN1241
                    have kN1253 := kN1253 n (by omega)
                    try simp (maxSteps := 2000000) only [wn] at kN1253
                    have kN1487 := kN1487 n (by omega)
                    try simp (maxSteps := 2000000) only [wn, rc_WaterConduit] at kN1487
                    have kN1490 := kN1490 n (by omega)
                    try simp (maxSteps := 2000000) only [wn, rc_WaterConduit] at kN1490
                    have kN1494 := kN1494 n (by omega)
                    try simp (maxSteps := 2000000) only [wn, rc_WaterConduit] at kN1494
                    simp (maxSteps := 2000000) only [W, reduceIte, Nat.reduceEqDiff, Nat.reduceAdd, Nat.reduceSub, Nat.reduceLT, Nat.reduceLeDiff, Nat.reduceMul, a5, rc_WaterConduit, kN951, kN953, c955d, kN957, kN1084, kN1088, kN1156, kN1160, kN1230, kN1241, c1243d, kN1253, c1255d, c1483d, c1484d, c1485d, kN1487, kN1490, c1492d, kN1494, c1496d, c1509d]
                  · rw [if_neg c1509] at h
                    have c1509d := df c1509
                    cases h
                    refine ev_call (fn := a5) rfl ⟨N951 + N953 + N957 + N1084 + N1088 + N1156 + N1160 + N1230 + N1241 + N1253 + N1487 + N1490 + N1494, fun n hn => ?_⟩
                    have kN951 := kN951 n (by omega)
                    have kN953 := kN953 n (by omega)
                    try simp (maxSteps := 2000000) only [wn] at kN953
                    have kN957 := kN957 n (by omega)
                    try simp (maxSteps := 2000000) only [wn] at kN957
                    have kN1084 := kN1084 n (by omega)
                    try simp (maxSteps := 2000000) only [wn] at kN1084
                    have kN1088 := kN1088 n (by omega)
                    try simp (maxSteps := 2000000) only [wn] at kN1088
                    have kN1156 := kN1156 n (by omega)
                    try simp (maxSteps := 2000000) only [wn] at kN1156
                    have kN1160 := kN1160 n (by omega)
                    try simp (maxSteps := 2000000) only [wn] at kN1160
                    have kN1230 := kN1230 n (by omega)
                    try simp (maxSteps := 2000000) only [wn] at kN1230
                    have kN1241 := kN1241 n (by omega)
                    try simp (maxSteps := 2000000) only [wn] at kN1241
                    have kN1253 := kN1253 n (by omega)
                    try simp (maxSteps := 2000000) only [wn] at kN1253
                    have kN1487 := kN1487 n (by omega)
                    try simp (maxSteps := 2000000) only [wn, rc_WaterConduit] at kN1487
                    have kN1490 := kN1490 n (by omega)
                    try simp (maxSteps := 2000000) only [wn, rc_WaterConduit] at kN1490
                    have kN1494 := kN1494 n (by omega)
                    try simp (maxSteps := 2000000) only [wn, rc_WaterConduit] at kN1494
                    simp (maxSteps := 2000000) only [W, reduceIte, Nat.reduceEqDiff, Nat.reduceAdd, Nat.reduceSub, Nat.reduceLT, Nat.reduceLeDiff, Nat.reduceMul, a5, rc_WaterConduit, kN951, kN953, c955d, kN957, kN1084, kN1088, kN1156, kN1160, kN1230, kN1241, c1243d, kN1253, c1255d, c1483d, c1484d, c1485d, kN1487, kN1490, c1492d, kN1494, c1496d, c1509d]
              · rw [if_neg c1492] at h
                have c1492d := bf c1492
                cases h
                refine ev_call (fn := a5) rfl ⟨N951 + N953 + N957 + N1084 + N1088 + N1156 + N1160 + N1230 + N1241 + N1253 + N1487 + N1490, fun n hn => ?_⟩
                have kN951 := kN951 n (by omega)
                have kN953 := kN953 n (by omega)
                try simp (maxSteps := 2000000) only [wn] at kN953
                have kN957 := kN957 n (by omega)
                try simp (maxSteps := 2000000) only [wn] at kN957
                have kN1084 := kN1084 n (by omega)
                try simp (maxSteps := 2000000) only [wn] at kN1084
                have kN1088 := kN1088 n (by omega)
                try simp (maxSteps := 2000000) only [wn] at kN1088
                have kN1156 := kN1156 n (by omega)
                try simp (maxSteps := 2000000) only [wn] at kN1156
                have kN1160 := kN1160 n (by omega)
                try simp (maxSteps := 2000000) only [wn] at kN1160
                have kN1230 := kN1230 n (by omega)
                try simp (maxSteps := 2000000) only [wn] at kN1230
                have kN1241 := kN1241 n (by omega)
                try simp (maxSteps := 2000000) only [wn] at kN1241
                have kN1253 := kN1253 n (by omega)
                try simp (maxSteps := 2000000) only [wn] at kN1253
                have kN1487 := kN1487 n (by omega)
                try simp (maxSteps := 2000000) only [wn, rc_WaterConduit] at kN1487
                have kN1490 := kN1490 n (by omega)
                try simp (maxSteps := 2000000) only [wn, rc_WaterConduit] at kN1490
                simp (maxSteps := 2000000) only [W, reduceIte, Nat.reduceEqDiff, Nat.reduceAdd, Nat.reduceSub, Nat.reduceLT, Nat.reduceLeDiff, Nat.reduceMul, a5, rc_WaterConduit, kN951, kN953, c955d, kN957, kN1084, kN1088, kN1156, kN1160, kN1230, kN1241, c1243d, kN1253, c1255d, c1483d, c1484d, c1485d, kN1487, kN1490, c1492d]
            · rw [if_neg c1485] at h
              have c1485d := df c1485
              cases h
              refine ev_call (fn := a5) rfl ⟨N951 + N953 + N957 + N1084 + N1088 + N1156 + N1160 + N1230 + N1241 + N1253, fun n hn => ?_⟩
              have kN951 := kN951 n (by omega)
              have kN953 := kN953 n (by omega)
              try simp (maxSteps := 2000000) only [wn] at kN953
              have kN957 := kN957 n (by omega)
              try simp (maxSteps := 2000000) only [wn] at kN957
              have kN1084 := kN1084 n (by omega)
              try simp (maxSteps := 2000000) only [wn] at kN1084
              have kN1088 := kN1088 n (by omega)
              try simp (maxSteps := 2000000) only [wn] at kN1088
              have kN1156 := kN1156 n (by omega)
              try simp (maxSteps := 2000000) only [wn] at kN1156
              have kN1160 := kN1160 n (by omega)
              try simp (maxSteps := 2000000) only [wn] at kN1160
              have kN1230 := kN1230 n (by omega)
              try simp (maxSteps := 2000000) only [wn] at kN1230
              have kN1241 := kN1241 n (by omega)
              try simp (maxSteps := 2000000) only [wn] at kN1241
              have kN1253 := kN1253 n (by omega)
              try simp (maxSteps := 2000000) only [wn] at kN1253
              simp (maxSteps := 2000000) only [W, reduceIte, Nat.reduceEqDiff, Nat.reduceAdd, Nat.reduceSub, Nat.reduceLT, Nat.reduceLeDiff, Nat.reduceMul, a5, rc_WaterConduit, kN951, kN953, c955d, kN957, kN1084, kN1088, kN1156, kN1160, kN1230, kN1241, c1243d, kN1253, c1255d, c1483d, c1484d, c1485d]
          · rw [if_neg c1484] at h
            have c1484d := df c1484
            cases h
            refine ev_call (fn := a5) rfl ⟨N951 + N953 + N957 + N1084 + N1088 + N1156 + N1160 + N1230 + N1241 + N1253, fun n hn => ?_⟩
            have kN951 := kN951 n (by omega)
            have kN953 := kN953 n (by omega)
            try simp (maxSteps := 2000000) only [wn] at kN953
            have kN957 := kN957 n (by omega)
            try simp (maxSteps := 2000000) only [wn] at kN957
            have kN1084 := kN1084 n (by omega)
            try simp (maxSteps := 2000000) only [wn] at kN1084
            have kN1088 := kN1088 n (by omega)
            try simp (maxSteps := 2000000) only [wn] at kN1088
            have kN1156 := kN1156 n (by omega)
            try simp (maxSteps := 2000000) only [wn] at kN1156
            have kN1160 := kN1160 n (by omega)
            try simp (maxSteps := 2000000) only [wn] at kN1160
            have kN1230 := kN1230 n (by omega)
            try simp (maxSteps := 2000000) only [wn] at kN1230
            have kN1241 := kN1241 n (by omega)
            try simp (maxSteps := 2000000) only [wn] at kN1241
            have kN1253 := kN1253 n (by omega)
            try simp (maxSteps := 2000000) only [wn] at kN1253
            simp (maxSteps := 2000000) only [W, reduceIte, Nat.reduceEqDiff, Nat.reduceAdd, Nat.reduceSub, Nat.reduceLT, Nat.reduceLeDiff, Nat.reduceMul, a5, rc_WaterConduit, kN951, kN953, c955d, kN957, kN1084, kN1088, kN1156, kN1160, kN1230, kN1241, c1243d, kN1253, c1255d, c1483d, c1484d]
        · rw [if_neg c1483] at h
          have c1483d := df c1483
          cases h
          refine ev_call (fn := a5) rfl ⟨N951 + N953 + N957 + N1084 + N1088 + N1156 + N1160 + N1230 + N1241 + N1253, fun n hn => ?_⟩
          have kN951 := kN951 n (by omega)
          have kN953 := kN953 n (by omega)
          try simp (maxSteps := 2000000) only [wn] at kN953
          have kN957 := kN957 n (by omega)
          try simp (maxSteps := 2000000) only [wn] at kN957
          have kN1084 := kN1084 n (by omega)
          try simp (maxSteps := 2000000) only [wn] at kN1084
          have kN1088 := kN1088 n (by omega)
          try simp (maxSteps := 2000000) only [wn] at kN1088
          have kN1156 := kN1156 n (by omega)
          try simp (maxSteps := 2000000) only [wn] at kN1156
          have kN1160 := kN1160 n (by omega)
          try simp (maxSteps := 2000000) only [wn] at kN1160
          have kN1230 := kN1230 n (by omega)
          try simp (maxSteps := 2000000) only [wn] at kN1230
          have kN1241 := kN1241 n (by omega)
          try simp (maxSteps := 2000000) only [wn] at kN1241
          have kN1253 := kN1253 n (by omega)
          try simp (maxSteps := 2000000) only [wn] at kN1253
          simp (maxSteps := 2000000) only [W, reduceIte, Nat.reduceEqDiff, Nat.reduceAdd, Nat.reduceSub, Nat.reduceLT, Nat.reduceLeDiff, Nat.reduceMul, a5, rc_WaterConduit, kN951, kN953, c955d, kN957, kN1084, kN1088, kN1156, kN1160, kN1230, kN1241, c1243d, kN1253, c1255d, c1483d]
    · rw [if_neg c1243] at h
      have c1243d := df c1243
      by_cases c1510 : r1085 = r1242
      · rw [if_pos c1510] at h
        have c1510d := dt c1510
        by_cases c1511 : r1157 = r1242
        · rw [if_pos c1511] at h
          have c1511d := dt c1511
          by_cases c1512 : r1231 = r1242
          · rw [if_pos c1512] at h
            have c1512d := dt c1512
            cases h
            refine ev_call (fn := a5) rfl ⟨N951 + N953 + N957 + N1084 + N1088 + N1156 + N1160 + N1230 + N1241, fun n hn => ?_⟩
            have kN951 := kN951 n (by omega)
            have kN953 := kN953 n (by omega)
            try simp (maxSteps := 2000000) only [wn] at kN953
            have kN957 := kN957 n (by omega)
            try simp (maxSteps := 2000000) only [wn] at kN957
            have kN1084 := kN1084 n (by omega)
            try simp (maxSteps := 2000000) only [wn] at kN1084
            have kN1088 := kN1088 n (by omega)
            try simp (maxSteps := 2000000) only [wn] at kN1088
            have kN1156 := kN1156 n (by omega)
            try simp (maxSteps := 2000000) only [wn] at kN1156
            have kN1160 := kN1160 n (by omega)
            try simp (maxSteps := 2000000) only [wn] at kN1160
            have kN1230 := kN1230 n (by omega)
            try simp (maxSteps := 2000000) only [wn] at kN1230
            have kN1241 := kN1241 n (by omega)
            try simp (maxSteps := 2000000) only [wn] at kN1241
            simp (maxSteps := 2000000) only [W, reduceIte, Nat.reduceEqDiff, Nat.reduceAdd, Nat.reduceSub, Nat.reduceLT, Nat.reduceLeDiff, Nat.reduceMul, a5, rc_WaterConduit, kN951, kN953, c955d, kN957, kN1084, kN1088, kN1156, kN1160, kN1230, kN1241, c1243d, c1510d, c1511d, c1512d]
          · rw [if_neg c1512] at h
            have c1512d := df c1512
            cases h
            refine ev_call (fn := a5) rfl ⟨N951 + N953 + N957 + N1084 + N1088 + N1156 + N1160 + N1230 + N1241, fun n hn => ?_⟩
            have kN951 := kN951 n (by omega)
            have kN953 := kN953 n (by omega)
            try simp (maxSteps := 2000000) only [wn] at kN953
            have kN957 := kN957 n (by omega)
            try simp (maxSteps := 2000000) only [wn] at kN957
            have kN1084 := kN1084 n (by omega)
            try simp (maxSteps := 2000000) only [wn] at kN1084
            have kN1088 := kN1088 n (by omega)
            try simp (maxSteps := 2000000) only [wn] at kN1088
            have kN1156 := kN1156 n (by omega)
            try simp (maxSteps := 2000000) only [wn] at kN1156
            have kN1160 := kN1160 n (by omega)
            try simp (maxSteps := 2000000) only [wn] at kN1160
            have kN1230 := kN1230 n (by omega)
            try simp (maxSteps := 2000000) only [wn] at kN1230
            have kN1241 := kN1241 n (by omega)
            try simp (maxSteps := 2000000) only [wn] at kN1241
            simp (maxSteps := 2000000) only [W, reduceIte, Nat.reduceEqDiff, Nat.reduceAdd, Nat.reduceSub, Nat.reduceLT, Nat.reduceLeDiff, Nat.reduceMul, a5, rc_WaterConduit, kN951, kN953, c955d, kN957, kN1084, kN1088, kN1156, kN1160, kN1230, kN1241, c1243d, c1510d, c1511d, c1512d]
        · rw [if_neg c1511] at h
          have c1511d := df c1511
          cases h
          refine ev_call (fn := a5) rfl ⟨N951 + N953 + N957 + N1084 + N1088 + N1156 + N1160 + N1230 + N1241, fun n hn => ?_⟩
          have kN951 := kN951 n (by omega)
          have kN953 := kN953 n (by omega)
          try simp (maxSteps := 2000000) only [wn] at kN953
          have kN957 := kN957 n (by omega)
          try simp (maxSteps := 2000000) only [wn] at kN957
          have kN1084 := kN1084 n (by omega)
          try simp (maxSteps := 2000000) only [wn] at kN1084
          have kN1088 := kN1088 n (by omega)
          try simp (maxSteps := 2000000) only [wn] at kN1088
          have kN1156 := kN1156 n (by omega)
          try simp (maxSteps := 2000000) only [wn] at kN1156
          have kN1160 := kN1160 n (by omega)
          try simp (maxSteps := 2000000) only [wn] at kN1160
          have kN1230 := kN1230 n (by omega)
          try simp (maxSteps := 2000000) only [wn] at kN1230
          have kN1241 := kN1241 n (by omega)
          try simp (maxSteps := 2000000) only [wn] at kN1241
          simp (maxSteps := 2000000) only [W, reduceIte, Nat.reduceEqDiff, Nat.reduceAdd, Nat.reduceSub, Nat.reduceLT, Nat.reduceLeDiff, Nat.reduceMul, a5, rc_WaterConduit, kN951, kN953, c955d, kN957, kN1084, kN1088, kN1156, kN1160, kN1230, kN1241, c1243d, c1510d, c1511d]
      · rw [if_neg c1510] at h
        have c1510d := df c1510
        cases h
        refine ev_call (fn := a5) rfl ⟨N951 + N953 + N957 + N1084 + N1088 + N1156 + N1160 + N1230 + N1241, fun n hn => ?_⟩
        have kN951 := kN951 n (by omega)
        have kN953 := kN953 n (by omega)
        try simp (maxSteps := 2000000) only [wn] at kN953
        have kN957 := kN957 n (by omega)
        try simp (maxSteps := 2000000) only [wn] at kN957
        have kN1084 := kN1084 n (by omega)
        try simp (maxSteps := 2000000) only [wn] at kN1084
        have kN1088 := kN1088 n (by omega)
        try simp (maxSteps := 2000000) only [wn] at kN1088
        have kN1156 := kN1156 n (by omega)
        try simp (maxSteps := 2000000) only [wn] at kN1156
        have kN1160 := kN1160 n (by omega)
        try simp (maxSteps := 2000000) only [wn] at kN1160
        have kN1230 := kN1230 n (by omega)
        try simp (maxSteps := 2000000) only [wn] at kN1230
        have kN1241 := kN1241 n (by omega)
        try simp (maxSteps := 2000000) only [wn] at kN1241
        simp (maxSteps := 2000000) only [W, reduceIte, Nat.reduceEqDiff, Nat.reduceAdd, Nat.reduceSub, Nat.reduceLT, Nat.reduceLeDiff, Nat.reduceMul, a5, rc_WaterConduit, kN951, kN953, c955d, kN957, kN1084, kN1088, kN1156, kN1160, kN1230, kN1241, c1243d, c1510d]
  · rw [if_neg c955] at h
    have c955d := bf c955
    cases h
    refine ev_call (fn := a5) rfl ⟨N951 + N953, fun n hn => ?_⟩
    have kN951 := kN951 n (by omega)
    have kN953 := kN953 n (by omega)
    try simp (maxSteps := 2000000) only [wn] at kN953
    simp (maxSteps := 2000000) only [W, reduceIte, Nat.reduceEqDiff, Nat.reduceAdd, Nat.reduceSub, Nat.reduceLT, Nat.reduceLeDiff, Nat.reduceMul, a5, rc_WaterConduit, kN951, kN953, c955d]
end Go.AI
