/-
  Functions, walked through: guidevanebase.Ints, guidevaneref02.wet, guidevaneref02.Wet, guidevaneref02.Filled.
-/
import Derived.Test.YtfglifekecijjaaCAiY
import Derived.Test.YtfglifekecijjaaCAiTab
import Derived.Test.YtfglifekecijjaaCAiAwake
import Derived.Test.YtfglifekecijjaaCWnF
import Derived.Test.YtfglifekecijjaaCWn0
import Derived.Test.YtfglifekecijjaaCWn9
set_option linter.unusedVariables false
set_option linter.unusedSimpArgs false
set_option maxRecDepth 100000
set_option maxHeartbeats 4000000
namespace Go.AI
noncomputable def h34l0_0 (z0 : Bool) (z1 : Bool) (v1338 : List Int) (v1339 : List Int) : (Int) → Env × Heap
  | v1337 => ([(0, .slice 0 0 v1338.length v1338.length 1 false), (1, .slice 1 0 v1339.length v1339.length 1 false), (5, .int .i64 v1337)], [.row z0 true (rowC v1338), .row z1 true (rowC v1339)])
noncomputable def q34l0_0 (z0 : Bool) (z1 : Bool) (v1338 : List Int) (v1339 : List Int) : ((Unit) ⊕ (Unit)) → AExit × Env × Heap
  | .inl (_) => (.exit 0, [(4, .undef)], [.row z0 true (rowC v1338), .row z1 true (rowC v1339)])
  | .inr (_) => (.ret, [(4, .bool false)], [.row z0 true (rowC v1338), .row z1 true (rowC v1339)])
theorem k34l0_0 (z0 : Bool) (z1 : Bool) (v1338 : List Int) (v1339 : List Int) (s : Int) (o : (Unit) ⊕ (Unit)) (h : L34l0_0 v1338 v1339 s = some o) : Ev fun n => loopAt [0, 1, 5] [4] a34l0b (ex tab n) 2 (h34l0_0 z0 z1 v1338 v1339 s) = some (q34l0_0 z0 z1 v1338 v1339 o) := by
  refine iter_sound (S34l0_0 v1338 v1339) [0, 1, 5] [4] a34l0b 2 (h34l0_0 z0 z1 v1338 v1339) (q34l0_0 z0 z1 v1338 v1339) ?_ _ _ _ h
  rintro v1337 z h
  simp only [S34l0_0] at h
  by_cases c1340 : (v1338.length : Int) ≤ v1337
  · rw [if_pos c1340] at h
    have c1340d := dt c1340
    cases h
    refine ⟨0, fun n hn => ?_⟩
    simp (maxSteps := 2000000) only [W, reduceIte, Nat.reduceEqDiff, Nat.reduceAdd, Nat.reduceSub, Nat.reduceLT, Nat.reduceLeDiff, Nat.reduceMul, h34l0_0, q34l0_0, a34l0b, c1340d, wd]
  · rw [if_neg c1340] at h
    have c1340d := df c1340
    obtain ⟨j1341, x1342, g1343, h⟩ := un2 h
    obtain ⟨g13431, g13432⟩ := geti_in g1343
    have g13433 := ac_Int g13432
    try simp only [wn] at g13431
    obtain ⟨j1344, x1345, g1346, h⟩ := un2 h
    obtain ⟨g13461, g13462⟩ := geti_in g1346
    have g13463 := ac_Int g13462
    try simp only [wn] at g13461
    by_cases c1347 : x1342 = x1345
    · rw [if_pos c1347] at h
      have c1347d := dt c1347
      cases h
      refine ⟨0, fun n hn => ?_⟩
      simp (maxSteps := 2000000) only [W, reduceIte, Nat.reduceEqDiff, Nat.reduceAdd, Nat.reduceSub, Nat.reduceLT, Nat.reduceLeDiff, Nat.reduceMul, h34l0_0, q34l0_0, a34l0b, c1340d, g13431, g13433, g13461, g13463, c1347d, wd]
    · rw [if_neg c1347] at h
      have c1347d := df c1347
      cases h
      refine ⟨0, fun n hn => ?_⟩
      simp (maxSteps := 2000000) only [W, reduceIte, Nat.reduceEqDiff, Nat.reduceAdd, Nat.reduceSub, Nat.reduceLT, Nat.reduceLeDiff, Nat.reduceMul, h34l0_0, q34l0_0, a34l0b, c1340d, g13431, g13433, g13461, g13463, c1347d, wd]
theorem c34_0 (z0 : Bool) (z1 : Bool) (v1334 : List Int) (v1335 : List Int) (r1350 : Bool) (h : F34_0 v1334 v1335 = some r1350) : Ev fun n => (ex tab n).call 34 [.slice 0 0 v1334.length v1334.length 1 false, .slice 1 0 v1335.length v1335.length 1 false] [.row z0 true (rowC v1334), .row z1 true (rowC v1335)] = some (.bool r1350, [.row z0 true (rowC v1334), .row z1 true (rowC v1335)]) := by
  unfold F34_0 at h
  by_cases c1336 : (v1334.length : Int) = (v1335.length : Int)
  · rw [if_pos c1336] at h
    have c1336d := dt c1336
    obtain ⟨g1348_, g1348, h⟩ := un1 h
    rcases g1348_ with _ | _
    · dsimp only at h
      have kN1349 := k34l0_0 z0 z1 v1334 v1335 0 _ g1348
      obtain ⟨N1349, kN1349⟩ := kN1349
      cases h
      refine ev_call (fn := a34) rfl ⟨N1349, fun n hn => ?_⟩
      have kN1349 := kN1349 n (by omega)
      simp (maxSteps := 2000000) only [h34l0_0, q34l0_0, wn] at kN1349
      simp (maxSteps := 2000000) only [W, reduceIte, Nat.reduceEqDiff, Nat.reduceAdd, Nat.reduceSub, Nat.reduceLT, Nat.reduceLeDiff, Nat.reduceMul, a34, a34l0, c1336d, kN1349, @x_loopAt]
    · dsimp only at h
      have kN1349 := k34l0_0 z0 z1 v1334 v1335 0 _ g1348
      obtain ⟨N1349, kN1349⟩ := kN1349
      cases h
      refine ev_call (fn := a34) rfl ⟨N1349, fun n hn => ?_⟩
      have kN1349 := kN1349 n (by omega)
      simp (maxSteps := 2000000) only [h34l0_0, q34l0_0, wn] at kN1349
      simp (maxSteps := 2000000) only [W, reduceIte, Nat.reduceEqDiff, Nat.reduceAdd, Nat.reduceSub, Nat.reduceLT, Nat.reduceLeDiff, Nat.reduceMul, a34, a34l0, c1336d, kN1349, @x_loopAt]
  · rw [if_neg c1336] at h
    have c1336d := df c1336
    cases h
    refine ev_call (fn := a34) rfl ⟨0, fun n hn => ?_⟩
    simp (maxSteps := 2000000) only [W, reduceIte, Nat.reduceEqDiff, Nat.reduceAdd, Nat.reduceSub, Nat.reduceLT, Nat.reduceLeDiff, Nat.reduceMul, a34, a34l0, c1336d, @x_loopAt]
noncomputable def h96l0_0 (z0 : Bool) (z1 : Bool) (v1364 : List WaterNode) (v1365 : List WaterConduit) : (Int × (List Bool)) → Env × Heap
  | (v1363, v1366) => ([(1, .ptr 2 0), (3, .slice 3 0 v1366.length v1366.length 1 false), (4, .int .i64 v1363)], [.row z0 true (rowC v1364), .row z1 true (rowC v1365), .row true false [.slice 0 0 v1364.length v1364.length 4 false, .slice 1 0 v1365.length v1365.length 6 false], .row true true (rowC v1366)])
noncomputable def q96l0_0 (z0 : Bool) (z1 : Bool) (v1364 : List WaterNode) (v1365 : List WaterConduit) : ((List Bool)) → AExit × Env × Heap
  | r1374 => (.exit 0, [(1, .ptr 2 0), (2, .undef), (3, .slice 3 0 r1374.length r1374.length 1 false)], [.row z0 true (rowC v1364), .row z1 true (rowC v1365), .row true false [.slice 0 0 v1364.length v1364.length 4 false, .slice 1 0 v1365.length v1365.length 6 false], .row true true (rowC r1374)])
theorem k96l0_0 (z0 : Bool) (z1 : Bool) (v1364 : List WaterNode) (v1365 : List WaterConduit) (s : Int × (List Bool)) (o : (List Bool)) (h : L96l0_0 v1364 v1365 s = some o) : Ev fun n => loopAt [1, 3, 4] [1, 2, 3] a96l0b (ex tab n) 2 (h96l0_0 z0 z1 v1364 v1365 s) = some (q96l0_0 z0 z1 v1364 v1365 o) := by
  refine iter_sound (S96l0_0 v1364 v1365) [1, 3, 4] [1, 2, 3] a96l0b 2 (h96l0_0 z0 z1 v1364 v1365) (q96l0_0 z0 z1 v1364 v1365) ?_ _ _ _ h
  rintro ⟨v1363, v1366⟩ z h
  simp only [S96l0_0] at h
  by_cases c1367 : (v1364.length : Int) ≤ v1363
  · rw [if_pos c1367] at h
    have c1367d := dt c1367
    cases h
    refine ⟨0, fun n hn => ?_⟩
    simp (maxSteps := 2000000) only [W, reduceIte, Nat.reduceEqDiff, Nat.reduceAdd, Nat.reduceSub, Nat.reduceLT, Nat.reduceLeDiff, Nat.reduceMul, h96l0_0, q96l0_0, a96l0b, rc_WaterNode, c1367d]
  · rw [if_neg c1367] at h
    have c1367d := df c1367
    obtain ⟨j1368, x1369, g1370, h⟩ := un2 h
    obtain ⟨g13701, g13702⟩ := geti_in g1370
    have g13703 := ac_WaterNode g13702
    try simp only [wn] at g13701
    obtain ⟨j1371, x1372, g1373, h⟩ := un2 h
    obtain ⟨g13731, g13732⟩ := geti_in g1373
    have g13733 := ac_Bool g13732
    try simp only [wn] at g13731
    cases h
    refine ⟨0, fun n hn => ?_⟩
    simp (maxSteps := 2000000) only [W, reduceIte, Nat.reduceEqDiff, Nat.reduceAdd, Nat.reduceSub, Nat.reduceLT, Nat.reduceLeDiff, Nat.reduceMul, h96l0_0, q96l0_0, a96l0b, rc_WaterNode, c1367d, g13701, g13703, g13731, g13733]
noncomputable def h96l1_0 (z0 : Bool) (z1 : Bool) (v1385 : List WaterNode) (v1386 : List WaterConduit) (v1387 : List Bool) : (Int × (List Bool)) → Env × Heap
  | (v1384, v1388) => ([(1, .ptr 2 0), (3, .slice 3 0 v1387.length v1387.length 1 false), (5, .slice 4 0 v1388.length v1388.length 1 false), (6, .int .i64 v1384)], [.row z0 true (rowC v1385), .row z1 true (rowC v1386), .row true false [.slice 0 0 v1385.length v1385.length 4 false, .slice 1 0 v1386.length v1386.length 6 false], .row true true (rowC v1387), .row true true (rowC v1388)])
noncomputable def q96l1_0 (z0 : Bool) (z1 : Bool) (v1385 : List WaterNode) (v1386 : List WaterConduit) (v1387 : List Bool) : ((List Bool)) → AExit × Env × Heap
  | r1410 => (.exit 2, [(2, .undef), (5, .slice 2 0 r1410.length r1410.length 1 false)], [.row z0 true (rowC v1385), .row z1 true (rowC v1386), .row true true (rowC r1410)])
theorem k96l1_0 (z0 : Bool) (z1 : Bool) (v1385 : List WaterNode) (v1386 : List WaterConduit) (v1387 : List Bool) (s : Int × (List Bool)) (o : (List Bool)) (h : L96l1_0 v1385 v1386 v1387 s = some o) : Ev fun n => loopAt [1, 3, 5, 6] [2, 5] a96l1b (ex tab n) 2 (h96l1_0 z0 z1 v1385 v1386 v1387 s) = some (q96l1_0 z0 z1 v1385 v1386 v1387 o) := by
  refine iter_sound (S96l1_0 v1385 v1386 v1387) [1, 3, 5, 6] [2, 5] a96l1b 2 (h96l1_0 z0 z1 v1385 v1386 v1387) (q96l1_0 z0 z1 v1385 v1386 v1387) ?_ _ _ _ h
  rintro ⟨v1384, v1388⟩ z h
  simp only [S96l1_0] at h
  by_cases c1389 : (v1386.length : Int) ≤ v1384
  · rw [if_pos c1389] at h
    have c1389d := dt c1389
    cases h
    refine ⟨0, fun n hn => ?_⟩
    simp (maxSteps := 2000000) only [W, reduceIte, Nat.reduceEqDiff, Nat.reduceAdd, Nat.reduceSub, Nat.reduceLT, Nat.reduceLeDiff, Nat.reduceMul, h96l1_0, q96l1_0, a96l1b, rc_WaterConduit, c1389d]
  · rw [if_neg c1389] at h
    have c1389d := df c1389
    obtain ⟨j1390, x1391, g1392, h⟩ := un2 h
    obtain ⟨g13921, g13922⟩ := geti_in g1392
    have g13923 := ac_WaterConduit g13922
    try simp only [wn] at g13921
    obtain ⟨j1393, x1394, g1395, h⟩ := un2 h
    obtain ⟨g13951, g13952⟩ := geti_in g1395
    have g13953 := ac_Bool g13952
    try simp only [wn] at g13951
    by_cases c1396 : x1394 = true
    · rw [if_pos c1396] at h
      have c1396d := c1396
      obtain ⟨j1397, x1398, g1399, h⟩ := un2 h
      obtain ⟨g13991, g13992⟩ := geti_in g1399
      have g13993 := ac_Bool g13992
      try simp only [wn] at g13991
      cases h
      refine ⟨0, fun n hn => ?_⟩
      simp (maxSteps := 2000000) only [W, reduceIte, Nat.reduceEqDiff, Nat.reduceAdd, Nat.reduceSub, Nat.reduceLT, Nat.reduceLeDiff, Nat.reduceMul, h96l1_0, q96l1_0, a96l1b, rc_WaterConduit, c1389d, g13921, g13923, g13951, g13953, c1396d, g13991, g13993]
    · rw [if_neg c1396] at h
      have c1396d := bf c1396
      by_cases c1400 : x1391.fOpen = true
      · rw [if_pos c1400] at h
        have c1400d := c1400
        obtain ⟨j1401, x1402, g1403, h⟩ := un2 h
        obtain ⟨g14031, g14032⟩ := geti_in g1403
        have g14033 := ac_Bool g14032
        try simp only [wn] at g14031
        obtain ⟨j1404, x1405, g1406, h⟩ := un2 h
        obtain ⟨g14061, g14062⟩ := geti_in g1406
        have g14063 := ac_Bool g14062
        try simp only [wn] at g14061
        cases h
        refine ⟨0, fun n hn => ?_⟩
        simp (maxSteps := 2000000) only [W, reduceIte, Nat.reduceEqDiff, Nat.reduceAdd, Nat.reduceSub, Nat.reduceLT, Nat.reduceLeDiff, Nat.reduceMul, h96l1_0, q96l1_0, a96l1b, rc_WaterConduit, c1389d, g13921, g13923, g13951, g13953, c1396d, c1400d, g14031, g14033, g14061, g14063]
      · rw [if_neg c1400] at h
        have c1400d := bf c1400
        obtain ⟨j1407, x1408, g1409, h⟩ := un2 h
        obtain ⟨g14091, g14092⟩ := geti_in g1409
        have g14093 := ac_Bool g14092
        try simp only [wn] at g14091
        cases h
        refine ⟨0, fun n hn => ?_⟩
        simp (maxSteps := 2000000) only [W, reduceIte, Nat.reduceEqDiff, Nat.reduceAdd, Nat.reduceSub, Nat.reduceLT, Nat.reduceLeDiff, Nat.reduceMul, h96l1_0, q96l1_0, a96l1b, rc_WaterConduit, c1389d, g13921, g13923, g13951, g13953, c1396d, c1400d, g14091, g14093]
theorem c96_0 (z0 : Bool) (z1 : Bool) (v1358 : List WaterNode) (v1359 : List WaterConduit) (r1414 : List Bool) (h : F96_0 v1358 v1359 = some r1414) : Ev fun n => (ex tab n).call 96 [.agg [.slice 0 0 v1358.length v1358.length 4 false, .slice 1 0 v1359.length v1359.length 6 false]] [.row z0 true (rowC v1358), .row z1 true (rowC v1359)] = some (.slice 2 0 r1414.length r1414.length 1 false, [.row z0 true (rowC v1358), .row z1 true (rowC v1359), .row true true (rowC r1414)]) := by
  unfold F96_0 at h
  obtain ⟨n1360, g1361, h⟩ := un1 h
  try simp only [wn] at g1361
  obtain ⟨g1362, h⟩ := un_roomd h
  try simp only [Nat.reduceLeDiff] at g1362
  obtain ⟨r1377, g1375, h⟩ := un1 h
  have kN1376 := k96l0_0 z0 z1 v1358 v1359 (0, (List.replicate n1360 false)) _ g1375
  obtain ⟨N1376, kN1376⟩ := kN1376
  obtain ⟨r1380, g1378, h⟩ := un1 h
  obtain ⟨N1379, kN1379⟩ := c95_0 z0 z1 true v1358 v1359 r1377 _ g1378
  obtain ⟨n1381, g1382, h⟩ := un1 h
  try simp only [wn] at g1382
  obtain ⟨g1383, h⟩ := un_roomd h
  try simp only [Nat.reduceLeDiff] at g1383
  obtain ⟨r1413, g1411, h⟩ := un1 h
  have kN1412 := k96l1_0 z0 z1 v1358 v1359 r1380 (0, (List.replicate n1381 false)) _ g1411
  obtain ⟨N1412, kN1412⟩ := kN1412
  cases h
  refine ev_call (fn := a96) rfl ⟨N1376 + N1379 + N1412, fun n hn => ?_⟩
  have kN1376 := kN1376 n (by omega)
  simp (maxSteps := 2000000) only [h96l0_0, q96l0_0, wn, rc_WaterNode] at kN1376
  have kN1379 := kN1379 n (by omega)
  try simp (maxSteps := 2000000) only [wn, rc_WaterNode] at kN1379
  have kN1412 := kN1412 n (by omega)
  simp (maxSteps := 2000000) only [h96l1_0, q96l1_0, wn, rc_WaterConduit, rc_WaterNode] at kN1412
  simp (maxSteps := 2000000) only [W, reduceIte, Nat.reduceEqDiff, Nat.reduceAdd, Nat.reduceSub, Nat.reduceLT, Nat.reduceLeDiff, Nat.reduceMul, a96, a96l0, a96l1, rc_WaterConduit, rc_WaterNode, g1361, g1362, kN1376, kN1379, g1382, g1383, kN1412, @x_loopAt]
theorem c36_0 (z0 : Bool) (z1 : Bool) (v1356 : List WaterNode) (v1357 : List WaterConduit) (r1421 : List Int) (h : F36_0 v1356 v1357 = some r1421) : Ev fun n => (ex tab n).call 36 [.agg [.slice 0 0 v1356.length v1356.length 4 false, .slice 1 0 v1357.length v1357.length 6 false]] [.row z0 true (rowC v1356), .row z1 true (rowC v1357)] = some (.slice 2 0 r1421.length r1421.length 1 false, [.row z0 true (rowC v1356), .row z1 true (rowC v1357), .row true true (rowC r1421)]) := by
  unfold F36_0 at h
  obtain ⟨r1417, g1415, h⟩ := un1 h
  obtain ⟨N1416, kN1416⟩ := c96_0 z0 z1 v1356 v1357 _ g1415
  obtain ⟨r1420, g1418, h⟩ := un1 h
  obtain ⟨N1419, kN1419⟩ := c94_0 true r1417 _ g1418
  cases h
  refine ev_call (fn := a36) rfl ⟨N1416 + N1419, fun n hn => ?_⟩
  have kN1416 := kN1416 n (by omega)
  try simp (maxSteps := 2000000) only [wn] at kN1416
  have kN1419 := kN1419 n (by omega)
  try simp (maxSteps := 2000000) only [wn] at kN1419
  simp (maxSteps := 2000000) only [W, reduceIte, Nat.reduceEqDiff, Nat.reduceAdd, Nat.reduceSub, Nat.reduceLT, Nat.reduceLeDiff, Nat.reduceMul, a36, kN1416, kN1419]
noncomputable def h37l0_0 (z0 : Bool) (z1 : Bool) (v1455 : List WaterNode) (v1456 : List WaterConduit) (v1458 : List Bool) : (Int × (List Bool)) → Env × Heap
  | (v1454, v1457) => ([(7, .slice 2 0 v1457.length v1457.length 1 false), (8, .slice 3 0 v1458.length v1458.length 1 false), (9, .int .i64 v1454)], [.row z0 true (rowC v1455), .row z1 true (rowC v1456), .row true true (rowC v1457), .row true true (rowC v1458)])
noncomputable def q37l0_0 (z0 : Bool) (z1 : Bool) (v1455 : List WaterNode) (v1456 : List WaterConduit) (v1458 : List Bool) : ((List Bool)) → AExit × Env × Heap
  | r1467 => (.exit 0, [(4, .undef), (7, .slice 2 0 r1467.length r1467.length 1 false)], [.row z0 true (rowC v1455), .row z1 true (rowC v1456), .row true true (rowC r1467)])
theorem k37l0_0 (z0 : Bool) (z1 : Bool) (v1455 : List WaterNode) (v1456 : List WaterConduit) (v1458 : List Bool) (s : Int × (List Bool)) (o : (List Bool)) (h : L37l0_0 v1455 v1456 v1458 s = some o) : Ev fun n => loopAt [7, 8, 9] [4, 7] a37l0b (ex tab n) 2 (h37l0_0 z0 z1 v1455 v1456 v1458 s) = some (q37l0_0 z0 z1 v1455 v1456 v1458 o) := by
  refine iter_sound (S37l0_0 v1455 v1456 v1458) [7, 8, 9] [4, 7] a37l0b 2 (h37l0_0 z0 z1 v1455 v1456 v1458) (q37l0_0 z0 z1 v1455 v1456 v1458) ?_ _ _ _ h
  rintro ⟨v1454, v1457⟩ z h
  simp only [S37l0_0] at h
  by_cases c1459 : (v1457.length : Int) ≤ v1454
  · rw [if_pos c1459] at h
    have c1459d := dt c1459
    cases h
    refine ⟨0, fun n hn => ?_⟩
    simp (maxSteps := 2000000) only [W, reduceIte, Nat.reduceEqDiff, Nat.reduceAdd, Nat.reduceSub, Nat.reduceLT, Nat.reduceLeDiff, Nat.reduceMul, h37l0_0, q37l0_0, a37l0b, c1459d]
  · rw [if_neg c1459] at h
    have c1459d := df c1459
    obtain ⟨j1460, x1461, g1462, h⟩ := un2 h
    obtain ⟨g14621, g14622⟩ := geti_in g1462
    have g14623 := ac_Bool g14622
    try simp only [wn] at g14621
    by_cases c1463 : x1461 = true
    · rw [if_pos c1463] at h
      have c1463d := c1463
      obtain ⟨j1464, x1465, g1466, h⟩ := un2 h
      obtain ⟨g14661, g14662⟩ := geti_in g1466
      have g14663 := ac_Bool g14662
      try simp only [wn] at g14661
      cases h
      refine ⟨0, fun n hn => ?_⟩
      simp (maxSteps := 2000000) only [W, reduceIte, Nat.reduceEqDiff, Nat.reduceAdd, Nat.reduceSub, Nat.reduceLT, Nat.reduceLeDiff, Nat.reduceMul, h37l0_0, q37l0_0, a37l0b, c1459d, g14621, g14623, c1463d, g14661, g14663]
    · rw [if_neg c1463] at h
      have c1463d := bf c1463
      cases h
      refine ⟨0, fun n hn => ?_⟩
      simp (maxSteps := 2000000) only [W, reduceIte, Nat.reduceEqDiff, Nat.reduceAdd, Nat.reduceSub, Nat.reduceLT, Nat.reduceLeDiff, Nat.reduceMul, h37l0_0, q37l0_0, a37l0b, c1459d, g14621, g14623, c1463d]
theorem c37_0 (z0 : Bool) (z1 : Bool) (v1438 : Int) (v1439 : List WaterNode) (v1440 : List WaterConduit) (r1474 : List Int) (h : F37_0 v1438 v1439 v1440 = some r1474) : Ev fun n => (ex tab n).call 37 [.agg [.slice 0 0 v1439.length v1439.length 4 false, .slice 1 0 v1440.length v1440.length 6 false], .int .i64 v1438] [.row z0 true (rowC v1439), .row z1 true (rowC v1440)] = some (.slice 2 0 r1474.length r1474.length 1 false, [.row z0 true (rowC v1439), .row z1 true (rowC v1440), .row true true (rowC r1474)]) := by
  unfold F37_0 at h
  obtain ⟨_, g1441, h⟩ := un1 h
  obtain ⟨N1442, kN1442⟩ := c17_0 false false v1439 v1440 g1441
  obtain ⟨_, g1443, h⟩ := un1 h
  obtain ⟨N1444, kN1444⟩ := c17_0 false false v1439 v1440 g1443
  obtain ⟨j1445, x1446, g1447, h⟩ := un2 h
  obtain ⟨g14471, g14472⟩ := geti_in g1447
  have g14473 := ac_WaterConduit g14472
  try simp only [wn] at g14471
  obtain ⟨r1450, g1448, h⟩ := un1 h
  obtain ⟨N1449, kN1449⟩ := c96_0 false false v1439 (v1440.set j1445 ({ x1446 with fOpen := true } : WaterConduit)) _ g1448
  obtain ⟨r1453, g1451, h⟩ := un1 h
  obtain ⟨N1452, kN1452⟩ := c96_0 true true v1439 (v1440.set j1445 ({ x1446 with fOpen := false } : WaterConduit)) _ g1451
  obtain ⟨r1470, g1468, h⟩ := un1 h
  have kN1469 := k37l0_0 z0 z1 v1439 v1440 r1453 (0, r1450) _ g1468
  obtain ⟨N1469, kN1469⟩ := kN1469
  obtain ⟨r1473, g1471, h⟩ := un1 h
  obtain ⟨N1472, kN1472⟩ := c94_0 true r1470 _ g1471
  cases h
  refine ev_call (fn := a37) rfl ⟨N1442 + N1444 + N1449 + N1452 + N1469 + N1472, fun n hn => ?_⟩
  have kN1442 := kN1442 n (by omega)
  try simp (maxSteps := 2000000) only [wn] at kN1442
  have kN1444 := kN1444 n (by omega)
  try simp (maxSteps := 2000000) only [wn] at kN1444
  have kN1449 := kN1449 n (by omega)
  try simp (maxSteps := 2000000) only [wn, rc_WaterConduit] at kN1449
  have kN1452 := kN1452 n (by omega)
  try simp (maxSteps := 2000000) only [wn, rc_WaterConduit] at kN1452
  have kN1469 := kN1469 n (by omega)
  simp (maxSteps := 2000000) only [h37l0_0, q37l0_0, wn, rc_WaterConduit] at kN1469
  have kN1472 := kN1472 n (by omega)
  try simp (maxSteps := 2000000) only [wn, rc_WaterConduit] at kN1472
  simp (maxSteps := 2000000) only [W, reduceIte, Nat.reduceEqDiff, Nat.reduceAdd, Nat.reduceSub, Nat.reduceLT, Nat.reduceLeDiff, Nat.reduceMul, a37, a37l0, rc_WaterConduit, kN1442, kN1444, g14471, g14473, kN1449, kN1452, kN1469, kN1472, @x_loopAt, wd]
end Go.AI
