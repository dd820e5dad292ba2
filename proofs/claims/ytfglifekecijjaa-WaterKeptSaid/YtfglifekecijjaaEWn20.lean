import Derived.Test.YtfglifekecijjaaEAiY
import Derived.Test.YtfglifekecijjaaEAiTab
import Derived.Test.YtfglifekecijjaaEAiAwake
import Derived.Test.YtfglifekecijjaaEWnF
import Derived.Test.YtfglifekecijjaaEWn1
import Derived.Test.YtfglifekecijjaaEWn13
import Derived.Test.YtfglifekecijjaaEWn17
import Derived.Test.YtfglifekecijjaaEWn19
/-
  Functions, walked through: guidevanelaw02.WaterKept.
-/
set_option linter.unusedVariables false
set_option linter.unusedSimpArgs false
set_option maxRecDepth 100000
set_option maxHeartbeats 4000000
namespace Go.AI
theorem c6_0 (z0 : Bool) (z1 : Bool) (v1514 : Int) (v1515 : Int) (v1516 : List WaterNode) (v1517 : List WaterConduit) (r2785 : Bool) (h : F6_0 v1514 v1515 v1516 v1517 = some r2785) : Ev fun n => (ex tab n).call 6 [.agg [.slice 0 0 v1516.length v1516.length 4 false, .slice 1 0 v1517.length v1517.length 6 false], .agg [.int .i64 v1514, .int .i64 v1515]] [.row z0 true (rowC v1516), .row z1 true (rowC v1517)] = some (.bool r2785, [.row z0 true (rowC v1516), .row z1 true (rowC v1517)]) := by
  unfold F6_0 at h
  obtain ⟨N1518, kN1518⟩ := awake_ev
  obtain ⟨r1521, g1519, h⟩ := un1 h
  obtain ⟨N1520, kN1520⟩ := c15_0 z0 z1 v1516 v1517 _ g1519
  by_cases c1522 : r1521 = true
  · rw [if_pos c1522] at h
    have c1522d := c1522
    obtain ⟨r1661, g1659, h⟩ := un1 h
    obtain ⟨N1660, kN1660⟩ := c38_0 z0 z1 v1516 v1517 _ g1659
    by_cases c1662 : r1661 = 0
    · rw [if_pos c1662] at h
      have c1662d := dt c1662
      have d1663 : inx (0 : Int) 2 = some 0 := by rfl
      obtain ⟨r1666, g1664, h⟩ := un1 h
      obtain ⟨N1665, kN1665⟩ := c21_0 v1514 _ g1664
      by_cases c1667 : r1666 = 0
      · rw [if_pos c1667] at h
        have c1667d := dt c1667
        have d1668 : inx (1 : Int) 2 = some 1 := by rfl
        obtain ⟨r1671, g1669, h⟩ := un1 h
        obtain ⟨N1670, kN1670⟩ := c21_0 v1515 _ g1669
        by_cases c1672 : r1671 = 0
        · rw [if_pos c1672] at h
          have c1672d := dt c1672
          have d1673 : inx (0 : Int) 2 = some 0 := by rfl
          have d1674 : inx (1 : Int) 2 = some 1 := by rfl
          by_cases c1675 : v1514 ≤ v1515
          · rw [if_pos c1675] at h
            have c1675d := dt c1675
            obtain ⟨_, g1676, h⟩ := un1 h
            obtain ⟨N1677, kN1677⟩ := c17_0 z0 z1 v1516 v1517 g1676
            obtain ⟨r1994, r1995, g1992, h⟩ := un2 h
            obtain ⟨N1993, kN1993⟩ := c39_0 true true v1516 v1517 _ _ g1992
            have d1996 : inx (0 : Int) 2 = some 0 := by rfl
            by_cases c1997 : r1995 = 0
            · rw [if_pos c1997] at h
              have c1997d := dt c1997
              obtain ⟨_, g1998, h⟩ := un1 h
              obtain ⟨N1999, kN1999⟩ := c17_0 z0 z1 v1516 v1517 g1998
              obtain ⟨g2306_, g2306, h⟩ := un1 h
              rcases g2306_ with ⟨r2308, r2309⟩ | r2559
              · dsimp only at h
                obtain ⟨N2307, kN2307⟩ := c40_0 true true v1514 v1516 v1517 _ g2306
                have d2310 : (decide ((0 : Int) = 0)) = true := by decide
                have d2311 : (decide ((0 : Int) = 0)) = true := by decide
                have d2312 : (decide ((0 : Int) = 0)) = true := by decide
                have d2313 : (decide ((0 : Int) = 0)) = true := by decide
                have d2314 : (decide ((0 : Int) = 0)) = true := by decide
                have d2315 : (decide ((0 : Int) = 0)) = true := by decide
                have d2316 : (decide ((0 : Int) = 0)) = true := by decide
                have d2317 : (decide ((0 : Int) = 0)) = true := by decide
                by_cases c2318 : (r2308.length : Int) = (v1517.length : Int)
                · rw [if_pos c2318] at h
                  have c2318d := dt c2318
                  by_cases c2319 : (r2309.length : Int) = (v1516.length : Int)
                  · rw [if_pos c2319] at h
                    have c2319d := dt c2319
                    obtain ⟨n2320, g2321, h⟩ := un1 h
                    try simp only [wn] at g2321
                    obtain ⟨g2322, h⟩ := un_roomd h
                    obtain ⟨g2444_, g2444, h⟩ := un1 h
                    rcases g2444_ with r2446 | r2558
                    · dsimp only at h
                      have kN2445 := k6l0_0 z0 z1 r1994 v1514 v1516 v1517 v1514 v1515 r2308 r2309 (0, (List.replicate n2320 (0 : Int))) _ g2444
                      obtain ⟨N2445, kN2445⟩ := kN2445
                      obtain ⟨g2470_, g2470, h⟩ := un1 h
                      rcases g2470_ with _ | _
                      · dsimp only at h
                        have kN2471 := k6l1_0 z0 z1 r1994 v1514 v1516 v1517 v1514 v1515 r2308 r2309 r2446 0 _ g2470
                        obtain ⟨N2471, kN2471⟩ := kN2471
                        by_cases c2472 : 0 ≤ r1994
                        · rw [if_pos c2472] at h
                          have c2472d := dt c2472
                          obtain ⟨_, g2473, h⟩ := un1 h
                          obtain ⟨N2474, kN2474⟩ := c17_0 z0 z1 v1516 v1517 g2473
                          obtain ⟨r2530, r2531, g2528, h⟩ := un2 h
                          obtain ⟨N2529, kN2529⟩ := c42_0 true true v1514 v1516 v1517 _ _ g2528
                          obtain ⟨_, g2532, h⟩ := un1 h
                          obtain ⟨N2533, kN2533⟩ := c17_0 false false v1516 v1517 g2532
                          have d2534 : inx (1 : Int) 2 = some 1 := by rfl
                          obtain ⟨r2537, r2538, g2535, h⟩ := un2 h
                          obtain ⟨N2536, kN2536⟩ := c42_0 true true v1515 v1516 v1517 _ _ g2535
                          by_cases c2539 : r2531 = 0
                          · rw [if_pos c2539] at h
                            have c2539d := dt c2539
                            by_cases c2540 : r2538 = 0
                            · rw [if_pos c2540] at h
                              have c2540d := dt c2540
                              by_cases c2541 : r2530 ≤ r2537
                              · rw [if_pos c2541] at h
                                have c2541d := dt c2541
                                obtain ⟨r2544, g2542, h⟩ := un1 h
                                obtain ⟨N2543, kN2543⟩ := c20_0 r1994 0 (aw .i64 ((v1517.length : Int) - 1)) _ g2542
                                by_cases c2545 : r2544 = true
                                · rw [if_pos c2545] at h
                                  have c2545d := c2545
                                  obtain ⟨j2546, x2547, g2548, h⟩ := un2 h
                                  obtain ⟨g25481, g25482⟩ := geti_in g2548
                                  have g25483 := ac_WaterConduit g25482
                                  try simp only [wn] at g25481
                                  obtain ⟨r2551, g2549, h⟩ := un1 h
                                  obtain ⟨N2550, kN2550⟩ := c41_0 v1514 _ g2549
                                  obtain ⟨j2552, x2553, g2554, h⟩ := un2 h
                                  obtain ⟨g25541, g25542⟩ := geti_in g2554
                                  have g25543 := ac_Int g25542
                                  try simp only [wn] at g25541
                                  obtain ⟨j2555, x2556, g2557, h⟩ := un2 h
                                  obtain ⟨g25571, g25572⟩ := geti_in g2557
                                  have g25573 := ac_Int g25572
                                  try simp only [wn] at g25571
                                  cases h
                                  refine ev_call (fn := a6) rfl ⟨N1518 + N1520 + N1660 + N1665 + N1670 + N1677 + N1993 + N1999 + N2307 + N2445 + N2471 + N2474 + N2529 + N2533 + N2536 + N2543 + N2550, fun n hn => ?_⟩
                                  have kN1518 := kN1518 n (by omega)
                                  have kN1520 := kN1520 n (by omega)
                                  try simp (maxSteps := 2000000) only [wn] at kN1520
                                  have kN1660 := kN1660 n (by omega)
                                  try simp (maxSteps := 2000000) only [wn] at kN1660
                                  have kN1665 := kN1665 n (by omega)
                                  try simp (maxSteps := 2000000) only [wn] at kN1665
                                  have kN1670 := kN1670 n (by omega)
                                  try simp (maxSteps := 2000000) only [wn] at kN1670
                                  have kN1677 := kN1677 n (by omega)
                                  try simp (maxSteps := 2000000) only [wn] at kN1677
                                  have kN1993 := kN1993 n (by omega)
                                  try simp (maxSteps := 2000000) only [wn] at kN1993
                                  have kN1999 := kN1999 n (by omega)
                                  try simp (maxSteps := 2000000) only [wn] at kN1999
                                  have kN2307 := kN2307 n (by omega)
                                  try simp (maxSteps := 2000000) only [wn] at kN2307
                                  have kN2445 := kN2445 n (by omega)
                                  simp (maxSteps := 2000000) only [h6l0_0, q6l0_0, wn, rc_WaterConduit] at kN2445
                                  have kN2471 := kN2471 n (by omega)
                                  simp (maxSteps := 2000000) only [h6l1_0, q6l1_0, wn, rc_WaterConduit, rc_WaterNode] at kN2471
                                  have kN2474 := kN2474 n (by omega)
                                  try simp (maxSteps := 2000000) only [wn, rc_WaterConduit, rc_WaterNode] at kN2474
                                  have kN2529 := kN2529 n (by omega)
                                  try simp (maxSteps := 2000000) only [wn, rc_WaterConduit, rc_WaterNode] at kN2529
                                  have kN2533 := kN2533 n (by omega)
                                  try simp (maxSteps := 2000000) only [wn, rc_WaterConduit, rc_WaterNode] at kN2533
                                  have kN2536 := kN2536 n (by omega)
                                  try simp (maxSteps := 2000000) only [wn, rc_WaterConduit, rc_WaterNode] at kN2536
                                  have kN2543 := kN2543 n (by omega)
                                  try simp (maxSteps := 2000000) only [wn, rc_WaterConduit, rc_WaterNode] at kN2543
                                  have kN2550 := kN2550 n (by omega)
                                  try simp (maxSteps := 2000000) only [wn, rc_WaterConduit, rc_WaterNode] at kN2550
                                  simp (maxSteps := 2000000) only [W, reduceIte, Nat.reduceEqDiff, Nat.reduceAdd, Nat.reduceSub, Nat.reduceLT, Nat.reduceLeDiff, Nat.reduceMul, a6, a6l0, a6l1, rc_WaterConduit, rc_WaterNode, kN1518, kN1520, c1522d, kN1660, c1662d, d1663, kN1665, c1667d, d1668, kN1670, c1672d, d1673, d1674, c1675d, kN1677, kN1993, d1996, c1997d, kN1999, kN2307, d2310, d2311, d2312, d2313, d2314, d2315, d2316, d2317, c2318d, c2319d, g2321, g2322, kN2445, kN2471, c2472d, kN2474, kN2529, kN2533, d2534, kN2536, c2539d, c2540d, c2541d, kN2543, c2545d, g25481, g25483, kN2550, g25541, g25543, g25571, g25573, @x_loopAt, wd]
                                · rw [if_neg c2545] at h
                                  have c2545d := bf c2545
                                  cases h
                                  refine ev_call (fn := a6) rfl ⟨N1518 + N1520 + N1660 + N1665 + N1670 + N1677 + N1993 + N1999 + N2307 + N2445 + N2471 + N2474 + N2529 + N2533 + N2536 + N2543, fun n hn => ?_⟩
                                  have kN1518 := kN1518 n (by omega)
                                  have kN1520 := kN1520 n (by omega)
                                  try simp (maxSteps := 2000000) only [wn] at kN1520
                                  have kN1660 := kN1660 n (by omega)
                                  try simp (maxSteps := 2000000) only [wn] at kN1660
                                  have kN1665 := kN1665 n (by omega)
                                  try simp (maxSteps := 2000000) only [wn] at kN1665
                                  have kN1670 := kN1670 n (by omega)
                                  try simp (maxSteps := 2000000) only [wn] at kN1670
                                  have kN1677 := kN1677 n (by omega)
                                  try simp (maxSteps := 2000000) only [wn] at kN1677
                                  have kN1993 := kN1993 n (by omega)
                                  try simp (maxSteps := 2000000) only [wn] at kN1993
                                  have kN1999 := kN1999 n (by omega)
                                  try simp (maxSteps := 2000000) only [wn] at kN1999
                                  have kN2307 := kN2307 n (by omega)
                                  try simp (maxSteps := 2000000) only [wn] at kN2307
                                  have kN2445 := kN2445 n (by omega)
                                  simp (maxSteps := 2000000) only [h6l0_0, q6l0_0, wn, rc_WaterConduit] at kN2445
                                  have kN2471 := kN2471 n (by omega)
                                  simp (maxSteps := 2000000) only [h6l1_0, q6l1_0, wn, rc_WaterConduit, rc_WaterNode] at kN2471
                                  have kN2474 := kN2474 n (by omega)
                                  try simp (maxSteps := 2000000) only [wn, rc_WaterConduit, rc_WaterNode] at kN2474
                                  have kN2529 := kN2529 n (by omega)
                                  try simp (maxSteps := 2000000) only [wn, rc_WaterConduit, rc_WaterNode] at kN2529
                                  have kN2533 := kN2533 n (by omega)
                                  try simp (maxSteps := 2000000) only [wn, rc_WaterConduit, rc_WaterNode] at kN2533
                                  have kN2536 := kN2536 n (by omega)
                                  try simp (maxSteps := 2000000) only [wn, rc_WaterConduit, rc_WaterNode] at kN2536
                                  have kN2543 := kN2543 n (by omega)
                                  try simp (maxSteps := 2000000) only [wn, rc_WaterConduit, rc_WaterNode] at kN2543
                                  simp (maxSteps := 2000000) only [W, reduceIte, Nat.reduceEqDiff, Nat.reduceAdd, Nat.reduceSub, Nat.reduceLT, Nat.reduceLeDiff, Nat.reduceMul, a6, a6l0, a6l1, rc_WaterConduit, rc_WaterNode, kN1518, kN1520, c1522d, kN1660, c1662d, d1663, kN1665, c1667d, d1668, kN1670, c1672d, d1673, d1674, c1675d, kN1677, kN1993, d1996, c1997d, kN1999, kN2307, d2310, d2311, d2312, d2313, d2314, d2315, d2316, d2317, c2318d, c2319d, g2321, g2322, kN2445, kN2471, c2472d, kN2474, kN2529, kN2533, d2534, kN2536, c2539d, c2540d, c2541d, kN2543, c2545d, @x_loopAt, wd]
                              · rw [if_neg c2541] at h
                                have c2541d := df c2541
                                cases h
                                refine ev_call (fn := a6) rfl ⟨N1518 + N1520 + N1660 + N1665 + N1670 + N1677 + N1993 + N1999 + N2307 + N2445 + N2471 + N2474 + N2529 + N2533 + N2536, fun n hn => ?_⟩
                                have kN1518 := kN1518 n (by omega)
                                have kN1520 := kN1520 n (by omega)
                                try simp (maxSteps := 2000000) only [wn] at kN1520
                                have kN1660 := kN1660 n (by omega)
                                try simp (maxSteps := 2000000) only [wn] at kN1660
                                have kN1665 := kN1665 n (by omega)
                                try simp (maxSteps := 2000000) only [wn] at kN1665
                                have kN1670 := kN1670 n (by omega)
                                try simp (maxSteps := 2000000) only [wn] at kN1670
                                have kN1677 := kN1677 n (by omega)
                                try simp (maxSteps := 2000000) only [wn] at kN1677
                                have kN1993 := kN1993 n (by omega)
                                try simp (maxSteps := 2000000) only [wn] at kN1993
                                have kN1999 := kN1999 n (by omega)
                                try simp (maxSteps := 2000000) only [wn] at kN1999
                                have kN2307 := kN2307 n (by omega)
                                try simp (maxSteps := 2000000) only [wn] at kN2307
                                have kN2445 := kN2445 n (by omega)
                                simp (maxSteps := 2000000) only [h6l0_0, q6l0_0, wn, rc_WaterConduit] at kN2445
                                have kN2471 := kN2471 n (by omega)
                                simp (maxSteps := 2000000) only [h6l1_0, q6l1_0, wn, rc_WaterConduit, rc_WaterNode] at kN2471
                                have kN2474 := kN2474 n (by omega)
                                try simp (maxSteps := 2000000) only [wn, rc_WaterConduit, rc_WaterNode] at kN2474
                                have kN2529 := kN2529 n (by omega)
                                try simp (maxSteps := 2000000) only [wn, rc_WaterConduit, rc_WaterNode] at kN2529
                                have kN2533 := kN2533 n (by omega)
                                try simp (maxSteps := 2000000) only [wn, rc_WaterConduit, rc_WaterNode] at kN2533
                                have kN2536 := kN2536 n (by omega)
                                try simp (maxSteps := 2000000) only [wn, rc_WaterConduit, rc_WaterNode] at kN2536
                                simp (maxSteps := 2000000) only [W, reduceIte, Nat.reduceEqDiff, Nat.reduceAdd, Nat.reduceSub, Nat.reduceLT, Nat.reduceLeDiff, Nat.reduceMul, a6, a6l0, a6l1, rc_WaterConduit, rc_WaterNode, kN1518, kN1520, c1522d, kN1660, c1662d, d1663, kN1665, c1667d, d1668, kN1670, c1672d, d1673, d1674, c1675d, kN1677, kN1993, d1996, c1997d, kN1999, kN2307, d2310, d2311, d2312, d2313, d2314, d2315, d2316, d2317, c2318d, c2319d, g2321, g2322, kN2445, kN2471, c2472d, kN2474, kN2529, kN2533, d2534, kN2536, c2539d, c2540d, c2541d, @x_loopAt, wd]
                            · rw [if_neg c2540] at h
                              have c2540d := df c2540
                              cases h
                              refine ev_call (fn := a6) rfl ⟨N1518 + N1520 + N1660 + N1665 + N1670 + N1677 + N1993 + N1999 + N2307 + N2445 + N2471 + N2474 + N2529 + N2533 + N2536, fun n hn => ?_⟩
                              have kN1518 := kN1518 n (by omega)
                              have kN1520 := kN1520 n (by omega)
                              try simp (maxSteps := 2000000) only [wn] at kN1520
                              have kN1660 := kN1660 n (by omega)
                              try simp (maxSteps := 2000000) only [wn] at kN1660
                              have kN1665 := kN1665 n (by omega)
                              try simp (maxSteps := 2000000) only [wn] at kN1665
                              have kN1670 := kN1670 n (by omega)
                              try simp (maxSteps := 2000000) only [wn] at kN1670
                              have kN1677 := kN1677 n (by omega)
                              try simp (maxSteps := 2000000) only [wn] at kN1677
                              have kN1993 := kN1993 n (by omega)
                              try simp (maxSteps := 2000000) only [wn] at kN1993
                              have kN1999 := kN1999 n (by omega)
                              try simp (maxSteps := 2000000) only [wn] at kN1999
                              have kN2307 := kN2307 n (by omega)
                              try simp (maxSteps := 2000000) only [wn] at kN2307
                              have kN2445 := kN2445 n (by omega)
                              simp (maxSteps := 2000000) only [h6l0_0, q6l0_0, wn, rc_WaterConduit] at kN2445
                              have kN2471 := kN2471 n (by omega)
                              simp (maxSteps := 2000000) only [h6l1_0, q6l1_0, wn, rc_WaterConduit, rc_WaterNode] at kN2471
                              have kN2474 := kN2474 n (by omega)
                              try simp (maxSteps := 2000000) only [wn, rc_WaterConduit, rc_WaterNode] at kN2474
                              have kN2529 := kN2529 n (by omega)
                              try simp (maxSteps := 2000000) only [wn, rc_WaterConduit, rc_WaterNode] at kN2529
                              have kN2533 := kN2533 n (by omega)
                              try simp (maxSteps := 2000000) only [wn, rc_WaterConduit, rc_WaterNode] at kN2533
                              have kN2536 := kN2536 n (by omega)
                              try simp (maxSteps := 2000000) only [wn, rc_WaterConduit, rc_WaterNode] at kN2536
                              simp (maxSteps := 2000000) only [W, reduceIte, Nat.reduceEqDiff, Nat.reduceAdd, Nat.reduceSub, Nat.reduceLT, Nat.reduceLeDiff, Nat.reduceMul, a6, a6l0, a6l1, rc_WaterConduit, rc_WaterNode, kN1518, kN1520, c1522d, kN1660, c1662d, d1663, kN1665, c1667d, d1668, kN1670, c1672d, d1673, d1674, c1675d, kN1677, kN1993, d1996, c1997d, kN1999, kN2307, d2310, d2311, d2312, d2313, d2314, d2315, d2316, d2317, c2318d, c2319d, g2321, g2322, kN2445, kN2471, c2472d, kN2474, kN2529, kN2533, d2534, kN2536, c2539d, c2540d, @x_loopAt, wd]
                          · rw [if_neg c2539] at h
                            have c2539d := df c2539
                            cases h
                            refine ev_call (fn := a6) rfl ⟨N1518 + N1520 + N1660 + N1665 + N1670 + N1677 + N1993 + N1999 + N2307 + N2445 + N2471 + N2474 + N2529 + N2533 + N2536, fun n hn => ?_⟩
                            have kN1518 := kN1518 n (by omega)
                            have kN1520 := kN1520 n (by omega)
                            try simp (maxSteps := 2000000) only [wn] at kN1520
                            have kN1660 := kN1660 n (by omega)
                            try simp (maxSteps := 2000000) only [wn] at kN1660
                            have kN1665 := kN1665 n (by omega)
                            try simp (maxSteps := 2000000) only [wn] at kN1665
                            have kN1670 := kN1670 n (by omega)
                            try simp (maxSteps := 2000000) only [wn] at kN1670
                            have kN1677 := kN1677 n (by omega)
                            try simp (maxSteps := 2000000) only [wn] at kN1677
                            have kN1993 := kN1993 n (by omega)
                            try simp (maxSteps := 2000000) only [wn] at kN1993
                            have kN1999 := kN1999 n (by omega)
                            try simp (maxSteps := 2000000) only [wn] at kN1999
                            have kN2307 := kN2307 n (by omega)
                            try simp (maxSteps := 2000000) only [wn] at kN2307
                            have kN2445 := kN2445 n (by omega)
                            simp (maxSteps := 2000000) only [h6l0_0, q6l0_0, wn, rc_WaterConduit] at kN2445
                            have kN2471 := kN2471 n (by omega)
                            simp (maxSteps := 2000000) only [h6l1_0, q6l1_0, wn, rc_WaterConduit, rc_WaterNode] at kN2471
                            have kN2474 := kN2474 n (by omega)
                            try simp (maxSteps := 2000000) only [wn, rc_WaterConduit, rc_WaterNode] at kN2474
                            have kN2529 := kN2529 n (by omega)
                            try simp (maxSteps := 2000000) only [wn, rc_WaterConduit, rc_WaterNode] at kN2529
                            have kN2533 := kN2533 n (by omega)
                            try simp (maxSteps := 2000000) only [wn, rc_WaterConduit, rc_WaterNode] at kN2533
                            have kN2536 := kN2536 n (by omega)
                            try simp (maxSteps := 2000000) only [wn, rc_WaterConduit, rc_WaterNode] at kN2536
                            simp (maxSteps := 2000000) only [W, reduceIte, Nat.reduceEqDiff, Nat.reduceAdd, Nat.reduceSub, Nat.reduceLT, Nat.reduceLeDiff, Nat.reduceMul, a6, a6l0, a6l1, rc_WaterConduit, rc_WaterNode, kN1518, kN1520, c1522d, kN1660, c1662d, d1663, kN1665, c1667d, d1668, kN1670, c1672d, d1673, d1674, c1675d, kN1677, kN1993, d1996, c1997d, kN1999, kN2307, d2310, d2311, d2312, d2313, d2314, d2315, d2316, d2317, c2318d, c2319d, g2321, g2322, kN2445, kN2471, c2472d, kN2474, kN2529, kN2533, d2534, kN2536, c2539d, @x_loopAt, wd]
                        · rw [if_neg c2472] at h
                          have c2472d := df c2472
                          cases h
                          refine ev_call (fn := a6) rfl ⟨N1518 + N1520 + N1660 + N1665 + N1670 + N1677 + N1993 + N1999 + N2307 + N2445 + N2471, fun n hn => ?_⟩
                          have kN1518 := kN1518 n (by omega)
                          have kN1520 := kN1520 n (by omega)
                          try simp (maxSteps := 2000000) only [wn] at kN1520
                          have kN1660 := kN1660 n (by omega)
                          try simp (maxSteps := 2000000) only [wn] at kN1660
                          have kN1665 := kN1665 n (by omega)
                          try simp (maxSteps := 2000000) only [wn] at kN1665
                          have kN1670 := kN1670 n (by omega)
                          try simp (maxSteps := 2000000) only [wn] at kN1670
                          have kN1677 := kN1677 n (by omega)
                          try simp (maxSteps := 2000000) only [wn] at kN1677
                          have kN1993 := kN1993 n (by omega)
                          try simp (maxSteps := 2000000) only [wn] at kN1993
                          have kN1999 := kN1999 n (by omega)
                          try simp (maxSteps := 2000000) only [wn] at kN1999
                          have kN2307 := kN2307 n (by omega)
                          try simp (maxSteps := 2000000) only [wn] at kN2307
                          have kN2445 := kN2445 n (by omega)
                          simp (maxSteps := 2000000) only [h6l0_0, q6l0_0, wn, rc_WaterConduit] at kN2445
                          have kN2471 := kN2471 n (by omega)
                          simp (maxSteps := 2000000) only [h6l1_0, q6l1_0, wn, rc_WaterConduit, rc_WaterNode] at kN2471
                          simp (maxSteps := 2000000) only [W, reduceIte, Nat.reduceEqDiff, Nat.reduceAdd, Nat.reduceSub, Nat.reduceLT, Nat.reduceLeDiff, Nat.reduceMul, a6, a6l0, a6l1, rc_WaterConduit, rc_WaterNode, kN1518, kN1520, c1522d, kN1660, c1662d, d1663, kN1665, c1667d, d1668, kN1670, c1672d, d1673, d1674, c1675d, kN1677, kN1993, d1996, c1997d, kN1999, kN2307, d2310, d2311, d2312, d2313, d2314, d2315, d2316, d2317, c2318d, c2319d, g2321, g2322, kN2445, kN2471, c2472d, @x_loopAt, wd]
                      · dsimp only at h
                        have kN2471 := k6l1_0 z0 z1 r1994 v1514 v1516 v1517 v1514 v1515 r2308 r2309 r2446 0 _ g2470
                        obtain ⟨N2471, kN2471⟩ := kN2471
                        cases h
                        refine ev_call (fn := a6) rfl ⟨N1518 + N1520 + N1660 + N1665 + N1670 + N1677 + N1993 + N1999 + N2307 + N2445 + N2471, fun n hn => ?_⟩
                        have kN1518 := kN1518 n (by omega)
                        have kN1520 := kN1520 n (by omega)
                        try simp (maxSteps := 2000000) only [wn] at kN1520
                        have kN1660 := kN1660 n (by omega)
                        try simp (maxSteps := 2000000) only [wn] at kN1660
                        have kN1665 := kN1665 n (by omega)
                        try simp (maxSteps := 2000000) only [wn] at kN1665
                        have kN1670 := kN1670 n (by omega)
                        try simp (maxSteps := 2000000) only [wn] at kN1670
                        have kN1677 := kN1677 n (by omega)
                        try simp (maxSteps := 2000000) only [wn] at kN1677
                        have kN1993 := kN1993 n (by omega)
                        try simp (maxSteps := 2000000) only [wn] at kN1993
                        have kN1999 := kN1999 n (by omega)
                        try simp (maxSteps := 2000000) only [wn] at kN1999
                        have kN2307 := kN2307 n (by omega)
                        try simp (maxSteps := 2000000) only [wn] at kN2307
                        have kN2445 := kN2445 n (by omega)
                        simp (maxSteps := 2000000) only [h6l0_0, q6l0_0, wn, rc_WaterConduit] at kN2445
                        have kN2471 := kN2471 n (by omega)
                        simp (maxSteps := 2000000) only [h6l1_0, q6l1_0, wn, rc_WaterConduit, rc_WaterNode] at kN2471
                        simp (maxSteps := 2000000) only [W, reduceIte, Nat.reduceEqDiff, Nat.reduceAdd, Nat.reduceSub, Nat.reduceLT, Nat.reduceLeDiff, Nat.reduceMul, a6, a6l0, a6l1, rc_WaterConduit, rc_WaterNode, kN1518, kN1520, c1522d, kN1660, c1662d, d1663, kN1665, c1667d, d1668, kN1670, c1672d, d1673, d1674, c1675d, kN1677, kN1993, d1996, c1997d, kN1999, kN2307, d2310, d2311, d2312, d2313, d2314, d2315, d2316, d2317, c2318d, c2319d, g2321, g2322, kN2445, kN2471, @x_loopAt, wd]
                    · dsimp only at h
                      have kN2445 := k6l0_0 z0 z1 r1994 v1514 v1516 v1517 v1514 v1515 r2308 r2309 (0, (List.replicate n2320 (0 : Int))) _ g2444
                      obtain ⟨N2445, kN2445⟩ := kN2445
                      cases h
                      refine ev_call (fn := a6) rfl ⟨N1518 + N1520 + N1660 + N1665 + N1670 + N1677 + N1993 + N1999 + N2307 + N2445, fun n hn => ?_⟩
                      have kN1518 := kN1518 n (by omega)
                      have kN1520 := kN1520 n (by omega)
                      try simp (maxSteps := 2000000) only [wn] at kN1520
                      have kN1660 := kN1660 n (by omega)
                      try simp (maxSteps := 2000000) only [wn] at kN1660
                      have kN1665 := kN1665 n (by omega)
                      try simp (maxSteps := 2000000) only [wn] at kN1665
                      have kN1670 := kN1670 n (by omega)
                      try simp (maxSteps := 2000000) only [wn] at kN1670
                      have kN1677 := kN1677 n (by omega)
                      try simp (maxSteps := 2000000) only [wn] at kN1677
                      have kN1993 := kN1993 n (by omega)
                      try simp (maxSteps := 2000000) only [wn] at kN1993
                      have kN1999 := kN1999 n (by omega)
                      try simp (maxSteps := 2000000) only [wn] at kN1999
                      have kN2307 := kN2307 n (by omega)
                      try simp (maxSteps := 2000000) only [wn] at kN2307
                      have kN2445 := kN2445 n (by omega)
                      simp (maxSteps := 2000000) only [h6l0_0, q6l0_0, wn, rc_WaterConduit, rc_WaterNode] at kN2445
                      simp (maxSteps := 2000000) only [W, reduceIte, Nat.reduceEqDiff, Nat.reduceAdd, Nat.reduceSub, Nat.reduceLT, Nat.reduceLeDiff, Nat.reduceMul, a6, a6l0, a6l1, rc_WaterConduit, rc_WaterNode, kN1518, kN1520, c1522d, kN1660, c1662d, d1663, kN1665, c1667d, d1668, kN1670, c1672d, d1673, d1674, c1675d, kN1677, kN1993, d1996, c1997d, kN1999, kN2307, d2310, d2311, d2312, d2313, d2314, d2315, d2316, d2317, c2318d, c2319d, g2321, g2322, kN2445, @x_loopAt, wd]
                  · rw [if_neg c2319] at h
                    have c2319d := df c2319
                    cases h
                    refine ev_call (fn := a6) rfl ⟨N1518 + N1520 + N1660 + N1665 + N1670 + N1677 + N1993 + N1999 + N2307, fun n hn => ?_⟩
                    have kN1518 := kN1518 n (by omega)
                    have kN1520 := kN1520 n (by omega)
                    try simp (maxSteps := 2000000) only [wn] at kN1520
                    have kN1660 := kN1660 n (by omega)
                    try simp (maxSteps := 2000000) only [wn] at kN1660
                    have kN1665 := kN1665 n (by omega)
                    try simp (maxSteps := 2000000) only [wn] at kN1665
                    have kN1670 := kN1670 n (by omega)
                    try simp (maxSteps := 2000000) only [wn] at kN1670
                    have kN1677 := kN1677 n (by omega)
                    try simp (maxSteps := 2000000) only [wn] at kN1677
                    have kN1993 := kN1993 n (by omega)
                    try simp (maxSteps := 2000000) only [wn] at kN1993
                    have kN1999 := kN1999 n (by omega)
                    try simp (maxSteps := 2000000) only [wn] at kN1999
                    have kN2307 := kN2307 n (by omega)
                    try simp (maxSteps := 2000000) only [wn] at kN2307
                    simp (maxSteps := 2000000) only [W, reduceIte, Nat.reduceEqDiff, Nat.reduceAdd, Nat.reduceSub, Nat.reduceLT, Nat.reduceLeDiff, Nat.reduceMul, a6, a6l0, a6l1, rc_WaterConduit, rc_WaterNode, kN1518, kN1520, c1522d, kN1660, c1662d, d1663, kN1665, c1667d, d1668, kN1670, c1672d, d1673, d1674, c1675d, kN1677, kN1993, d1996, c1997d, kN1999, kN2307, d2310, d2311, d2312, d2313, d2314, d2315, d2316, d2317, c2318d, c2319d, @x_loopAt, wd]
                · rw [if_neg c2318] at h
                  have c2318d := df c2318
                  cases h
                  refine ev_call (fn := a6) rfl ⟨N1518 + N1520 + N1660 + N1665 + N1670 + N1677 + N1993 + N1999 + N2307, fun n hn => ?_⟩
                  have kN1518 := kN1518 n (by omega)
                  have kN1520 := kN1520 n (by omega)
                  try simp (maxSteps := 2000000) only [wn] at kN1520
                  have kN1660 := kN1660 n (by omega)
                  try simp (maxSteps := 2000000) only [wn] at kN1660
                  have kN1665 := kN1665 n (by omega)
                  try simp (maxSteps := 2000000) only [wn] at kN1665
                  have kN1670 := kN1670 n (by omega)
                  try simp (maxSteps := 2000000) only [wn] at kN1670
                  have kN1677 := kN1677 n (by omega)
                  try simp (maxSteps := 2000000) only [wn] at kN1677
                  have kN1993 := kN1993 n (by omega)
                  try simp (maxSteps := 2000000) only [wn] at kN1993
                  have kN1999 := kN1999 n (by omega)
                  try simp (maxSteps := 2000000) only [wn] at kN1999
                  have kN2307 := kN2307 n (by omega)
                  try simp (maxSteps := 2000000) only [wn] at kN2307
                  simp (maxSteps := 2000000) only [W, reduceIte, Nat.reduceEqDiff, Nat.reduceAdd, Nat.reduceSub, Nat.reduceLT, Nat.reduceLeDiff, Nat.reduceMul, a6, a6l0, a6l1, rc_WaterConduit, rc_WaterNode, kN1518, kN1520, c1522d, kN1660, c1662d, d1663, kN1665, c1667d, d1668, kN1670, c1672d, d1673, d1674, c1675d, kN1677, kN1993, d1996, c1997d, kN1999, kN2307, d2310, d2311, d2312, d2313, d2314, d2315, d2316, d2317, c2318d, @x_loopAt, wd]
              · dsimp only at h
                obtain ⟨N2307, kN2307⟩ := c40_0 true true v1514 v1516 v1517 _ g2306
                by_cases c2560 : r2559 = 0
                · rw [if_pos c2560] at h
                  have c2560d := dt c2560
                  by_cases c2561 : 0 = (v1517.length : Int)
                  · rw [if_pos c2561] at h
                    have c2561d := dt c2561
                    by_cases c2562 : 0 = (v1516.length : Int)
                    · rw [if_pos c2562] at h
                      have c2562d := dt c2562
                      obtain ⟨n2563, g2564, h⟩ := un1 h
                      try simp only [wn] at g2564
                      obtain ⟨g2565, h⟩ := un_roomd h
                      obtain ⟨g2687_, g2687, h⟩ := un1 h
                      rcases g2687_ with r2689 | r2742
                      · dsimp only at h
                        have kN2688 := k6l0_1 z0 z1 r1994 v1514 v1516 v1517 v1514 v1515 ([] : List Int) ([] : List Int) (0, (List.replicate n2563 (0 : Int))) _ g2687
                        obtain ⟨N2688, kN2688⟩ := kN2688
                        obtain ⟨g2713_, g2713, h⟩ := un1 h
                        rcases g2713_ with _ | _
                        · dsimp only at h
                          have kN2714 := k6l1_1 z0 z1 r1994 v1514 v1516 v1517 v1514 v1515 ([] : List Int) ([] : List Int) r2689 0 _ g2713
                          obtain ⟨N2714, kN2714⟩ := kN2714
                          by_cases c2715 : 0 ≤ r1994
                          · rw [if_pos c2715] at h
                            have c2715d := dt c2715
                            obtain ⟨_, g2716, h⟩ := un1 h
                            obtain ⟨N2717, kN2717⟩ := c17_0 z0 z1 v1516 v1517 g2716
                            obtain ⟨r2720, r2721, g2718, h⟩ := un2 h
                            obtain ⟨N2719, kN2719⟩ := c42_0 true true v1514 v1516 v1517 _ _ g2718
                            obtain ⟨_, g2722, h⟩ := un1 h
                            obtain ⟨N2723, kN2723⟩ := c17_0 false false v1516 v1517 g2722
                            have d2724 : inx (1 : Int) 2 = some 1 := by rfl
                            obtain ⟨r2727, r2728, g2725, h⟩ := un2 h
                            obtain ⟨N2726, kN2726⟩ := c42_0 true true v1515 v1516 v1517 _ _ g2725
                            by_cases c2729 : r2721 = 0
                            · rw [if_pos c2729] at h
                              have c2729d := dt c2729
                              by_cases c2730 : r2728 = 0
                              · rw [if_pos c2730] at h
                                have c2730d := dt c2730
                                by_cases c2731 : r2720 ≤ r2727
                                · rw [if_pos c2731] at h
                                  have c2731d := dt c2731
                                  obtain ⟨r2734, g2732, h⟩ := un1 h
                                  obtain ⟨N2733, kN2733⟩ := c20_0 r1994 0 (aw .i64 ((v1517.length : Int) - 1)) _ g2732
                                  by_cases c2735 : r2734 = true
                                  · rw [if_pos c2735] at h
                                    have c2735d := c2735
                                    obtain ⟨j2736, x2737, g2738, h⟩ := un2 h
                                    obtain ⟨g27381, g27382⟩ := geti_in g2738
                                    have g27383 := ac_WaterConduit g27382
                                    try simp only [wn] at g27381
                                    obtain ⟨r2741, g2739, h⟩ := un1 h
                                    obtain ⟨N2740, kN2740⟩ := c41_0 v1514 _ g2739
                                    cases h
                                  · rw [if_neg c2735] at h
                                    have c2735d := bf c2735
                                    cases h
                                    refine ev_call (fn := a6) rfl ⟨N1518 + N1520 + N1660 + N1665 + N1670 + N1677 + N1993 + N1999 + N2307 + N2688 + N2714 + N2717 + N2719 + N2723 + N2726 + N2733, fun n hn => ?_⟩
                                    have kN1518 := kN1518 n (by omega)
                                    have kN1520 := kN1520 n (by omega)
                                    try simp (maxSteps := 2000000) only [wn] at kN1520
                                    have kN1660 := kN1660 n (by omega)
                                    try simp (maxSteps := 2000000) only [wn] at kN1660
                                    have kN1665 := kN1665 n (by omega)
                                    try simp (maxSteps := 2000000) only [wn] at kN1665
                                    have kN1670 := kN1670 n (by omega)
                                    try simp (maxSteps := 2000000) only [wn] at kN1670
                                    have kN1677 := kN1677 n (by omega)
                                    try simp (maxSteps := 2000000) only [wn] at kN1677
                                    have kN1993 := kN1993 n (by omega)
                                    try simp (maxSteps := 2000000) only [wn] at kN1993
                                    have kN1999 := kN1999 n (by omega)
                                    try simp (maxSteps := 2000000) only [wn] at kN1999
                                    have kN2307 := kN2307 n (by omega)
                                    try simp (maxSteps := 2000000) only [wn, rc_WaterConduit, rc_WaterNode] at kN2307
                                    have kN2688 := kN2688 n (by omega)
                                    simp (maxSteps := 2000000) only [h6l0_1, q6l0_1, wn, rc_WaterConduit, rc_WaterNode] at kN2688
                                    have kN2714 := kN2714 n (by omega)
                                    simp (maxSteps := 2000000) only [h6l1_1, q6l1_1, wn, rc_WaterConduit, rc_WaterNode] at kN2714
                                    have kN2717 := kN2717 n (by omega)
                                    try simp (maxSteps := 2000000) only [wn, rc_WaterConduit, rc_WaterNode] at kN2717
                                    have kN2719 := kN2719 n (by omega)
                                    try simp (maxSteps := 2000000) only [wn, rc_WaterConduit, rc_WaterNode] at kN2719
                                    have kN2723 := kN2723 n (by omega)
                                    try simp (maxSteps := 2000000) only [wn, rc_WaterConduit, rc_WaterNode] at kN2723
                                    have kN2726 := kN2726 n (by omega)
                                    try simp (maxSteps := 2000000) only [wn, rc_WaterConduit, rc_WaterNode] at kN2726
                                    have kN2733 := kN2733 n (by omega)
                                    try simp (maxSteps := 2000000) only [wn, rc_WaterConduit, rc_WaterNode] at kN2733
                                    simp (maxSteps := 2000000) only [W, reduceIte, Nat.reduceEqDiff, Nat.reduceAdd, Nat.reduceSub, Nat.reduceLT, Nat.reduceLeDiff, Nat.reduceMul, a6, a6l0, a6l1, rc_WaterConduit, rc_WaterNode, kN1518, kN1520, c1522d, kN1660, c1662d, d1663, kN1665, c1667d, d1668, kN1670, c1672d, d1673, d1674, c1675d, kN1677, kN1993, d1996, c1997d, kN1999, kN2307, c2560d, c2561d, c2562d, g2564, g2565, kN2688, kN2714, c2715d, kN2717, kN2719, kN2723, d2724, kN2726, c2729d, c2730d, c2731d, kN2733, c2735d, @x_loopAt, wd]
                                · rw [if_neg c2731] at h
                                  have c2731d := df c2731
                                  cases h
                                  refine ev_call (fn := a6) rfl ⟨N1518 + N1520 + N1660 + N1665 + N1670 + N1677 + N1993 + N1999 + N2307 + N2688 + N2714 + N2717 + N2719 + N2723 + N2726, fun n hn => ?_⟩
                                  have kN1518 := kN1518 n (by omega)
                                  have kN1520 := kN1520 n (by omega)
                                  try simp (maxSteps := 2000000) only [wn] at kN1520
                                  have kN1660 := kN1660 n (by omega)
                                  try simp (maxSteps := 2000000) only [wn] at kN1660
                                  have kN1665 := kN1665 n (by omega)
                                  try simp (maxSteps := 2000000) only [wn] at kN1665
                                  have kN1670 := kN1670 n (by omega)
                                  try simp (maxSteps := 2000000) only [wn] at kN1670
                                  have kN1677 := kN1677 n (by omega)
                                  try simp (maxSteps := 2000000) only [wn] at kN1677
                                  have kN1993 := kN1993 n (by omega)
                                  try simp (maxSteps := 2000000) only [wn] at kN1993
                                  have kN1999 := kN1999 n (by omega)
                                  try simp (maxSteps := 2000000) only [wn] at kN1999
                                  have kN2307 := kN2307 n (by omega)
                                  try simp (maxSteps := 2000000) only [wn, rc_WaterConduit, rc_WaterNode] at kN2307
                                  have kN2688 := kN2688 n (by omega)
                                  simp (maxSteps := 2000000) only [h6l0_1, q6l0_1, wn, rc_WaterConduit, rc_WaterNode] at kN2688
                                  have kN2714 := kN2714 n (by omega)
                                  simp (maxSteps := 2000000) only [h6l1_1, q6l1_1, wn, rc_WaterConduit, rc_WaterNode] at kN2714
                                  have kN2717 := kN2717 n (by omega)
                                  try simp (maxSteps := 2000000) only [wn, rc_WaterConduit, rc_WaterNode] at kN2717
                                  have kN2719 := kN2719 n (by omega)
                                  try simp (maxSteps := 2000000) only [wn, rc_WaterConduit, rc_WaterNode] at kN2719
                                  have kN2723 := kN2723 n (by omega)
                                  try simp (maxSteps := 2000000) only [wn, rc_WaterConduit, rc_WaterNode] at kN2723
                                  have kN2726 := kN2726 n (by omega)
                                  try simp (maxSteps := 2000000) only [wn, rc_WaterConduit, rc_WaterNode] at kN2726
                                  simp (maxSteps := 2000000) only [W, reduceIte, Nat.reduceEqDiff, Nat.reduceAdd, Nat.reduceSub, Nat.reduceLT, Nat.reduceLeDiff, Nat.reduceMul, a6, a6l0, a6l1, rc_WaterConduit, rc_WaterNode, kN1518, kN1520, c1522d, kN1660, c1662d, d1663, kN1665, c1667d, d1668, kN1670, c1672d, d1673, d1674, c1675d, kN1677, kN1993, d1996, c1997d, kN1999, kN2307, c2560d, c2561d, c2562d, g2564, g2565, kN2688, kN2714, c2715d, kN2717, kN2719, kN2723, d2724, kN2726, c2729d, c2730d, c2731d, @x_loopAt, wd]
                              · rw [if_neg c2730] at h
                                have c2730d := df c2730
                                cases h
                                refine ev_call (fn := a6) rfl ⟨N1518 + N1520 + N1660 + N1665 + N1670 + N1677 + N1993 + N1999 + N2307 + N2688 + N2714 + N2717 + N2719 + N2723 + N2726, fun n hn => ?_⟩
                                have kN1518 := kN1518 n (by omega)
                                have kN1520 := kN1520 n (by omega)
                                try simp (maxSteps := 2000000) only [wn] at kN1520
                                have kN1660 := kN1660 n (by omega)
                                try simp (maxSteps := 2000000) only [wn] at kN1660
                                have kN1665 := kN1665 n (by omega)
                                try simp (maxSteps := 2000000) only [wn] at kN1665
                                have kN1670 := kN1670 n (by omega)
                                try simp (maxSteps := 2000000) only [wn] at kN1670
                                have kN1677 := kN1677 n (by omega)
                                try simp (maxSteps := 2000000) only [wn] at kN1677
                                have kN1993 := kN1993 n (by omega)
                                try simp (maxSteps := 2000000) only [wn] at kN1993
                                have kN1999 := kN1999 n (by omega)
                                try simp (maxSteps := 2000000) only [wn] at kN1999
                                have kN2307 := kN2307 n (by omega)
                                try simp (maxSteps := 2000000) only [wn, rc_WaterConduit, rc_WaterNode] at kN2307
                                have kN2688 := kN2688 n (by omega)
                                simp (maxSteps := 2000000) only [h6l0_1, q6l0_1, wn, rc_WaterConduit, rc_WaterNode] at kN2688
                                have kN2714 := kN2714 n (by omega)
                                simp (maxSteps := 2000000) only [h6l1_1, q6l1_1, wn, rc_WaterConduit, rc_WaterNode] at kN2714
                                have kN2717 := kN2717 n (by omega)
                                try simp (maxSteps := 2000000) only [wn, rc_WaterConduit, rc_WaterNode] at kN2717
                                have kN2719 := kN2719 n (by omega)
                                try simp (maxSteps := 2000000) only [wn, rc_WaterConduit, rc_WaterNode] at kN2719
                                have kN2723 := kN2723 n (by omega)
                                try simp (maxSteps := 2000000) only [wn, rc_WaterConduit, rc_WaterNode] at kN2723
                                have kN2726 := kN2726 n (by omega)
                                try simp (maxSteps := 2000000) only [wn, rc_WaterConduit, rc_WaterNode] at kN2726
                                simp (maxSteps := 2000000) only [W, reduceIte, Nat.reduceEqDiff, Nat.reduceAdd, Nat.reduceSub, Nat.reduceLT, Nat.reduceLeDiff, Nat.reduceMul, a6, a6l0, a6l1, rc_WaterConduit, rc_WaterNode, kN1518, kN1520, c1522d, kN1660, c1662d, d1663, kN1665, c1667d, d1668, kN1670, c1672d, d1673, d1674, c1675d, kN1677, kN1993, d1996, c1997d, kN1999, kN2307, c2560d, c2561d, c2562d, g2564, g2565, kN2688, kN2714, c2715d, kN2717, kN2719, kN2723, d2724, kN2726, c2729d, c2730d, @x_loopAt, wd]
                            · rw [if_neg c2729] at h
                              have c2729d := df c2729
                              cases h
                              refine ev_call (fn := a6) rfl ⟨N1518 + N1520 + N1660 + N1665 + N1670 + N1677 + N1993 + N1999 + N2307 + N2688 + N2714 + N2717 + N2719 + N2723 + N2726, fun n hn => ?_⟩
                              have kN1518 := kN1518 n (by omega)
                              have kN1520 := kN1520 n (by omega)
                              try simp (maxSteps := 2000000) only [wn] at kN1520
                              have kN1660 := kN1660 n (by omega)
                              try simp (maxSteps := 2000000) only [wn] at kN1660
                              have kN1665 := kN1665 n (by omega)
                              try simp (maxSteps := 2000000) only [wn] at kN1665
                              have kN1670 := kN1670 n (by omega)
                              try simp (maxSteps := 2000000) only [wn] at kN1670
                              have kN1677 := kN1677 n (by omega)
                              try simp (maxSteps := 2000000) only [wn] at kN1677
                              have kN1993 := kN1993 n (by omega)
                              try simp (maxSteps := 2000000) only [wn] at kN1993
                              have kN1999 := kN1999 n (by omega)
                              try simp (maxSteps := 2000000) only [wn] at kN1999
                              have kN2307 := kN2307 n (by omega)
                              try simp (maxSteps := 2000000) only [wn, rc_WaterConduit, rc_WaterNode] at kN2307
                              have kN2688 := kN2688 n (by omega)
                              simp (maxSteps := 2000000) only [h6l0_1, q6l0_1, wn, rc_WaterConduit, rc_WaterNode] at kN2688
                              have kN2714 := kN2714 n (by omega)
                              simp (maxSteps := 2000000) only [h6l1_1, q6l1_1, wn, rc_WaterConduit, rc_WaterNode] at kN2714
                              have kN2717 := kN2717 n (by omega)
                              try simp (maxSteps := 2000000) only [wn, rc_WaterConduit, rc_WaterNode] at kN2717
                              have kN2719 := kN2719 n (by omega)
                              try simp (maxSteps := 2000000) only [wn, rc_WaterConduit, rc_WaterNode] at kN2719
                              have kN2723 := kN2723 n (by omega)
                              try simp (maxSteps := 2000000) only [wn, rc_WaterConduit, rc_WaterNode] at kN2723
                              have kN2726 := kN2726 n (by omega)
                              try simp (maxSteps := 2000000) only [wn, rc_WaterConduit, rc_WaterNode] at kN2726
                              simp (maxSteps := 2000000) only [W, reduceIte, Nat.reduceEqDiff, Nat.reduceAdd, Nat.reduceSub, Nat.reduceLT, Nat.reduceLeDiff, Nat.reduceMul, a6, a6l0, a6l1, rc_WaterConduit, rc_WaterNode, kN1518, kN1520, c1522d, kN1660, c1662d, d1663, kN1665, c1667d, d1668, kN1670, c1672d, d1673, d1674, c1675d, kN1677, kN1993, d1996, c1997d, kN1999, kN2307, c2560d, c2561d, c2562d, g2564, g2565, kN2688, kN2714, c2715d, kN2717, kN2719, kN2723, d2724, kN2726, c2729d, @x_loopAt, wd]
                          · rw [if_neg c2715] at h
                            have c2715d := df c2715
                            cases h
                            refine ev_call (fn := a6) rfl ⟨N1518 + N1520 + N1660 + N1665 + N1670 + N1677 + N1993 + N1999 + N2307 + N2688 + N2714, fun n hn => ?_⟩
                            have kN1518 := kN1518 n (by omega)
                            have kN1520 := kN1520 n (by omega)
                            try simp (maxSteps := 2000000) only [wn] at kN1520
                            have kN1660 := kN1660 n (by omega)
                            try simp (maxSteps := 2000000) only [wn] at kN1660
                            have kN1665 := kN1665 n (by omega)
                            try simp (maxSteps := 2000000) only [wn] at kN1665
                            have kN1670 := kN1670 n (by omega)
                            try simp (maxSteps := 2000000) only [wn] at kN1670
                            have kN1677 := kN1677 n (by omega)
                            try simp (maxSteps := 2000000) only [wn] at kN1677
                            have kN1993 := kN1993 n (by omega)
                            try simp (maxSteps := 2000000) only [wn] at kN1993
                            have kN1999 := kN1999 n (by omega)
                            try simp (maxSteps := 2000000) only [wn] at kN1999
                            have kN2307 := kN2307 n (by omega)
                            try simp (maxSteps := 2000000) only [wn, rc_WaterConduit, rc_WaterNode] at kN2307
                            have kN2688 := kN2688 n (by omega)
                            simp (maxSteps := 2000000) only [h6l0_1, q6l0_1, wn, rc_WaterConduit, rc_WaterNode] at kN2688
                            have kN2714 := kN2714 n (by omega)
                            simp (maxSteps := 2000000) only [h6l1_1, q6l1_1, wn, rc_WaterConduit, rc_WaterNode] at kN2714
                            simp (maxSteps := 2000000) only [W, reduceIte, Nat.reduceEqDiff, Nat.reduceAdd, Nat.reduceSub, Nat.reduceLT, Nat.reduceLeDiff, Nat.reduceMul, a6, a6l0, a6l1, rc_WaterConduit, rc_WaterNode, kN1518, kN1520, c1522d, kN1660, c1662d, d1663, kN1665, c1667d, d1668, kN1670, c1672d, d1673, d1674, c1675d, kN1677, kN1993, d1996, c1997d, kN1999, kN2307, c2560d, c2561d, c2562d, g2564, g2565, kN2688, kN2714, c2715d, @x_loopAt, wd]
                        · dsimp only at h
                          have kN2714 := k6l1_1 z0 z1 r1994 v1514 v1516 v1517 v1514 v1515 ([] : List Int) ([] : List Int) r2689 0 _ g2713
                          obtain ⟨N2714, kN2714⟩ := kN2714
                          cases h
                          refine ev_call (fn := a6) rfl ⟨N1518 + N1520 + N1660 + N1665 + N1670 + N1677 + N1993 + N1999 + N2307 + N2688 + N2714, fun n hn => ?_⟩
                          have kN1518 := kN1518 n (by omega)
                          have kN1520 := kN1520 n (by omega)
                          try simp (maxSteps := 2000000) only [wn] at kN1520
                          have kN1660 := kN1660 n (by omega)
                          try simp (maxSteps := 2000000) only [wn] at kN1660
                          have kN1665 := kN1665 n (by omega)
                          try simp (maxSteps := 2000000) only [wn] at kN1665
                          have kN1670 := kN1670 n (by omega)
                          try simp (maxSteps := 2000000) only [wn] at kN1670
                          have kN1677 := kN1677 n (by omega)
                          try simp (maxSteps := 2000000) only [wn] at kN1677
                          have kN1993 := kN1993 n (by omega)
                          try simp (maxSteps := 2000000) only [wn] at kN1993
                          have kN1999 := kN1999 n (by omega)
                          try simp (maxSteps := 2000000) only [wn] at kN1999
                          have kN2307 := kN2307 n (by omega)
                          try simp (maxSteps := 2000000) only [wn, rc_WaterConduit, rc_WaterNode] at kN2307
                          have kN2688 := kN2688 n (by omega)
                          simp (maxSteps := 2000000) only [h6l0_1, q6l0_1, wn, rc_WaterConduit, rc_WaterNode] at kN2688
                          have kN2714 := kN2714 n (by omega)
                          simp (maxSteps := 2000000) only [h6l1_1, q6l1_1, wn, rc_WaterConduit, rc_WaterNode] at kN2714
                          simp (maxSteps := 2000000) only [W, reduceIte, Nat.reduceEqDiff, Nat.reduceAdd, Nat.reduceSub, Nat.reduceLT, Nat.reduceLeDiff, Nat.reduceMul, a6, a6l0, a6l1, rc_WaterConduit, rc_WaterNode, kN1518, kN1520, c1522d, kN1660, c1662d, d1663, kN1665, c1667d, d1668, kN1670, c1672d, d1673, d1674, c1675d, kN1677, kN1993, d1996, c1997d, kN1999, kN2307, c2560d, c2561d, c2562d, g2564, g2565, kN2688, kN2714, @x_loopAt, wd]
                      · dsimp only at h
                        have kN2688 := k6l0_1 z0 z1 r1994 v1514 v1516 v1517 v1514 v1515 ([] : List Int) ([] : List Int) (0, (List.replicate n2563 (0 : Int))) _ g2687
                        obtain ⟨N2688, kN2688⟩ := kN2688
                        cases h
                        refine ev_call (fn := a6) rfl ⟨N1518 + N1520 + N1660 + N1665 + N1670 + N1677 + N1993 + N1999 + N2307 + N2688, fun n hn => ?_⟩
                        have kN1518 := kN1518 n (by omega)
                        have kN1520 := kN1520 n (by omega)
                        try simp (maxSteps := 2000000) only [wn] at kN1520
                        have kN1660 := kN1660 n (by omega)
                        try simp (maxSteps := 2000000) only [wn] at kN1660
                        have kN1665 := kN1665 n (by omega)
                        try simp (maxSteps := 2000000) only [wn] at kN1665
                        have kN1670 := kN1670 n (by omega)
                        try simp (maxSteps := 2000000) only [wn] at kN1670
                        have kN1677 := kN1677 n (by omega)
                        try simp (maxSteps := 2000000) only [wn] at kN1677
                        have kN1993 := kN1993 n (by omega)
                        try simp (maxSteps := 2000000) only [wn] at kN1993
                        have kN1999 := kN1999 n (by omega)
                        try simp (maxSteps := 2000000) only [wn] at kN1999
                        have kN2307 := kN2307 n (by omega)
                        try simp (maxSteps := 2000000) only [wn, rc_WaterConduit, rc_WaterNode] at kN2307
                        have kN2688 := kN2688 n (by omega)
                        simp (maxSteps := 2000000) only [h6l0_1, q6l0_1, wn, rc_WaterConduit, rc_WaterNode] at kN2688
                        simp (maxSteps := 2000000) only [W, reduceIte, Nat.reduceEqDiff, Nat.reduceAdd, Nat.reduceSub, Nat.reduceLT, Nat.reduceLeDiff, Nat.reduceMul, a6, a6l0, a6l1, rc_WaterConduit, rc_WaterNode, kN1518, kN1520, c1522d, kN1660, c1662d, d1663, kN1665, c1667d, d1668, kN1670, c1672d, d1673, d1674, c1675d, kN1677, kN1993, d1996, c1997d, kN1999, kN2307, c2560d, c2561d, c2562d, g2564, g2565, kN2688, @x_loopAt, wd]
                    · rw [if_neg c2562] at h
                      have c2562d := df c2562
                      cases h
                      refine ev_call (fn := a6) rfl ⟨N1518 + N1520 + N1660 + N1665 + N1670 + N1677 + N1993 + N1999 + N2307, fun n hn => ?_⟩
                      have kN1518 := kN1518 n (by omega)
                      have kN1520 := kN1520 n (by omega)
                      try simp (maxSteps := 2000000) only [wn] at kN1520
                      have kN1660 := kN1660 n (by omega)
                      try simp (maxSteps := 2000000) only [wn] at kN1660
                      have kN1665 := kN1665 n (by omega)
                      try simp (maxSteps := 2000000) only [wn] at kN1665
                      have kN1670 := kN1670 n (by omega)
                      try simp (maxSteps := 2000000) only [wn] at kN1670
                      have kN1677 := kN1677 n (by omega)
                      try simp (maxSteps := 2000000) only [wn] at kN1677
                      have kN1993 := kN1993 n (by omega)
                      try simp (maxSteps := 2000000) only [wn] at kN1993
                      have kN1999 := kN1999 n (by omega)
                      try simp (maxSteps := 2000000) only [wn] at kN1999
                      have kN2307 := kN2307 n (by omega)
                      try simp (maxSteps := 2000000) only [wn, rc_WaterConduit, rc_WaterNode] at kN2307
                      simp (maxSteps := 2000000) only [W, reduceIte, Nat.reduceEqDiff, Nat.reduceAdd, Nat.reduceSub, Nat.reduceLT, Nat.reduceLeDiff, Nat.reduceMul, a6, a6l0, a6l1, rc_WaterConduit, rc_WaterNode, kN1518, kN1520, c1522d, kN1660, c1662d, d1663, kN1665, c1667d, d1668, kN1670, c1672d, d1673, d1674, c1675d, kN1677, kN1993, d1996, c1997d, kN1999, kN2307, c2560d, c2561d, c2562d, @x_loopAt, wd]
                  · rw [if_neg c2561] at h
                    have c2561d := df c2561
                    cases h
                    refine ev_call (fn := a6) rfl ⟨N1518 + N1520 + N1660 + N1665 + N1670 + N1677 + N1993 + N1999 + N2307, fun n hn => ?_⟩
                    have kN1518 := kN1518 n (by omega)
                    have kN1520 := kN1520 n (by omega)
                    try simp (maxSteps := 2000000) only [wn] at kN1520
                    have kN1660 := kN1660 n (by omega)
                    try simp (maxSteps := 2000000) only [wn] at kN1660
                    have kN1665 := kN1665 n (by omega)
                    try simp (maxSteps := 2000000) only [wn] at kN1665
                    have kN1670 := kN1670 n (by omega)
                    try simp (maxSteps := 2000000) only [wn] at kN1670
                    have kN1677 := kN1677 n (by omega)
                    try simp (maxSteps := 2000000) only [wn] at kN1677
                    have kN1993 := kN1993 n (by omega)
                    try simp (maxSteps := 2000000) only [wn] at kN1993
                    have kN1999 := kN1999 n (by omega)
                    try simp (maxSteps := 2000000) only [wn] at kN1999
                    have kN2307 := kN2307 n (by omega)
                    try simp (maxSteps := 2000000) only [wn, rc_WaterConduit, rc_WaterNode] at kN2307
                    simp (maxSteps := 2000000) only [W, reduceIte, Nat.reduceEqDiff, Nat.reduceAdd, Nat.reduceSub, Nat.reduceLT, Nat.reduceLeDiff, Nat.reduceMul, a6, a6l0, a6l1, rc_WaterConduit, rc_WaterNode, kN1518, kN1520, c1522d, kN1660, c1662d, d1663, kN1665, c1667d, d1668, kN1670, c1672d, d1673, d1674, c1675d, kN1677, kN1993, d1996, c1997d, kN1999, kN2307, c2560d, c2561d, @x_loopAt, wd]
                · rw [if_neg c2560] at h
                  have c2560d := df c2560
                  cases h
                  refine ev_call (fn := a6) rfl ⟨N1518 + N1520 + N1660 + N1665 + N1670 + N1677 + N1993 + N1999 + N2307, fun n hn => ?_⟩
                  have kN1518 := kN1518 n (by omega)
                  have kN1520 := kN1520 n (by omega)
                  try simp (maxSteps := 2000000) only [wn] at kN1520
                  have kN1660 := kN1660 n (by omega)
                  try simp (maxSteps := 2000000) only [wn] at kN1660
                  have kN1665 := kN1665 n (by omega)
                  try simp (maxSteps := 2000000) only [wn] at kN1665
                  have kN1670 := kN1670 n (by omega)
                  try simp (maxSteps := 2000000) only [wn] at kN1670
                  have kN1677 := kN1677 n (by omega)
                  try simp (maxSteps := 2000000) only [wn] at kN1677
                  have kN1993 := kN1993 n (by omega)
                  try simp (maxSteps := 2000000) only [wn] at kN1993
                  have kN1999 := kN1999 n (by omega)
                  try simp (maxSteps := 2000000) only [wn] at kN1999
                  have kN2307 := kN2307 n (by omega)
                  try simp (maxSteps := 2000000) only [wn, rc_WaterConduit, rc_WaterNode] at kN2307
                  simp (maxSteps := 2000000) only [W, reduceIte, Nat.reduceEqDiff, Nat.reduceAdd, Nat.reduceSub, Nat.reduceLT, Nat.reduceLeDiff, Nat.reduceMul, a6, a6l0, a6l1, rc_WaterConduit, rc_WaterNode, kN1518, kN1520, c1522d, kN1660, c1662d, d1663, kN1665, c1667d, d1668, kN1670, c1672d, d1673, d1674, c1675d, kN1677, kN1993, d1996, c1997d, kN1999, kN2307, c2560d, @x_loopAt, wd]
            · rw [if_neg c1997] at h
              have c1997d := df c1997
              obtain ⟨_, g2743, h⟩ := un1 h
              obtain ⟨N2744, kN2744⟩ := c17_0 z0 z1 v1516 v1517 g2743
              obtain ⟨g2745_, g2745, h⟩ := un1 h
              rcases g2745_ with ⟨r2747, r2748⟩ | r2770
              · dsimp only at h
                obtain ⟨N2746, kN2746⟩ := c40_0 true true 0 v1516 v1517 _ g2745
                by_cases c2749 : r1995 = 12
                · rw [if_pos c2749] at h
                  have c2749d := dt c2749
                  have d2750 : (decide ((0 : Int) = 0)) = true := by decide
                  have d2751 : (decide ((0 : Int) = 0)) = true := by decide
                  have d2752 : (decide ((0 : Int) = 0)) = true := by decide
                  have d2753 : (decide ((0 : Int) = 0)) = true := by decide
                  have d2754 : (decide ((0 : Int) = 0)) = true := by decide
                  have d2755 : (decide ((0 : Int) = 0)) = true := by decide
                  have d2756 : (decide ((0 : Int) = 0)) = true := by decide
                  have d2757 : (decide ((0 : Int) = 0)) = true := by decide
                  by_cases c2758 : (r2747.length : Int) = (v1517.length : Int)
                  · rw [if_pos c2758] at h
                    have c2758d := dt c2758
                    by_cases c2759 : (r2748.length : Int) = (v1516.length : Int)
                    · rw [if_pos c2759] at h
                      have c2759d := dt c2759
                      obtain ⟨n2760, g2761, h⟩ := un1 h
                      try simp only [wn] at g2761
                      obtain ⟨g2762, h⟩ := un_roomd h
                      obtain ⟨g2763_, g2763, h⟩ := un1 h
                      rcases g2763_ with r2765 | r2769
                      · dsimp only at h
                        have kN2764 := k6l0_0 z0 z1 (-1) 0 v1516 v1517 v1514 v1515 r2747 r2748 (0, (List.replicate n2760 (0 : Int))) _ g2763
                        obtain ⟨N2764, kN2764⟩ := kN2764
                        obtain ⟨g2766_, g2766, h⟩ := un1 h
                        rcases g2766_ with _ | _
                        · dsimp only at h
                          have kN2767 := k6l1_0 z0 z1 (-1) 0 v1516 v1517 v1514 v1515 r2747 r2748 r2765 0 _ g2766
                          obtain ⟨N2767, kN2767⟩ := kN2767
                          have d2768 : (decide ((0 : Int) ≤ (-1))) = false := by decide
                          cases h
                          refine ev_call (fn := a6) rfl ⟨N1518 + N1520 + N1660 + N1665 + N1670 + N1677 + N1993 + N2744 + N2746 + N2764 + N2767, fun n hn => ?_⟩
                          have kN1518 := kN1518 n (by omega)
                          have kN1520 := kN1520 n (by omega)
                          try simp (maxSteps := 2000000) only [wn] at kN1520
                          have kN1660 := kN1660 n (by omega)
                          try simp (maxSteps := 2000000) only [wn] at kN1660
                          have kN1665 := kN1665 n (by omega)
                          try simp (maxSteps := 2000000) only [wn] at kN1665
                          have kN1670 := kN1670 n (by omega)
                          try simp (maxSteps := 2000000) only [wn] at kN1670
                          have kN1677 := kN1677 n (by omega)
                          try simp (maxSteps := 2000000) only [wn] at kN1677
                          have kN1993 := kN1993 n (by omega)
                          try simp (maxSteps := 2000000) only [wn] at kN1993
                          have kN2744 := kN2744 n (by omega)
                          try simp (maxSteps := 2000000) only [wn, rc_WaterConduit, rc_WaterNode] at kN2744
                          have kN2746 := kN2746 n (by omega)
                          try simp (maxSteps := 2000000) only [wn, rc_WaterConduit, rc_WaterNode] at kN2746
                          have kN2764 := kN2764 n (by omega)
                          simp (maxSteps := 2000000) only [h6l0_0, q6l0_0, wn, rc_WaterConduit, rc_WaterNode] at kN2764
                          have kN2767 := kN2767 n (by omega)
                          simp (maxSteps := 2000000) only [h6l1_0, q6l1_0, wn, rc_WaterConduit, rc_WaterNode] at kN2767
                          simp (maxSteps := 2000000) only [W, reduceIte, Nat.reduceEqDiff, Nat.reduceAdd, Nat.reduceSub, Nat.reduceLT, Nat.reduceLeDiff, Nat.reduceMul, a6, a6l0, a6l1, rc_WaterConduit, rc_WaterNode, kN1518, kN1520, c1522d, kN1660, c1662d, d1663, kN1665, c1667d, d1668, kN1670, c1672d, d1673, d1674, c1675d, kN1677, kN1993, d1996, c1997d, kN2744, kN2746, c2749d, d2750, d2751, d2752, d2753, d2754, d2755, d2756, d2757, c2758d, c2759d, g2761, g2762, kN2764, kN2767, d2768, @x_loopAt, wd]
                        · dsimp only at h
                          have kN2767 := k6l1_0 z0 z1 (-1) 0 v1516 v1517 v1514 v1515 r2747 r2748 r2765 0 _ g2766
                          obtain ⟨N2767, kN2767⟩ := kN2767
                          cases h
                          refine ev_call (fn := a6) rfl ⟨N1518 + N1520 + N1660 + N1665 + N1670 + N1677 + N1993 + N2744 + N2746 + N2764 + N2767, fun n hn => ?_⟩
                          have kN1518 := kN1518 n (by omega)
                          have kN1520 := kN1520 n (by omega)
                          try simp (maxSteps := 2000000) only [wn] at kN1520
                          have kN1660 := kN1660 n (by omega)
                          try simp (maxSteps := 2000000) only [wn] at kN1660
                          have kN1665 := kN1665 n (by omega)
                          try simp (maxSteps := 2000000) only [wn] at kN1665
                          have kN1670 := kN1670 n (by omega)
                          try simp (maxSteps := 2000000) only [wn] at kN1670
                          have kN1677 := kN1677 n (by omega)
                          try simp (maxSteps := 2000000) only [wn] at kN1677
                          have kN1993 := kN1993 n (by omega)
                          try simp (maxSteps := 2000000) only [wn] at kN1993
                          have kN2744 := kN2744 n (by omega)
                          try simp (maxSteps := 2000000) only [wn, rc_WaterConduit, rc_WaterNode] at kN2744
                          have kN2746 := kN2746 n (by omega)
                          try simp (maxSteps := 2000000) only [wn, rc_WaterConduit, rc_WaterNode] at kN2746
                          have kN2764 := kN2764 n (by omega)
                          simp (maxSteps := 2000000) only [h6l0_0, q6l0_0, wn, rc_WaterConduit, rc_WaterNode] at kN2764
                          have kN2767 := kN2767 n (by omega)
                          simp (maxSteps := 2000000) only [h6l1_0, q6l1_0, wn, rc_WaterConduit, rc_WaterNode] at kN2767
                          simp (maxSteps := 2000000) only [W, reduceIte, Nat.reduceEqDiff, Nat.reduceAdd, Nat.reduceSub, Nat.reduceLT, Nat.reduceLeDiff, Nat.reduceMul, a6, a6l0, a6l1, rc_WaterConduit, rc_WaterNode, kN1518, kN1520, c1522d, kN1660, c1662d, d1663, kN1665, c1667d, d1668, kN1670, c1672d, d1673, d1674, c1675d, kN1677, kN1993, d1996, c1997d, kN2744, kN2746, c2749d, d2750, d2751, d2752, d2753, d2754, d2755, d2756, d2757, c2758d, c2759d, g2761, g2762, kN2764, kN2767, @x_loopAt, wd]
                      · dsimp only at h
                        have kN2764 := k6l0_0 z0 z1 (-1) 0 v1516 v1517 v1514 v1515 r2747 r2748 (0, (List.replicate n2760 (0 : Int))) _ g2763
                        obtain ⟨N2764, kN2764⟩ := kN2764
                        cases h
                        refine ev_call (fn := a6) rfl ⟨N1518 + N1520 + N1660 + N1665 + N1670 + N1677 + N1993 + N2744 + N2746 + N2764, fun n hn => ?_⟩
                        have kN1518 := kN1518 n (by omega)
                        have kN1520 := kN1520 n (by omega)
                        try simp (maxSteps := 2000000) only [wn] at kN1520
                        have kN1660 := kN1660 n (by omega)
                        try simp (maxSteps := 2000000) only [wn] at kN1660
                        have kN1665 := kN1665 n (by omega)
                        try simp (maxSteps := 2000000) only [wn] at kN1665
                        have kN1670 := kN1670 n (by omega)
                        try simp (maxSteps := 2000000) only [wn] at kN1670
                        have kN1677 := kN1677 n (by omega)
                        try simp (maxSteps := 2000000) only [wn] at kN1677
                        have kN1993 := kN1993 n (by omega)
                        try simp (maxSteps := 2000000) only [wn] at kN1993
                        have kN2744 := kN2744 n (by omega)
                        try simp (maxSteps := 2000000) only [wn, rc_WaterConduit, rc_WaterNode] at kN2744
                        have kN2746 := kN2746 n (by omega)
                        try simp (maxSteps := 2000000) only [wn, rc_WaterConduit, rc_WaterNode] at kN2746
                        have kN2764 := kN2764 n (by omega)
                        simp (maxSteps := 2000000) only [h6l0_0, q6l0_0, wn, rc_WaterConduit, rc_WaterNode] at kN2764
                        simp (maxSteps := 2000000) only [W, reduceIte, Nat.reduceEqDiff, Nat.reduceAdd, Nat.reduceSub, Nat.reduceLT, Nat.reduceLeDiff, Nat.reduceMul, a6, a6l0, a6l1, rc_WaterConduit, rc_WaterNode, kN1518, kN1520, c1522d, kN1660, c1662d, d1663, kN1665, c1667d, d1668, kN1670, c1672d, d1673, d1674, c1675d, kN1677, kN1993, d1996, c1997d, kN2744, kN2746, c2749d, d2750, d2751, d2752, d2753, d2754, d2755, d2756, d2757, c2758d, c2759d, g2761, g2762, kN2764, @x_loopAt, wd]
                    · rw [if_neg c2759] at h
                      have c2759d := df c2759
                      cases h
                      refine ev_call (fn := a6) rfl ⟨N1518 + N1520 + N1660 + N1665 + N1670 + N1677 + N1993 + N2744 + N2746, fun n hn => ?_⟩
                      have kN1518 := kN1518 n (by omega)
                      have kN1520 := kN1520 n (by omega)
                      try simp (maxSteps := 2000000) only [wn] at kN1520
                      have kN1660 := kN1660 n (by omega)
                      try simp (maxSteps := 2000000) only [wn] at kN1660
                      have kN1665 := kN1665 n (by omega)
                      try simp (maxSteps := 2000000) only [wn] at kN1665
                      have kN1670 := kN1670 n (by omega)
                      try simp (maxSteps := 2000000) only [wn] at kN1670
                      have kN1677 := kN1677 n (by omega)
                      try simp (maxSteps := 2000000) only [wn] at kN1677
                      have kN1993 := kN1993 n (by omega)
                      try simp (maxSteps := 2000000) only [wn] at kN1993
                      have kN2744 := kN2744 n (by omega)
                      try simp (maxSteps := 2000000) only [wn, rc_WaterConduit, rc_WaterNode] at kN2744
                      have kN2746 := kN2746 n (by omega)
                      try simp (maxSteps := 2000000) only [wn, rc_WaterConduit, rc_WaterNode] at kN2746
                      simp (maxSteps := 2000000) only [W, reduceIte, Nat.reduceEqDiff, Nat.reduceAdd, Nat.reduceSub, Nat.reduceLT, Nat.reduceLeDiff, Nat.reduceMul, a6, a6l0, a6l1, rc_WaterConduit, rc_WaterNode, kN1518, kN1520, c1522d, kN1660, c1662d, d1663, kN1665, c1667d, d1668, kN1670, c1672d, d1673, d1674, c1675d, kN1677, kN1993, d1996, c1997d, kN2744, kN2746, c2749d, d2750, d2751, d2752, d2753, d2754, d2755, d2756, d2757, c2758d, c2759d, @x_loopAt, wd]
                  · rw [if_neg c2758] at h
                    have c2758d := df c2758
                    cases h
                    refine ev_call (fn := a6) rfl ⟨N1518 + N1520 + N1660 + N1665 + N1670 + N1677 + N1993 + N2744 + N2746, fun n hn => ?_⟩
                    have kN1518 := kN1518 n (by omega)
                    have kN1520 := kN1520 n (by omega)
                    try simp (maxSteps := 2000000) only [wn] at kN1520
                    have kN1660 := kN1660 n (by omega)
                    try simp (maxSteps := 2000000) only [wn] at kN1660
                    have kN1665 := kN1665 n (by omega)
                    try simp (maxSteps := 2000000) only [wn] at kN1665
                    have kN1670 := kN1670 n (by omega)
                    try simp (maxSteps := 2000000) only [wn] at kN1670
                    have kN1677 := kN1677 n (by omega)
                    try simp (maxSteps := 2000000) only [wn] at kN1677
                    have kN1993 := kN1993 n (by omega)
                    try simp (maxSteps := 2000000) only [wn] at kN1993
                    have kN2744 := kN2744 n (by omega)
                    try simp (maxSteps := 2000000) only [wn, rc_WaterConduit, rc_WaterNode] at kN2744
                    have kN2746 := kN2746 n (by omega)
                    try simp (maxSteps := 2000000) only [wn, rc_WaterConduit, rc_WaterNode] at kN2746
                    simp (maxSteps := 2000000) only [W, reduceIte, Nat.reduceEqDiff, Nat.reduceAdd, Nat.reduceSub, Nat.reduceLT, Nat.reduceLeDiff, Nat.reduceMul, a6, a6l0, a6l1, rc_WaterConduit, rc_WaterNode, kN1518, kN1520, c1522d, kN1660, c1662d, d1663, kN1665, c1667d, d1668, kN1670, c1672d, d1673, d1674, c1675d, kN1677, kN1993, d1996, c1997d, kN2744, kN2746, c2749d, d2750, d2751, d2752, d2753, d2754, d2755, d2756, d2757, c2758d, @x_loopAt, wd]
                · rw [if_neg c2749] at h
                  have c2749d := df c2749
                  cases h
                  refine ev_call (fn := a6) rfl ⟨N1518 + N1520 + N1660 + N1665 + N1670 + N1677 + N1993 + N2744 + N2746, fun n hn => ?_⟩
                  have kN1518 := kN1518 n (by omega)
                  have kN1520 := kN1520 n (by omega)
                  try simp (maxSteps := 2000000) only [wn] at kN1520
                  have kN1660 := kN1660 n (by omega)
                  try simp (maxSteps := 2000000) only [wn] at kN1660
                  have kN1665 := kN1665 n (by omega)
                  try simp (maxSteps := 2000000) only [wn] at kN1665
                  have kN1670 := kN1670 n (by omega)
                  try simp (maxSteps := 2000000) only [wn] at kN1670
                  have kN1677 := kN1677 n (by omega)
                  try simp (maxSteps := 2000000) only [wn] at kN1677
                  have kN1993 := kN1993 n (by omega)
                  try simp (maxSteps := 2000000) only [wn] at kN1993
                  have kN2744 := kN2744 n (by omega)
                  try simp (maxSteps := 2000000) only [wn, rc_WaterConduit, rc_WaterNode] at kN2744
                  have kN2746 := kN2746 n (by omega)
                  try simp (maxSteps := 2000000) only [wn, rc_WaterConduit, rc_WaterNode] at kN2746
                  simp (maxSteps := 2000000) only [W, reduceIte, Nat.reduceEqDiff, Nat.reduceAdd, Nat.reduceSub, Nat.reduceLT, Nat.reduceLeDiff, Nat.reduceMul, a6, a6l0, a6l1, rc_WaterConduit, rc_WaterNode, kN1518, kN1520, c1522d, kN1660, c1662d, d1663, kN1665, c1667d, d1668, kN1670, c1672d, d1673, d1674, c1675d, kN1677, kN1993, d1996, c1997d, kN2744, kN2746, c2749d, @x_loopAt, wd]
              · dsimp only at h
                obtain ⟨N2746, kN2746⟩ := c40_0 true true 0 v1516 v1517 _ g2745
                by_cases c2771 : r1995 = 12
                · rw [if_pos c2771] at h
                  have c2771d := dt c2771
                  by_cases c2772 : r2770 = 0
                  · rw [if_pos c2772] at h
                    have c2772d := dt c2772
                    by_cases c2773 : 0 = (v1517.length : Int)
                    · rw [if_pos c2773] at h
                      have c2773d := dt c2773
                      by_cases c2774 : 0 = (v1516.length : Int)
                      · rw [if_pos c2774] at h
                        have c2774d := dt c2774
                        obtain ⟨n2775, g2776, h⟩ := un1 h
                        try simp only [wn] at g2776
                        obtain ⟨g2777, h⟩ := un_roomd h
                        obtain ⟨g2778_, g2778, h⟩ := un1 h
                        rcases g2778_ with r2780 | r2784
                        · dsimp only at h
                          have kN2779 := k6l0_1 z0 z1 (-1) 0 v1516 v1517 v1514 v1515 ([] : List Int) ([] : List Int) (0, (List.replicate n2775 (0 : Int))) _ g2778
                          obtain ⟨N2779, kN2779⟩ := kN2779
                          obtain ⟨g2781_, g2781, h⟩ := un1 h
                          rcases g2781_ with _ | _
                          · dsimp only at h
                            have kN2782 := k6l1_1 z0 z1 (-1) 0 v1516 v1517 v1514 v1515 ([] : List Int) ([] : List Int) r2780 0 _ g2781
                            obtain ⟨N2782, kN2782⟩ := kN2782
                            have d2783 : (decide ((0 : Int) ≤ (-1))) = false := by decide
                            cases h
                            refine ev_call (fn := a6) rfl ⟨N1518 + N1520 + N1660 + N1665 + N1670 + N1677 + N1993 + N2744 + N2746 + N2779 + N2782, fun n hn => ?_⟩
                            have kN1518 := kN1518 n (by omega)
                            have kN1520 := kN1520 n (by omega)
                            try simp (maxSteps := 2000000) only [wn] at kN1520
                            have kN1660 := kN1660 n (by omega)
                            try simp (maxSteps := 2000000) only [wn] at kN1660
                            have kN1665 := kN1665 n (by omega)
                            try simp (maxSteps := 2000000) only [wn] at kN1665
                            have kN1670 := kN1670 n (by omega)
                            try simp (maxSteps := 2000000) only [wn] at kN1670
                            have kN1677 := kN1677 n (by omega)
                            try simp (maxSteps := 2000000) only [wn] at kN1677
                            have kN1993 := kN1993 n (by omega)
                            try simp (maxSteps := 2000000) only [wn] at kN1993
                            have kN2744 := kN2744 n (by omega)
                            try simp (maxSteps := 2000000) only [wn, rc_WaterConduit, rc_WaterNode] at kN2744
                            have kN2746 := kN2746 n (by omega)
                            try simp (maxSteps := 2000000) only [wn, rc_WaterConduit, rc_WaterNode] at kN2746
                            have kN2779 := kN2779 n (by omega)
                            simp (maxSteps := 2000000) only [h6l0_1, q6l0_1, wn, rc_WaterConduit, rc_WaterNode] at kN2779
                            have kN2782 := kN2782 n (by omega)
                            simp (maxSteps := 2000000) only [h6l1_1, q6l1_1, wn, rc_WaterConduit, rc_WaterNode] at kN2782
                            simp (maxSteps := 2000000) only [W, reduceIte, Nat.reduceEqDiff, Nat.reduceAdd, Nat.reduceSub, Nat.reduceLT, Nat.reduceLeDiff, Nat.reduceMul, a6, a6l0, a6l1, rc_WaterConduit, rc_WaterNode, kN1518, kN1520, c1522d, kN1660, c1662d, d1663, kN1665, c1667d, d1668, kN1670, c1672d, d1673, d1674, c1675d, kN1677, kN1993, d1996, c1997d, kN2744, kN2746, c2771d, c2772d, c2773d, c2774d, g2776, g2777, kN2779, kN2782, d2783, @x_loopAt, wd]
                          · dsimp only at h
                            have kN2782 := k6l1_1 z0 z1 (-1) 0 v1516 v1517 v1514 v1515 ([] : List Int) ([] : List Int) r2780 0 _ g2781
                            obtain ⟨N2782, kN2782⟩ := kN2782
                            cases h
                            refine ev_call (fn := a6) rfl ⟨N1518 + N1520 + N1660 + N1665 + N1670 + N1677 + N1993 + N2744 + N2746 + N2779 + N2782, fun n hn => ?_⟩
                            have kN1518 := kN1518 n (by omega)
                            have kN1520 := kN1520 n (by omega)
                            try simp (maxSteps := 2000000) only [wn] at kN1520
                            have kN1660 := kN1660 n (by omega)
                            try simp (maxSteps := 2000000) only [wn] at kN1660
                            have kN1665 := kN1665 n (by omega)
                            try simp (maxSteps := 2000000) only [wn] at kN1665
                            have kN1670 := kN1670 n (by omega)
                            try simp (maxSteps := 2000000) only [wn] at kN1670
                            have kN1677 := kN1677 n (by omega)
                            try simp (maxSteps := 2000000) only [wn] at kN1677
                            have kN1993 := kN1993 n (by omega)
                            try simp (maxSteps := 2000000) only [wn] at kN1993
                            have kN2744 := kN2744 n (by omega)
                            try simp (maxSteps := 2000000) only [wn, rc_WaterConduit, rc_WaterNode] at kN2744
                            have kN2746 := kN2746 n (by omega)
                            try simp (maxSteps := 2000000) only [wn, rc_WaterConduit, rc_WaterNode] at kN2746
                            have kN2779 := kN2779 n (by omega)
                            simp (maxSteps := 2000000) only [h6l0_1, q6l0_1, wn, rc_WaterConduit, rc_WaterNode] at kN2779
                            have kN2782 := kN2782 n (by omega)
                            simp (maxSteps := 2000000) only [h6l1_1, q6l1_1, wn, rc_WaterConduit, rc_WaterNode] at kN2782
                            simp (maxSteps := 2000000) only [W, reduceIte, Nat.reduceEqDiff, Nat.reduceAdd, Nat.reduceSub, Nat.reduceLT, Nat.reduceLeDiff, Nat.reduceMul, a6, a6l0, a6l1, rc_WaterConduit, rc_WaterNode, kN1518, kN1520, c1522d, kN1660, c1662d, d1663, kN1665, c1667d, d1668, kN1670, c1672d, d1673, d1674, c1675d, kN1677, kN1993, d1996, c1997d, kN2744, kN2746, c2771d, c2772d, c2773d, c2774d, g2776, g2777, kN2779, kN2782, @x_loopAt, wd]
                        · dsimp only at h
                          have kN2779 := k6l0_1 z0 z1 (-1) 0 v1516 v1517 v1514 v1515 ([] : List Int) ([] : List Int) (0, (List.replicate n2775 (0 : Int))) _ g2778
                          obtain ⟨N2779, kN2779⟩ := kN2779
                          cases h
                          refine ev_call (fn := a6) rfl ⟨N1518 + N1520 + N1660 + N1665 + N1670 + N1677 + N1993 + N2744 + N2746 + N2779, fun n hn => ?_⟩
                          have kN1518 := kN1518 n (by omega)
                          have kN1520 := kN1520 n (by omega)
                          try simp (maxSteps := 2000000) only [wn] at kN1520
                          have kN1660 := kN1660 n (by omega)
                          try simp (maxSteps := 2000000) only [wn] at kN1660
                          have kN1665 := kN1665 n (by omega)
                          try simp (maxSteps := 2000000) only [wn] at kN1665
                          have kN1670 := kN1670 n (by omega)
                          try simp (maxSteps := 2000000) only [wn] at kN1670
                          have kN1677 := kN1677 n (by omega)
                          try simp (maxSteps := 2000000) only [wn] at kN1677
                          have kN1993 := kN1993 n (by omega)
                          try simp (maxSteps := 2000000) only [wn] at kN1993
                          have kN2744 := kN2744 n (by omega)
                          try simp (maxSteps := 2000000) only [wn, rc_WaterConduit, rc_WaterNode] at kN2744
                          have kN2746 := kN2746 n (by omega)
                          try simp (maxSteps := 2000000) only [wn, rc_WaterConduit, rc_WaterNode] at kN2746
                          have kN2779 := kN2779 n (by omega)
                          simp (maxSteps := 2000000) only [h6l0_1, q6l0_1, wn, rc_WaterConduit, rc_WaterNode] at kN2779
                          simp (maxSteps := 2000000) only [W, reduceIte, Nat.reduceEqDiff, Nat.reduceAdd, Nat.reduceSub, Nat.reduceLT, Nat.reduceLeDiff, Nat.reduceMul, a6, a6l0, a6l1, rc_WaterConduit, rc_WaterNode, kN1518, kN1520, c1522d, kN1660, c1662d, d1663, kN1665, c1667d, d1668, kN1670, c1672d, d1673, d1674, c1675d, kN1677, kN1993, d1996, c1997d, kN2744, kN2746, c2771d, c2772d, c2773d, c2774d, g2776, g2777, kN2779, @x_loopAt, wd]
                      · rw [if_neg c2774] at h
                        have c2774d := df c2774
                        cases h
                        refine ev_call (fn := a6) rfl ⟨N1518 + N1520 + N1660 + N1665 + N1670 + N1677 + N1993 + N2744 + N2746, fun n hn => ?_⟩
                        have kN1518 := kN1518 n (by omega)
                        have kN1520 := kN1520 n (by omega)
                        try simp (maxSteps := 2000000) only [wn] at kN1520
                        have kN1660 := kN1660 n (by omega)
                        try simp (maxSteps := 2000000) only [wn] at kN1660
                        have kN1665 := kN1665 n (by omega)
                        try simp (maxSteps := 2000000) only [wn] at kN1665
                        have kN1670 := kN1670 n (by omega)
                        try simp (maxSteps := 2000000) only [wn] at kN1670
                        have kN1677 := kN1677 n (by omega)
                        try simp (maxSteps := 2000000) only [wn] at kN1677
                        have kN1993 := kN1993 n (by omega)
                        try simp (maxSteps := 2000000) only [wn] at kN1993
                        have kN2744 := kN2744 n (by omega)
                        try simp (maxSteps := 2000000) only [wn, rc_WaterConduit, rc_WaterNode] at kN2744
                        have kN2746 := kN2746 n (by omega)
                        try simp (maxSteps := 2000000) only [wn, rc_WaterConduit, rc_WaterNode] at kN2746
                        simp (maxSteps := 2000000) only [W, reduceIte, Nat.reduceEqDiff, Nat.reduceAdd, Nat.reduceSub, Nat.reduceLT, Nat.reduceLeDiff, Nat.reduceMul, a6, a6l0, a6l1, rc_WaterConduit, rc_WaterNode, kN1518, kN1520, c1522d, kN1660, c1662d, d1663, kN1665, c1667d, d1668, kN1670, c1672d, d1673, d1674, c1675d, kN1677, kN1993, d1996, c1997d, kN2744, kN2746, c2771d, c2772d, c2773d, c2774d, @x_loopAt, wd]
                    · rw [if_neg c2773] at h
                      have c2773d := df c2773
                      cases h
                      refine ev_call (fn := a6) rfl ⟨N1518 + N1520 + N1660 + N1665 + N1670 + N1677 + N1993 + N2744 + N2746, fun n hn => ?_⟩
                      have kN1518 := kN1518 n (by omega)
                      have kN1520 := kN1520 n (by omega)
                      try simp (maxSteps := 2000000) only [wn] at kN1520
                      have kN1660 := kN1660 n (by omega)
                      try simp (maxSteps := 2000000) only [wn] at kN1660
                      have kN1665 := kN1665 n (by omega)
                      try simp (maxSteps := 2000000) only [wn] at kN1665
                      have kN1670 := kN1670 n (by omega)
                      try simp (maxSteps := 2000000) only [wn] at kN1670
                      have kN1677 := kN1677 n (by omega)
                      try simp (maxSteps := 2000000) only [wn] at kN1677
                      have kN1993 := kN1993 n (by omega)
                      try simp (maxSteps := 2000000) only [wn] at kN1993
                      have kN2744 := kN2744 n (by omega)
                      try simp (maxSteps := 2000000) only [wn, rc_WaterConduit, rc_WaterNode] at kN2744
                      have kN2746 := kN2746 n (by omega)
                      try simp (maxSteps := 2000000) only [wn, rc_WaterConduit, rc_WaterNode] at kN2746
                      simp (maxSteps := 2000000) only [W, reduceIte, Nat.reduceEqDiff, Nat.reduceAdd, Nat.reduceSub, Nat.reduceLT, Nat.reduceLeDiff, Nat.reduceMul, a6, a6l0, a6l1, rc_WaterConduit, rc_WaterNode, kN1518, kN1520, c1522d, kN1660, c1662d, d1663, kN1665, c1667d, d1668, kN1670, c1672d, d1673, d1674, c1675d, kN1677, kN1993, d1996, c1997d, kN2744, kN2746, c2771d, c2772d, c2773d, @x_loopAt, wd]
                  · rw [if_neg c2772] at h
                    have c2772d := df c2772
                    cases h
                    refine ev_call (fn := a6) rfl ⟨N1518 + N1520 + N1660 + N1665 + N1670 + N1677 + N1993 + N2744 + N2746, fun n hn => ?_⟩
                    have kN1518 := kN1518 n (by omega)
                    have kN1520 := kN1520 n (by omega)
                    try simp (maxSteps := 2000000) only [wn] at kN1520
                    have kN1660 := kN1660 n (by omega)
                    try simp (maxSteps := 2000000) only [wn] at kN1660
                    have kN1665 := kN1665 n (by omega)
                    try simp (maxSteps := 2000000) only [wn] at kN1665
                    have kN1670 := kN1670 n (by omega)
                    try simp (maxSteps := 2000000) only [wn] at kN1670
                    have kN1677 := kN1677 n (by omega)
                    try simp (maxSteps := 2000000) only [wn] at kN1677
                    have kN1993 := kN1993 n (by omega)
                    try simp (maxSteps := 2000000) only [wn] at kN1993
                    have kN2744 := kN2744 n (by omega)
                    try simp (maxSteps := 2000000) only [wn, rc_WaterConduit, rc_WaterNode] at kN2744
                    have kN2746 := kN2746 n (by omega)
                    try simp (maxSteps := 2000000) only [wn, rc_WaterConduit, rc_WaterNode] at kN2746
                    simp (maxSteps := 2000000) only [W, reduceIte, Nat.reduceEqDiff, Nat.reduceAdd, Nat.reduceSub, Nat.reduceLT, Nat.reduceLeDiff, Nat.reduceMul, a6, a6l0, a6l1, rc_WaterConduit, rc_WaterNode, kN1518, kN1520, c1522d, kN1660, c1662d, d1663, kN1665, c1667d, d1668, kN1670, c1672d, d1673, d1674, c1675d, kN1677, kN1993, d1996, c1997d, kN2744, kN2746, c2771d, c2772d, @x_loopAt, wd]
                · rw [if_neg c2771] at h
                  have c2771d := df c2771
                  cases h
                  refine ev_call (fn := a6) rfl ⟨N1518 + N1520 + N1660 + N1665 + N1670 + N1677 + N1993 + N2744 + N2746, fun n hn => ?_⟩
                  have kN1518 := kN1518 n (by omega)
                  have kN1520 := kN1520 n (by omega)
                  try simp (maxSteps := 2000000) only [wn] at kN1520
                  have kN1660 := kN1660 n (by omega)
                  try simp (maxSteps := 2000000) only [wn] at kN1660
                  have kN1665 := kN1665 n (by omega)
                  try simp (maxSteps := 2000000) only [wn] at kN1665
                  have kN1670 := kN1670 n (by omega)
                  try simp (maxSteps := 2000000) only [wn] at kN1670
                  have kN1677 := kN1677 n (by omega)
                  try simp (maxSteps := 2000000) only [wn] at kN1677
                  have kN1993 := kN1993 n (by omega)
                  try simp (maxSteps := 2000000) only [wn] at kN1993
                  have kN2744 := kN2744 n (by omega)
                  try simp (maxSteps := 2000000) only [wn, rc_WaterConduit, rc_WaterNode] at kN2744
                  have kN2746 := kN2746 n (by omega)
                  try simp (maxSteps := 2000000) only [wn, rc_WaterConduit, rc_WaterNode] at kN2746
                  simp (maxSteps := 2000000) only [W, reduceIte, Nat.reduceEqDiff, Nat.reduceAdd, Nat.reduceSub, Nat.reduceLT, Nat.reduceLeDiff, Nat.reduceMul, a6, a6l0, a6l1, rc_WaterConduit, rc_WaterNode, kN1518, kN1520, c1522d, kN1660, c1662d, d1663, kN1665, c1667d, d1668, kN1670, c1672d, d1673, d1674, c1675d, kN1677, kN1993, d1996, c1997d, kN2744, kN2746, c2771d, @x_loopAt, wd]
          · rw [if_neg c1675] at h
            have c1675d := df c1675
            cases h
            refine ev_call (fn := a6) rfl ⟨N1518 + N1520 + N1660 + N1665 + N1670, fun n hn => ?_⟩
            have kN1518 := kN1518 n (by omega)
            have kN1520 := kN1520 n (by omega)
            try simp (maxSteps := 2000000) only [wn] at kN1520
            have kN1660 := kN1660 n (by omega)
            try simp (maxSteps := 2000000) only [wn] at kN1660
            have kN1665 := kN1665 n (by omega)
            try simp (maxSteps := 2000000) only [wn] at kN1665
            have kN1670 := kN1670 n (by omega)
            try simp (maxSteps := 2000000) only [wn] at kN1670
            simp (maxSteps := 2000000) only [W, reduceIte, Nat.reduceEqDiff, Nat.reduceAdd, Nat.reduceSub, Nat.reduceLT, Nat.reduceLeDiff, Nat.reduceMul, a6, a6l0, a6l1, rc_WaterConduit, rc_WaterNode, kN1518, kN1520, c1522d, kN1660, c1662d, d1663, kN1665, c1667d, d1668, kN1670, c1672d, d1673, d1674, c1675d, @x_loopAt, wd]
        · rw [if_neg c1672] at h
          have c1672d := df c1672
          cases h
          refine ev_call (fn := a6) rfl ⟨N1518 + N1520 + N1660 + N1665 + N1670, fun n hn => ?_⟩
          have kN1518 := kN1518 n (by omega)
          have kN1520 := kN1520 n (by omega)
          try simp (maxSteps := 2000000) only [wn] at kN1520
          have kN1660 := kN1660 n (by omega)
          try simp (maxSteps := 2000000) only [wn] at kN1660
          have kN1665 := kN1665 n (by omega)
          try simp (maxSteps := 2000000) only [wn] at kN1665
          have kN1670 := kN1670 n (by omega)
          try simp (maxSteps := 2000000) only [wn] at kN1670
          simp (maxSteps := 2000000) only [W, reduceIte, Nat.reduceEqDiff, Nat.reduceAdd, Nat.reduceSub, Nat.reduceLT, Nat.reduceLeDiff, Nat.reduceMul, a6, a6l0, a6l1, rc_WaterConduit, rc_WaterNode, kN1518, kN1520, c1522d, kN1660, c1662d, d1663, kN1665, c1667d, d1668, kN1670, c1672d, @x_loopAt, wd]
      · rw [if_neg c1667] at h
        have c1667d := df c1667
        cases h
        refine ev_call (fn := a6) rfl ⟨N1518 + N1520 + N1660 + N1665, fun n hn => ?_⟩
        have kN1518 := kN1518 n (by omega)
        have kN1520 := kN1520 n (by omega)
        try simp (maxSteps := 2000000) only [wn] at kN1520
        have kN1660 := kN1660 n (by omega)
        try simp (maxSteps := 2000000) only [wn] at kN1660
        have kN1665 := kN1665 n (by omega)
        try simp (maxSteps := 2000000) only [wn] at kN1665
        simp (maxSteps := 2000000) only [W, reduceIte, Nat.reduceEqDiff, Nat.reduceAdd, Nat.reduceSub, Nat.reduceLT, Nat.reduceLeDiff, Nat.reduceMul, a6, a6l0, a6l1, rc_WaterConduit, rc_WaterNode, kN1518, kN1520, c1522d, kN1660, c1662d, d1663, kN1665, c1667d, @x_loopAt, wd]
    · rw [if_neg c1662] at h
      have c1662d := df c1662
      cases h
      refine ev_call (fn := a6) rfl ⟨N1518 + N1520 + N1660, fun n hn => ?_⟩
      have kN1518 := kN1518 n (by omega)
      have kN1520 := kN1520 n (by omega)
      try simp (maxSteps := 2000000) only [wn] at kN1520
      have kN1660 := kN1660 n (by omega)
      try simp (maxSteps := 2000000) only [wn] at kN1660
      simp (maxSteps := 2000000) only [W, reduceIte, Nat.reduceEqDiff, Nat.reduceAdd, Nat.reduceSub, Nat.reduceLT, Nat.reduceLeDiff, Nat.reduceMul, a6, a6l0, a6l1, rc_WaterConduit, rc_WaterNode, kN1518, kN1520, c1522d, kN1660, c1662d, @x_loopAt, wd]
  · rw [if_neg c1522] at h
    have c1522d := bf c1522
    cases h
    refine ev_call (fn := a6) rfl ⟨N1518 + N1520, fun n hn => ?_⟩
    have kN1518 := kN1518 n (by omega)
    have kN1520 := kN1520 n (by omega)
    try simp (maxSteps := 2000000) only [wn] at kN1520
    simp (maxSteps := 2000000) only [W, reduceIte, Nat.reduceEqDiff, Nat.reduceAdd, Nat.reduceSub, Nat.reduceLT, Nat.reduceLeDiff, Nat.reduceMul, a6, a6l0, a6l1, rc_WaterConduit, rc_WaterNode, kN1518, kN1520, c1522d, @x_loopAt, wd]
end Go.AI
