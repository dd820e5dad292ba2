import Derived.Test.YtfglifekecijjaaEAiY
import Derived.Test.YtfglifekecijjaaEAiTab
import Derived.Test.YtfglifekecijjaaEAiAwake
import Derived.Test.YtfglifekecijjaaEWnF
import Derived.Test.YtfglifekecijjaaEWn1
section
/-
  Functions, walked through: .
-/
set_option linter.unusedVariables false
set_option linter.unusedSimpArgs false
set_option maxRecDepth 100000
set_option maxHeartbeats 4000000
namespace Go.AI
noncomputable def h6l0_1 (z0 : Bool) (z1 : Bool) (v2566 : Int) (v2567 : Int) (v2569 : List WaterNode) (v2570 : List WaterConduit) (v2571 : Int) (v2572 : Int) (v2573 : List Int) (v2574 : List Int) : (Int × (List Int)) → Env × Heap
  | (v2568, v2575) => ([(2, .ptr 2 0), (3, .ptr 3 0), (5, .int .i64 v2566), (7, .int .i64 v2567), (8, .ptr 4 0), (10, .slice 7 0 v2575.length v2575.length 1 false), (11, .int .i64 v2568)], [.row z0 true (rowC v2569), .row z1 true (rowC v2570), .row true false [.slice 0 0 v2569.length v2569.length 4 false, .slice 1 0 v2570.length v2570.length 6 false], .row true true [.int .i64 v2571, .int .i64 v2572], .row true false [.slice 5 0 v2573.length v2573.length 1 false, .slice 6 0 v2574.length v2574.length 1 false], .row true true (rowC v2573), .row true true (rowC v2574), .row true true (rowC v2575)])
noncomputable def q6l0_1 (z0 : Bool) (z1 : Bool) (v2566 : Int) (v2567 : Int) (v2569 : List WaterNode) (v2570 : List WaterConduit) (v2571 : Int) (v2572 : Int) (v2573 : List Int) (v2574 : List Int) : (((List Int)) ⊕ ((List Int))) → AExit × Env × Heap
  | .inl (r2685) => (.exit 0, [(2, .ptr 2 0), (3, .ptr 3 0), (4, .undef), (5, .int .i64 v2566), (7, .int .i64 v2567), (8, .ptr 4 0), (10, .slice 7 0 r2685.length r2685.length 1 false)], [.row z0 true (rowC v2569), .row z1 true (rowC v2570), .row true false [.slice 0 0 v2569.length v2569.length 4 false, .slice 1 0 v2570.length v2570.length 6 false], .row true true [.int .i64 v2571, .int .i64 v2572], .row true false [.slice 5 0 v2573.length v2573.length 1 false, .slice 6 0 v2574.length v2574.length 1 false], .row true true (rowC v2573), .row true true (rowC v2574), .row true true (rowC r2685)])
  | .inr (r2686) => (.ret, [(2, .ptr 2 0), (3, .ptr 3 0), (4, .bool false), (5, .int .i64 v2566), (7, .int .i64 v2567), (8, .ptr 4 0), (10, .slice 7 0 r2686.length r2686.length 1 false)], [.row z0 true (rowC v2569), .row z1 true (rowC v2570), .row true false [.slice 0 0 v2569.length v2569.length 4 false, .slice 1 0 v2570.length v2570.length 6 false], .row true true [.int .i64 v2571, .int .i64 v2572], .row true false [.slice 5 0 v2573.length v2573.length 1 false, .slice 6 0 v2574.length v2574.length 1 false], .row true true (rowC v2573), .row true true (rowC v2574), .row true true (rowC r2686)])
theorem k6l0_1 (z0 : Bool) (z1 : Bool) (v2566 : Int) (v2567 : Int) (v2569 : List WaterNode) (v2570 : List WaterConduit) (v2571 : Int) (v2572 : Int) (v2573 : List Int) (v2574 : List Int) (s : Int × (List Int)) (o : ((List Int)) ⊕ ((List Int))) (h : L6l0_1 v2566 v2567 v2569 v2570 v2571 v2572 v2573 v2574 s = some o) : Ev fun n => loopAt [2, 3, 5, 7, 8, 10, 11] [2, 3, 4, 5, 7, 8, 10] a6l0b (ex tab n) 2 (h6l0_1 z0 z1 v2566 v2567 v2569 v2570 v2571 v2572 v2573 v2574 s) = some (q6l0_1 z0 z1 v2566 v2567 v2569 v2570 v2571 v2572 v2573 v2574 o) := by
  refine iter_sound (S6l0_1 v2566 v2567 v2569 v2570 v2571 v2572 v2573 v2574) [2, 3, 5, 7, 8, 10, 11] [2, 3, 4, 5, 7, 8, 10] a6l0b 2 (h6l0_1 z0 z1 v2566 v2567 v2569 v2570 v2571 v2572 v2573 v2574) (q6l0_1 z0 z1 v2566 v2567 v2569 v2570 v2571 v2572 v2573 v2574) ?_ _ _ _ h
  rintro ⟨v2568, v2575⟩ z h
  simp only [S6l0_1] at h
  by_cases c2576 : (v2570.length : Int) ≤ v2568
  · rw [if_pos c2576] at h
    have c2576d := dt c2576
    cases h
    refine ⟨0, fun n hn => ?_⟩
    simp (maxSteps := 2000000) only [W, reduceIte, Nat.reduceEqDiff, Nat.reduceAdd, Nat.reduceSub, Nat.reduceLT, Nat.reduceLeDiff, Nat.reduceMul, h6l0_1, q6l0_1, a6l0b, rc_WaterConduit, c2576d, wd]
  · rw [if_neg c2576] at h
    have c2576d := df c2576
    obtain ⟨j2577, x2578, g2579, h⟩ := un2 h
    obtain ⟨g25791, g25792⟩ := geti_in g2579
    have g25793 := ac_WaterConduit g25792
    try simp only [wn] at g25791
    obtain ⟨j2580, x2581, g2582, h⟩ := un2 h
    obtain ⟨g25821, g25822⟩ := geti_in g2582
    have g25823 := ac_Int g25822
    try simp only [wn] at g25821
    obtain ⟨r2585, g2583, h⟩ := un1 h
    obtain ⟨N2584, kN2584⟩ := c20_0 x2581 (-1000000) 1000000 _ g2583
    by_cases c2586 : r2585 = true
    · rw [if_pos c2586] at h
      have c2586d := c2586
      by_cases c2587 : x2578.fOpen = true
      · rw [if_pos c2587] at h
        have c2587d := c2587
        by_cases c2588 : v2568 = v2566
        · rw [if_pos c2588] at h
          have c2588d := dt c2588
          by_cases c2589 : x2581 = v2567
          · rw [if_pos c2589] at h
            have c2589d := dt c2589
            obtain ⟨j2590, x2591, g2592, h⟩ := un2 h
            obtain ⟨g25921, g25922⟩ := geti_in g2592
            have g25923 := ac_Int g25922
            try simp only [wn] at g25921
            obtain ⟨j2593, x2594, g2595, h⟩ := un2 h
            obtain ⟨g25951, g25952⟩ := geti_in g2595
            have g25953 := ac_Int g25952
            try simp only [wn] at g25951
            obtain ⟨x2596, g2597, h⟩ := un1 h
            have g25973 := ac_Int g2597
            obtain ⟨j2598, x2599, g2600, h⟩ := un2 h
            obtain ⟨g26001, g26002⟩ := geti_in g2600
            have g26003 := ac_Int g26002
            try simp only [wn] at g26001
            obtain ⟨r2603, g2601, h⟩ := un1 h
            obtain ⟨N2602, kN2602⟩ := c20_0 x2599 (-1152921504606846976) 1152921504606846976 _ g2601
            by_cases c2604 : r2603 = true
            · rw [if_pos c2604] at h
              have c2604d := c2604
              obtain ⟨j2605, x2606, g2607, h⟩ := un2 h
              obtain ⟨g26071, g26072⟩ := geti_in g2607
              have g26073 := ac_Int g26072
              try simp only [wn] at g26071
              obtain ⟨r2610, g2608, h⟩ := un1 h
              obtain ⟨N2609, kN2609⟩ := c20_0 x2606 (-1152921504606846976) 1152921504606846976 _ g2608
              by_cases c2611 : r2610 = true
              · rw [if_pos c2611] at h
                have c2611d := c2611
                cases h
                refine ⟨N2584 + N2602 + N2609, fun n hn => ?_⟩
                have kN2584 := kN2584 n (by omega)
                try simp (maxSteps := 2000000) only [wn, rc_WaterConduit, c2587d] at kN2584
                have kN2602 := kN2602 n (by omega)
                try simp (maxSteps := 2000000) only [wn, rc_WaterConduit, c2587d] at kN2602
                have kN2609 := kN2609 n (by omega)
                try simp (maxSteps := 2000000) only [wn, rc_WaterConduit, c2587d] at kN2609
                simp (maxSteps := 2000000) only [W, reduceIte, Nat.reduceEqDiff, Nat.reduceAdd, Nat.reduceSub, Nat.reduceLT, Nat.reduceLeDiff, Nat.reduceMul, h6l0_1, q6l0_1, a6l0b, rc_WaterConduit, c2576d, g25791, g25793, g25821, g25823, kN2584, c2586d, c2587d, c2588d, c2589d, g25921, g25923, g25951, g25953, g25973, g26001, g26003, kN2602, c2604d, g26071, g26073, kN2609, c2611d, wd]
              · rw [if_neg c2611] at h
                have c2611d := bf c2611
                cases h
                refine ⟨N2584 + N2602 + N2609, fun n hn => ?_⟩
                have kN2584 := kN2584 n (by omega)
                try simp (maxSteps := 2000000) only [wn, rc_WaterConduit, c2587d] at kN2584
                have kN2602 := kN2602 n (by omega)
                try simp (maxSteps := 2000000) only [wn, rc_WaterConduit, c2587d] at kN2602
                have kN2609 := kN2609 n (by omega)
                try simp (maxSteps := 2000000) only [wn, rc_WaterConduit, c2587d] at kN2609
                simp (maxSteps := 2000000) only [W, reduceIte, Nat.reduceEqDiff, Nat.reduceAdd, Nat.reduceSub, Nat.reduceLT, Nat.reduceLeDiff, Nat.reduceMul, h6l0_1, q6l0_1, a6l0b, rc_WaterConduit, c2576d, g25791, g25793, g25821, g25823, kN2584, c2586d, c2587d, c2588d, c2589d, g25921, g25923, g25951, g25953, g25973, g26001, g26003, kN2602, c2604d, g26071, g26073, kN2609, c2611d, wd]
            · rw [if_neg c2604] at h
              have c2604d := bf c2604
              cases h
              refine ⟨N2584 + N2602, fun n hn => ?_⟩
              have kN2584 := kN2584 n (by omega)
              try simp (maxSteps := 2000000) only [wn, rc_WaterConduit, c2587d] at kN2584
              have kN2602 := kN2602 n (by omega)
              try simp (maxSteps := 2000000) only [wn, rc_WaterConduit, c2587d] at kN2602
              simp (maxSteps := 2000000) only [W, reduceIte, Nat.reduceEqDiff, Nat.reduceAdd, Nat.reduceSub, Nat.reduceLT, Nat.reduceLeDiff, Nat.reduceMul, h6l0_1, q6l0_1, a6l0b, rc_WaterConduit, c2576d, g25791, g25793, g25821, g25823, kN2584, c2586d, c2587d, c2588d, c2589d, g25921, g25923, g25951, g25953, g25973, g26001, g26003, kN2602, c2604d, wd]
          · rw [if_neg c2589] at h
            have c2589d := df c2589
            cases h
            refine ⟨N2584, fun n hn => ?_⟩
            have kN2584 := kN2584 n (by omega)
            try simp (maxSteps := 2000000) only [wn, rc_WaterConduit, c2587d] at kN2584
            simp (maxSteps := 2000000) only [W, reduceIte, Nat.reduceEqDiff, Nat.reduceAdd, Nat.reduceSub, Nat.reduceLT, Nat.reduceLeDiff, Nat.reduceMul, h6l0_1, q6l0_1, a6l0b, rc_WaterConduit, c2576d, g25791, g25793, g25821, g25823, kN2584, c2586d, c2587d, c2588d, c2589d, wd]
        · rw [if_neg c2588] at h
          have c2588d := df c2588
          obtain ⟨j2612, x2613, g2614, h⟩ := un2 h
          obtain ⟨g26141, g26142⟩ := geti_in g2614
          have g26143 := ac_Int g26142
          try simp only [wn] at g26141
          obtain ⟨j2615, x2616, g2617, h⟩ := un2 h
          obtain ⟨g26171, g26172⟩ := geti_in g2617
          have g26173 := ac_Int g26172
          try simp only [wn] at g26171
          obtain ⟨x2618, g2619, h⟩ := un1 h
          have g26193 := ac_Int g2619
          obtain ⟨j2620, x2621, g2622, h⟩ := un2 h
          obtain ⟨g26221, g26222⟩ := geti_in g2622
          have g26223 := ac_Int g26222
          try simp only [wn] at g26221
          obtain ⟨r2625, g2623, h⟩ := un1 h
          obtain ⟨N2624, kN2624⟩ := c20_0 x2621 (-1152921504606846976) 1152921504606846976 _ g2623
          by_cases c2626 : r2625 = true
          · rw [if_pos c2626] at h
            have c2626d := c2626
            obtain ⟨j2627, x2628, g2629, h⟩ := un2 h
            obtain ⟨g26291, g26292⟩ := geti_in g2629
            have g26293 := ac_Int g26292
            try simp only [wn] at g26291
            obtain ⟨r2632, g2630, h⟩ := un1 h
            obtain ⟨N2631, kN2631⟩ := c20_0 x2628 (-1152921504606846976) 1152921504606846976 _ g2630
            by_cases c2633 : r2632 = true
            · rw [if_pos c2633] at h
              have c2633d := c2633
              obtain ⟨r2636, g2634, h⟩ := un1 h
              obtain ⟨N2635, kN2635⟩ := c41_0 x2581 _ g2634
              by_cases c2637 : (aw .i64 (x2621 - x2628)) = (aw .i64 ((aw .i64 (x2578.fResist * x2581)) * r2636))
              · rw [if_pos c2637] at h
                have c2637d := dt c2637
                cases h
                refine ⟨N2584 + N2624 + N2631 + N2635, fun n hn => ?_⟩
                have kN2584 := kN2584 n (by omega)
                try simp (maxSteps := 2000000) only [wn, rc_WaterConduit, c2587d] at kN2584
                have kN2624 := kN2624 n (by omega)
                try simp (maxSteps := 2000000) only [wn, rc_WaterConduit, c2587d] at kN2624
                have kN2631 := kN2631 n (by omega)
                try simp (maxSteps := 2000000) only [wn, rc_WaterConduit, c2587d] at kN2631
                have kN2635 := kN2635 n (by omega)
                try simp (maxSteps := 2000000) only [wn, rc_WaterConduit, c2587d] at kN2635
                simp (maxSteps := 2000000) only [W, reduceIte, Nat.reduceEqDiff, Nat.reduceAdd, Nat.reduceSub, Nat.reduceLT, Nat.reduceLeDiff, Nat.reduceMul, h6l0_1, q6l0_1, a6l0b, rc_WaterConduit, c2576d, g25791, g25793, g25821, g25823, kN2584, c2586d, c2587d, c2588d, g26141, g26143, g26171, g26173, g26193, g26221, g26223, kN2624, c2626d, g26291, g26293, kN2631, c2633d, kN2635, c2637d, wd]
              · rw [if_neg c2637] at h
                have c2637d := df c2637
                cases h
                refine ⟨N2584 + N2624 + N2631 + N2635, fun n hn => ?_⟩
                have kN2584 := kN2584 n (by omega)
                try simp (maxSteps := 2000000) only [wn, rc_WaterConduit, c2587d] at kN2584
                have kN2624 := kN2624 n (by omega)
                try simp (maxSteps := 2000000) only [wn, rc_WaterConduit, c2587d] at kN2624
                have kN2631 := kN2631 n (by omega)
                try simp (maxSteps := 2000000) only [wn, rc_WaterConduit, c2587d] at kN2631
                have kN2635 := kN2635 n (by omega)
                try simp (maxSteps := 2000000) only [wn, rc_WaterConduit, c2587d] at kN2635
                simp (maxSteps := 2000000) only [W, reduceIte, Nat.reduceEqDiff, Nat.reduceAdd, Nat.reduceSub, Nat.reduceLT, Nat.reduceLeDiff, Nat.reduceMul, h6l0_1, q6l0_1, a6l0b, rc_WaterConduit, c2576d, g25791, g25793, g25821, g25823, kN2584, c2586d, c2587d, c2588d, g26141, g26143, g26171, g26173, g26193, g26221, g26223, kN2624, c2626d, g26291, g26293, kN2631, c2633d, kN2635, c2637d, wd]
            · rw [if_neg c2633] at h
              have c2633d := bf c2633
              cases h
              refine ⟨N2584 + N2624 + N2631, fun n hn => ?_⟩
              have kN2584 := kN2584 n (by omega)
              try simp (maxSteps := 2000000) only [wn, rc_WaterConduit, c2587d] at kN2584
              have kN2624 := kN2624 n (by omega)
              try simp (maxSteps := 2000000) only [wn, rc_WaterConduit, c2587d] at kN2624
              have kN2631 := kN2631 n (by omega)
              try simp (maxSteps := 2000000) only [wn, rc_WaterConduit, c2587d] at kN2631
              simp (maxSteps := 2000000) only [W, reduceIte, Nat.reduceEqDiff, Nat.reduceAdd, Nat.reduceSub, Nat.reduceLT, Nat.reduceLeDiff, Nat.reduceMul, h6l0_1, q6l0_1, a6l0b, rc_WaterConduit, c2576d, g25791, g25793, g25821, g25823, kN2584, c2586d, c2587d, c2588d, g26141, g26143, g26171, g26173, g26193, g26221, g26223, kN2624, c2626d, g26291, g26293, kN2631, c2633d, wd]
          · rw [if_neg c2626] at h
            have c2626d := bf c2626
            cases h
            refine ⟨N2584 + N2624, fun n hn => ?_⟩
            have kN2584 := kN2584 n (by omega)
            try simp (maxSteps := 2000000) only [wn, rc_WaterConduit, c2587d] at kN2584
            have kN2624 := kN2624 n (by omega)
            try simp (maxSteps := 2000000) only [wn, rc_WaterConduit, c2587d] at kN2624
            simp (maxSteps := 2000000) only [W, reduceIte, Nat.reduceEqDiff, Nat.reduceAdd, Nat.reduceSub, Nat.reduceLT, Nat.reduceLeDiff, Nat.reduceMul, h6l0_1, q6l0_1, a6l0b, rc_WaterConduit, c2576d, g25791, g25793, g25821, g25823, kN2584, c2586d, c2587d, c2588d, g26141, g26143, g26171, g26173, g26193, g26221, g26223, kN2624, c2626d, wd]
      · rw [if_neg c2587] at h
        have c2587d := bf c2587
        by_cases c2638 : x2581 = 0
        · rw [if_pos c2638] at h
          have c2638d := dt c2638
          by_cases c2639 : v2568 = v2566
          · rw [if_pos c2639] at h
            have c2639d := dt c2639
            by_cases c2640 : x2581 = v2567
            · rw [if_pos c2640] at h
              have c2640d := dt c2640
              obtain ⟨j2641, x2642, g2643, h⟩ := un2 h
              obtain ⟨g26431, g26432⟩ := geti_in g2643
              have g26433 := ac_Int g26432
              try simp only [wn] at g26431
              obtain ⟨j2644, x2645, g2646, h⟩ := un2 h
              obtain ⟨g26461, g26462⟩ := geti_in g2646
              have g26463 := ac_Int g26462
              try simp only [wn] at g26461
              obtain ⟨x2647, g2648, h⟩ := un1 h
              have g26483 := ac_Int g2648
              obtain ⟨j2649, x2650, g2651, h⟩ := un2 h
              obtain ⟨g26511, g26512⟩ := geti_in g2651
              have g26513 := ac_Int g26512
              try simp only [wn] at g26511
              obtain ⟨r2654, g2652, h⟩ := un1 h
              obtain ⟨N2653, kN2653⟩ := c20_0 x2650 (-1152921504606846976) 1152921504606846976 _ g2652
              by_cases c2655 : r2654 = true
              · rw [if_pos c2655] at h
                have c2655d := c2655
                obtain ⟨j2656, x2657, g2658, h⟩ := un2 h
                obtain ⟨g26581, g26582⟩ := geti_in g2658
                have g26583 := ac_Int g26582
                try simp only [wn] at g26581
                obtain ⟨r2661, g2659, h⟩ := un1 h
                obtain ⟨N2660, kN2660⟩ := c20_0 x2657 (-1152921504606846976) 1152921504606846976 _ g2659
                by_cases c2662 : r2661 = true
                · rw [if_pos c2662] at h
                  have c2662d := c2662
                  cases h
                  refine ⟨N2584 + N2653 + N2660, fun n hn => ?_⟩
                  have kN2584 := kN2584 n (by omega)
                  try simp (maxSteps := 2000000) only [wn, rc_WaterConduit, c2587d] at kN2584
                  have kN2653 := kN2653 n (by omega)
                  try simp (maxSteps := 2000000) only [wn, rc_WaterConduit, c2587d] at kN2653
                  have kN2660 := kN2660 n (by omega)
                  try simp (maxSteps := 2000000) only [wn, rc_WaterConduit, c2587d] at kN2660
                  simp (maxSteps := 2000000) only [W, reduceIte, Nat.reduceEqDiff, Nat.reduceAdd, Nat.reduceSub, Nat.reduceLT, Nat.reduceLeDiff, Nat.reduceMul, h6l0_1, q6l0_1, a6l0b, rc_WaterConduit, c2576d, g25791, g25793, g25821, g25823, kN2584, c2586d, c2587d, c2638d, c2639d, c2640d, g26431, g26433, g26461, g26463, g26483, g26511, g26513, kN2653, c2655d, g26581, g26583, kN2660, c2662d, wd]
                · rw [if_neg c2662] at h
                  have c2662d := bf c2662
                  cases h
                  refine ⟨N2584 + N2653 + N2660, fun n hn => ?_⟩
                  have kN2584 := kN2584 n (by omega)
                  try simp (maxSteps := 2000000) only [wn, rc_WaterConduit, c2587d] at kN2584
                  have kN2653 := kN2653 n (by omega)
                  try simp (maxSteps := 2000000) only [wn, rc_WaterConduit, c2587d] at kN2653
                  have kN2660 := kN2660 n (by omega)
                  try simp (maxSteps := 2000000) only [wn, rc_WaterConduit, c2587d] at kN2660
                  simp (maxSteps := 2000000) only [W, reduceIte, Nat.reduceEqDiff, Nat.reduceAdd, Nat.reduceSub, Nat.reduceLT, Nat.reduceLeDiff, Nat.reduceMul, h6l0_1, q6l0_1, a6l0b, rc_WaterConduit, c2576d, g25791, g25793, g25821, g25823, kN2584, c2586d, c2587d, c2638d, c2639d, c2640d, g26431, g26433, g26461, g26463, g26483, g26511, g26513, kN2653, c2655d, g26581, g26583, kN2660, c2662d, wd]
              · rw [if_neg c2655] at h
                have c2655d := bf c2655
                cases h
                refine ⟨N2584 + N2653, fun n hn => ?_⟩
                have kN2584 := kN2584 n (by omega)
                try simp (maxSteps := 2000000) only [wn, rc_WaterConduit, c2587d] at kN2584
                have kN2653 := kN2653 n (by omega)
                try simp (maxSteps := 2000000) only [wn, rc_WaterConduit, c2587d] at kN2653
                simp (maxSteps := 2000000) only [W, reduceIte, Nat.reduceEqDiff, Nat.reduceAdd, Nat.reduceSub, Nat.reduceLT, Nat.reduceLeDiff, Nat.reduceMul, h6l0_1, q6l0_1, a6l0b, rc_WaterConduit, c2576d, g25791, g25793, g25821, g25823, kN2584, c2586d, c2587d, c2638d, c2639d, c2640d, g26431, g26433, g26461, g26463, g26483, g26511, g26513, kN2653, c2655d, wd]
            · rw [if_neg c2640] at h
              have c2640d := df c2640
              cases h
              refine ⟨N2584, fun n hn => ?_⟩
              have kN2584 := kN2584 n (by omega)
              try simp (maxSteps := 2000000) only [wn, rc_WaterConduit, c2587d] at kN2584
              simp (maxSteps := 2000000) only [W, reduceIte, Nat.reduceEqDiff, Nat.reduceAdd, Nat.reduceSub, Nat.reduceLT, Nat.reduceLeDiff, Nat.reduceMul, h6l0_1, q6l0_1, a6l0b, rc_WaterConduit, c2576d, g25791, g25793, g25821, g25823, kN2584, c2586d, c2587d, c2638d, c2639d, c2640d, wd]
          · rw [if_neg c2639] at h
            have c2639d := df c2639
            obtain ⟨j2663, x2664, g2665, h⟩ := un2 h
            obtain ⟨g26651, g26652⟩ := geti_in g2665
            have g26653 := ac_Int g26652
            try simp only [wn] at g26651
            obtain ⟨j2666, x2667, g2668, h⟩ := un2 h
            obtain ⟨g26681, g26682⟩ := geti_in g2668
            have g26683 := ac_Int g26682
            try simp only [wn] at g26681
            obtain ⟨x2669, g2670, h⟩ := un1 h
            have g26703 := ac_Int g2670
            obtain ⟨j2671, x2672, g2673, h⟩ := un2 h
            obtain ⟨g26731, g26732⟩ := geti_in g2673
            have g26733 := ac_Int g26732
            try simp only [wn] at g26731
            obtain ⟨r2676, g2674, h⟩ := un1 h
            obtain ⟨N2675, kN2675⟩ := c20_0 x2672 (-1152921504606846976) 1152921504606846976 _ g2674
            by_cases c2677 : r2676 = true
            · rw [if_pos c2677] at h
              have c2677d := c2677
              obtain ⟨j2678, x2679, g2680, h⟩ := un2 h
              obtain ⟨g26801, g26802⟩ := geti_in g2680
              have g26803 := ac_Int g26802
              try simp only [wn] at g26801
              obtain ⟨r2683, g2681, h⟩ := un1 h
              obtain ⟨N2682, kN2682⟩ := c20_0 x2679 (-1152921504606846976) 1152921504606846976 _ g2681
              by_cases c2684 : r2683 = true
              · rw [if_pos c2684] at h
                have c2684d := c2684
                cases h
                refine ⟨N2584 + N2675 + N2682, fun n hn => ?_⟩
                have kN2584 := kN2584 n (by omega)
                try simp (maxSteps := 2000000) only [wn, rc_WaterConduit, c2587d] at kN2584
                have kN2675 := kN2675 n (by omega)
                try simp (maxSteps := 2000000) only [wn, rc_WaterConduit, c2587d] at kN2675
                have kN2682 := kN2682 n (by omega)
                try simp (maxSteps := 2000000) only [wn, rc_WaterConduit, c2587d] at kN2682
                simp (maxSteps := 2000000) only [W, reduceIte, Nat.reduceEqDiff, Nat.reduceAdd, Nat.reduceSub, Nat.reduceLT, Nat.reduceLeDiff, Nat.reduceMul, h6l0_1, q6l0_1, a6l0b, rc_WaterConduit, c2576d, g25791, g25793, g25821, g25823, kN2584, c2586d, c2587d, c2638d, c2639d, g26651, g26653, g26681, g26683, g26703, g26731, g26733, kN2675, c2677d, g26801, g26803, kN2682, c2684d, wd]
              · rw [if_neg c2684] at h
                have c2684d := bf c2684
                cases h
                refine ⟨N2584 + N2675 + N2682, fun n hn => ?_⟩
                have kN2584 := kN2584 n (by omega)
                try simp (maxSteps := 2000000) only [wn, rc_WaterConduit, c2587d] at kN2584
                have kN2675 := kN2675 n (by omega)
                try simp (maxSteps := 2000000) only [wn, rc_WaterConduit, c2587d] at kN2675
                have kN2682 := kN2682 n (by omega)
                try simp (maxSteps := 2000000) only [wn, rc_WaterConduit, c2587d] at kN2682
                simp (maxSteps := 2000000) only [W, reduceIte, Nat.reduceEqDiff, Nat.reduceAdd, Nat.reduceSub, Nat.reduceLT, Nat.reduceLeDiff, Nat.reduceMul, h6l0_1, q6l0_1, a6l0b, rc_WaterConduit, c2576d, g25791, g25793, g25821, g25823, kN2584, c2586d, c2587d, c2638d, c2639d, g26651, g26653, g26681, g26683, g26703, g26731, g26733, kN2675, c2677d, g26801, g26803, kN2682, c2684d, wd]
            · rw [if_neg c2677] at h
              have c2677d := bf c2677
              cases h
              refine ⟨N2584 + N2675, fun n hn => ?_⟩
              have kN2584 := kN2584 n (by omega)
              try simp (maxSteps := 2000000) only [wn, rc_WaterConduit, c2587d] at kN2584
              have kN2675 := kN2675 n (by omega)
              try simp (maxSteps := 2000000) only [wn, rc_WaterConduit, c2587d] at kN2675
              simp (maxSteps := 2000000) only [W, reduceIte, Nat.reduceEqDiff, Nat.reduceAdd, Nat.reduceSub, Nat.reduceLT, Nat.reduceLeDiff, Nat.reduceMul, h6l0_1, q6l0_1, a6l0b, rc_WaterConduit, c2576d, g25791, g25793, g25821, g25823, kN2584, c2586d, c2587d, c2638d, c2639d, g26651, g26653, g26681, g26683, g26703, g26731, g26733, kN2675, c2677d, wd]
        · rw [if_neg c2638] at h
          have c2638d := df c2638
          cases h
          refine ⟨N2584, fun n hn => ?_⟩
          have kN2584 := kN2584 n (by omega)
          try simp (maxSteps := 2000000) only [wn, rc_WaterConduit, c2587d] at kN2584
          simp (maxSteps := 2000000) only [W, reduceIte, Nat.reduceEqDiff, Nat.reduceAdd, Nat.reduceSub, Nat.reduceLT, Nat.reduceLeDiff, Nat.reduceMul, h6l0_1, q6l0_1, a6l0b, rc_WaterConduit, c2576d, g25791, g25793, g25821, g25823, kN2584, c2586d, c2587d, c2638d, wd]
    · rw [if_neg c2586] at h
      have c2586d := bf c2586
      cases h
      refine ⟨N2584, fun n hn => ?_⟩
      have kN2584 := kN2584 n (by omega)
      try simp (maxSteps := 2000000) only [wn, rc_WaterConduit] at kN2584
      simp (maxSteps := 2000000) only [W, reduceIte, Nat.reduceEqDiff, Nat.reduceAdd, Nat.reduceSub, Nat.reduceLT, Nat.reduceLeDiff, Nat.reduceMul, h6l0_1, q6l0_1, a6l0b, rc_WaterConduit, c2576d, g25791, g25793, g25821, g25823, kN2584, c2586d, wd]
end Go.AI
end
section
/-
  Functions, walked through: .
-/
set_option linter.unusedVariables false
set_option linter.unusedSimpArgs false
set_option maxRecDepth 100000
set_option maxHeartbeats 4000000
namespace Go.AI
noncomputable def h6l1_1 (z0 : Bool) (z1 : Bool) (v2690 : Int) (v2691 : Int) (v2693 : List WaterNode) (v2694 : List WaterConduit) (v2695 : Int) (v2696 : Int) (v2697 : List Int) (v2698 : List Int) (v2699 : List Int) : (Int) → Env × Heap
  | v2692 => ([(2, .ptr 2 0), (3, .ptr 3 0), (5, .int .i64 v2690), (7, .int .i64 v2691), (8, .ptr 4 0), (10, .slice 7 0 v2699.length v2699.length 1 false), (15, .int .i64 v2692)], [.row z0 true (rowC v2693), .row z1 true (rowC v2694), .row true false [.slice 0 0 v2693.length v2693.length 4 false, .slice 1 0 v2694.length v2694.length 6 false], .row true true [.int .i64 v2695, .int .i64 v2696], .row true false [.slice 5 0 v2697.length v2697.length 1 false, .slice 6 0 v2698.length v2698.length 1 false], .row true true (rowC v2697), .row true true (rowC v2698), .row true true (rowC v2699)])
noncomputable def q6l1_1 (z0 : Bool) (z1 : Bool) (v2690 : Int) (v2691 : Int) (v2693 : List WaterNode) (v2694 : List WaterConduit) (v2695 : Int) (v2696 : Int) (v2697 : List Int) (v2698 : List Int) (v2699 : List Int) : ((Unit) ⊕ (Unit)) → AExit × Env × Heap
  | .inl (_) => (.exit 2, [(2, .ptr 2 0), (3, .ptr 3 0), (4, .undef), (5, .int .i64 v2690), (7, .int .i64 v2691), (8, .ptr 4 0)], [.row z0 true (rowC v2693), .row z1 true (rowC v2694), .row true false [.slice 0 0 v2693.length v2693.length 4 false, .slice 1 0 v2694.length v2694.length 6 false], .row true true [.int .i64 v2695, .int .i64 v2696], .row true false [.slice 5 0 v2697.length v2697.length 1 false, .slice 6 0 v2698.length v2698.length 1 false], .row true true (rowC v2697), .row true true (rowC v2698)])
  | .inr (_) => (.ret, [(2, .ptr 2 0), (3, .ptr 3 0), (4, .bool false), (5, .int .i64 v2690), (7, .int .i64 v2691), (8, .ptr 4 0)], [.row z0 true (rowC v2693), .row z1 true (rowC v2694), .row true false [.slice 0 0 v2693.length v2693.length 4 false, .slice 1 0 v2694.length v2694.length 6 false], .row true true [.int .i64 v2695, .int .i64 v2696], .row true false [.slice 5 0 v2697.length v2697.length 1 false, .slice 6 0 v2698.length v2698.length 1 false], .row true true (rowC v2697), .row true true (rowC v2698)])
theorem k6l1_1 (z0 : Bool) (z1 : Bool) (v2690 : Int) (v2691 : Int) (v2693 : List WaterNode) (v2694 : List WaterConduit) (v2695 : Int) (v2696 : Int) (v2697 : List Int) (v2698 : List Int) (v2699 : List Int) (s : Int) (o : (Unit) ⊕ (Unit)) (h : L6l1_1 v2690 v2691 v2693 v2694 v2695 v2696 v2697 v2698 v2699 s = some o) : Ev fun n => loopAt [2, 3, 5, 7, 8, 10, 15] [2, 3, 4, 5, 7, 8] a6l1b (ex tab n) 2 (h6l1_1 z0 z1 v2690 v2691 v2693 v2694 v2695 v2696 v2697 v2698 v2699 s) = some (q6l1_1 z0 z1 v2690 v2691 v2693 v2694 v2695 v2696 v2697 v2698 v2699 o) := by
  refine iter_sound (S6l1_1 v2690 v2691 v2693 v2694 v2695 v2696 v2697 v2698 v2699) [2, 3, 5, 7, 8, 10, 15] [2, 3, 4, 5, 7, 8] a6l1b 2 (h6l1_1 z0 z1 v2690 v2691 v2693 v2694 v2695 v2696 v2697 v2698 v2699) (q6l1_1 z0 z1 v2690 v2691 v2693 v2694 v2695 v2696 v2697 v2698 v2699) ?_ _ _ _ h
  rintro v2692 z h
  simp only [S6l1_1] at h
  by_cases c2700 : (v2693.length : Int) ≤ v2692
  · rw [if_pos c2700] at h
    have c2700d := dt c2700
    cases h
    refine ⟨0, fun n hn => ?_⟩
    simp (maxSteps := 2000000) only [W, reduceIte, Nat.reduceEqDiff, Nat.reduceAdd, Nat.reduceSub, Nat.reduceLT, Nat.reduceLeDiff, Nat.reduceMul, h6l1_1, q6l1_1, a6l1b, rc_WaterNode, c2700d, wd]
  · rw [if_neg c2700] at h
    have c2700d := df c2700
    obtain ⟨j2701, x2702, g2703, h⟩ := un2 h
    obtain ⟨g27031, g27032⟩ := geti_in g2703
    have g27033 := ac_WaterNode g27032
    try simp only [wn] at g27031
    by_cases c2704 : x2702.fLake = true
    · rw [if_pos c2704] at h
      have c2704d := c2704
      obtain ⟨j2705, x2706, g2707, h⟩ := un2 h
      obtain ⟨g27071, g27072⟩ := geti_in g2707
      have g27073 := ac_Int g27072
      try simp only [wn] at g27071
      by_cases c2708 : x2706 = (aw .i64 (1000 * x2702.fHead))
      · rw [if_pos c2708] at h
        have c2708d := dt c2708
        cases h
        refine ⟨0, fun n hn => ?_⟩
        simp (maxSteps := 2000000) only [W, reduceIte, Nat.reduceEqDiff, Nat.reduceAdd, Nat.reduceSub, Nat.reduceLT, Nat.reduceLeDiff, Nat.reduceMul, h6l1_1, q6l1_1, a6l1b, rc_WaterNode, c2700d, g27031, g27033, c2704d, g27071, g27073, c2708d, wd]
      · rw [if_neg c2708] at h
        have c2708d := df c2708
        cases h
        refine ⟨0, fun n hn => ?_⟩
        simp (maxSteps := 2000000) only [W, reduceIte, Nat.reduceEqDiff, Nat.reduceAdd, Nat.reduceSub, Nat.reduceLT, Nat.reduceLeDiff, Nat.reduceMul, h6l1_1, q6l1_1, a6l1b, rc_WaterNode, c2700d, g27031, g27033, c2704d, g27071, g27073, c2708d, wd]
    · rw [if_neg c2704] at h
      have c2704d := bf c2704
      obtain ⟨j2709, x2710, g2711, h⟩ := un2 h
      obtain ⟨g27111, g27112⟩ := geti_in g2711
      have g27113 := ac_Int g27112
      try simp only [wn] at g27111
      by_cases c2712 : x2710 = x2702.fDraw
      · rw [if_pos c2712] at h
        have c2712d := dt c2712
        cases h
        refine ⟨0, fun n hn => ?_⟩
        simp (maxSteps := 2000000) only [W, reduceIte, Nat.reduceEqDiff, Nat.reduceAdd, Nat.reduceSub, Nat.reduceLT, Nat.reduceLeDiff, Nat.reduceMul, h6l1_1, q6l1_1, a6l1b, rc_WaterNode, c2700d, g27031, g27033, c2704d, g27111, g27113, c2712d, wd]
      · rw [if_neg c2712] at h
        have c2712d := df c2712
        cases h
        refine ⟨0, fun n hn => ?_⟩
        simp (maxSteps := 2000000) only [W, reduceIte, Nat.reduceEqDiff, Nat.reduceAdd, Nat.reduceSub, Nat.reduceLT, Nat.reduceLeDiff, Nat.reduceMul, h6l1_1, q6l1_1, a6l1b, rc_WaterNode, c2700d, g27031, g27033, c2704d, g27111, g27113, c2712d, wd]
end Go.AI
end
