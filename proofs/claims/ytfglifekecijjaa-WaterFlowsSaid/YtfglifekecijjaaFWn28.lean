import Derived.Test.YtfglifekecijjaaFAiY
import Derived.Test.YtfglifekecijjaaFAiTab
import Derived.Test.YtfglifekecijjaaFAiAwake
import Derived.Test.YtfglifekecijjaaFWnF
import Derived.Test.YtfglifekecijjaaFWn1
import Derived.Test.YtfglifekecijjaaFWn13
import Derived.Test.YtfglifekecijjaaFWn21
section
/-
  Functions, walked through: guidevaneref02.through, guidevaneref02.State, guidevaneref02.Gap.
-/
set_option linter.unusedVariables false
set_option linter.unusedSimpArgs false
set_option maxRecDepth 100000
set_option maxHeartbeats 4000000
namespace Go.AI
theorem c143_0 (z0 : Bool) (z1 : Bool) (z2 : Bool) (z3 : Bool) (v3510 : Int) (v3511 : Int) (v3512 : List WaterNode) (v3513 : List WaterConduit) (v3514 : List Int) (v3515 : List Int) (r3558 : Bool) (h : F143_0 v3510 v3511 v3512 v3513 v3514 v3515 = some r3558) : Ev fun n => (ex tab n).call 143 [.agg [.slice 0 0 v3512.length v3512.length 4 false, .slice 1 0 v3513.length v3513.length 6 false], .slice 2 0 v3514.length v3514.length 1 false, .slice 3 0 v3515.length v3515.length 1 false, .int .i64 v3510, .int .i64 v3511] [.row z0 true (rowC v3512), .row z1 true (rowC v3513), .row z2 true (rowC v3514), .row z3 true (rowC v3515)] = some (.bool r3558, [.row z0 true (rowC v3512), .row z1 true (rowC v3513), .row z2 true (rowC v3514), .row z3 true (rowC v3515)]) := by
  unfold F143_0 at h
  obtain ⟨r3557, g3555, h⟩ := un1 h
  have kN3556 := k143l0_0 z0 z1 z2 z3 v3511 v3512 v3513 v3514 v3515 v3510 _ g3555
  obtain ⟨N3556, kN3556⟩ := kN3556
  cases h
  refine ev_call (fn := a143) rfl ⟨N3556, fun n hn => ?_⟩
  have kN3556 := kN3556 n (by omega)
  simp (maxSteps := 2000000) only [h143l0_0, q143l0_0, wn, rc_WaterConduit] at kN3556
  simp (maxSteps := 2000000) only [W, reduceIte, Nat.reduceEqDiff, Nat.reduceAdd, Nat.reduceSub, Nat.reduceLT, Nat.reduceLeDiff, Nat.reduceMul, a143, a143l0, rc_WaterConduit, kN3556, @x_loopAt]
noncomputable def h114l1_0 (z0 : Bool) (z1 : Bool) (v3497 : Int) (v3500 : List WaterNode) (v3501 : List WaterConduit) (v3502 : List Int) (v3503 : List Int) (v3504 : List Int) (v3505 : List Int) (v3506 : List Int) (v3507 : List Int) (v3508 : List Int) : (Int × Int) → Env × Heap
  | (v3498, v3499) => ([(2, .ptr 2 0), (4, .ptr 3 0), (5, .slice 6 0 v3504.length v3504.length 1 false), (6, .slice 7 0 v3505.length v3505.length 1 false), (10, .slice 8 0 v3506.length v3506.length 1 false), (12, .ptr 9 0), (14, .int .i64 v3497), (15, .int .i64 v3498), (16, .int .i64 v3499)], [.row z0 true (rowC v3500), .row z1 true (rowC v3501), .row true false [.slice 0 0 v3500.length v3500.length 4 false, .slice 1 0 v3501.length v3501.length 6 false], .row true false [.slice 4 0 v3502.length v3502.length 1 false, .slice 5 0 v3503.length v3503.length 1 false], .row true true (rowC v3502), .row true true (rowC v3503), .row true true (rowC v3504), .row true true (rowC v3505), .row true true (rowC v3506), .row true false [.slice 10 0 v3507.length v3507.length 1 true, .slice 11 0 v3508.length v3508.length 1 true], .row true true (rowC v3507), .row true true (rowC v3508)])
noncomputable def q114l1_0 (z0 : Bool) (z1 : Bool) (v3497 : Int) (v3500 : List WaterNode) (v3501 : List WaterConduit) (v3502 : List Int) (v3503 : List Int) (v3504 : List Int) (v3505 : List Int) (v3506 : List Int) (v3507 : List Int) (v3508 : List Int) : (Int) → AExit × Env × Heap
  | r3569 => (.exit 4, [(2, .ptr 2 0), (4, .ptr 3 0), (5, .slice 6 0 v3504.length v3504.length 1 false), (6, .slice 7 0 v3505.length v3505.length 1 false), (10, .slice 8 0 v3506.length v3506.length 1 false), (12, .ptr 9 0), (14, .int .i64 v3497), (15, .int .i64 r3569)], [.row z0 true (rowC v3500), .row z1 true (rowC v3501), .row true false [.slice 0 0 v3500.length v3500.length 4 false, .slice 1 0 v3501.length v3501.length 6 false], .row true false [.slice 4 0 v3502.length v3502.length 1 false, .slice 5 0 v3503.length v3503.length 1 false], .row true true (rowC v3502), .row true true (rowC v3503), .row true true (rowC v3504), .row true true (rowC v3505), .row true true (rowC v3506), .row true false [.slice 10 0 v3507.length v3507.length 1 true, .slice 11 0 v3508.length v3508.length 1 true], .row true true (rowC v3507), .row true true (rowC v3508)])
theorem k114l1_0 (z0 : Bool) (z1 : Bool) (v3497 : Int) (v3500 : List WaterNode) (v3501 : List WaterConduit) (v3502 : List Int) (v3503 : List Int) (v3504 : List Int) (v3505 : List Int) (v3506 : List Int) (v3507 : List Int) (v3508 : List Int) (s : Int × Int) (o : Int) (h : L114l1_0 v3497 v3500 v3501 v3502 v3503 v3504 v3505 v3506 v3507 v3508 s = some o) : Ev fun n => loopAt [2, 4, 5, 6, 10, 12, 14, 15, 16] [2, 4, 5, 6, 10, 12, 14, 15] a114l1b (ex tab n) 2 (h114l1_0 z0 z1 v3497 v3500 v3501 v3502 v3503 v3504 v3505 v3506 v3507 v3508 s) = some (q114l1_0 z0 z1 v3497 v3500 v3501 v3502 v3503 v3504 v3505 v3506 v3507 v3508 o) := by
  refine iter_sound (S114l1_0 v3497 v3500 v3501 v3502 v3503 v3504 v3505 v3506 v3507 v3508) [2, 4, 5, 6, 10, 12, 14, 15, 16] [2, 4, 5, 6, 10, 12, 14, 15] a114l1b 2 (h114l1_0 z0 z1 v3497 v3500 v3501 v3502 v3503 v3504 v3505 v3506 v3507 v3508) (q114l1_0 z0 z1 v3497 v3500 v3501 v3502 v3503 v3504 v3505 v3506 v3507 v3508) ?_ _ _ _ h
  rintro ⟨v3498, v3499⟩ z h
  simp only [S114l1_0] at h
  by_cases c3509 : (v3504.length : Int) ≤ v3499
  · rw [if_pos c3509] at h
    have c3509d := dt c3509
    cases h
    refine ⟨0, fun n hn => ?_⟩
    simp (maxSteps := 2000000) only [W, reduceIte, Nat.reduceEqDiff, Nat.reduceAdd, Nat.reduceSub, Nat.reduceLT, Nat.reduceLeDiff, Nat.reduceMul, h114l1_0, q114l1_0, a114l1b, c3509d]
  · rw [if_neg c3509] at h
    have c3509d := df c3509
    obtain ⟨r3561, g3559, h⟩ := un1 h
    obtain ⟨N3560, kN3560⟩ := c143_0 z0 z1 true true v3499 v3497 v3500 v3501 v3504 v3505 _ g3559
    by_cases c3562 : r3561 = true
    · rw [if_pos c3562] at h
      have c3562d := c3562
      obtain ⟨j3563, x3564, g3565, h⟩ := un2 h
      obtain ⟨g35651, g35652⟩ := geti_in g3565
      have g35653 := ac_Int g35652
      try simp only [wn] at g35651
      obtain ⟨j3566, x3567, g3568, h⟩ := un2 h
      obtain ⟨g35681, g35682⟩ := geti_in g3568
      have g35683 := ac_Int g35682
      try simp only [wn] at g35681
      cases h
      refine ⟨N3560, fun n hn => ?_⟩
      have kN3560 := kN3560 n (by omega)
      try simp (maxSteps := 2000000) only [wn] at kN3560
      simp (maxSteps := 2000000) only [W, reduceIte, Nat.reduceEqDiff, Nat.reduceAdd, Nat.reduceSub, Nat.reduceLT, Nat.reduceLeDiff, Nat.reduceMul, h114l1_0, q114l1_0, a114l1b, c3509d, kN3560, c3562d, g35651, g35653, g35681, g35683]
    · rw [if_neg c3562] at h
      have c3562d := bf c3562
      cases h
      refine ⟨N3560, fun n hn => ?_⟩
      have kN3560 := kN3560 n (by omega)
      try simp (maxSteps := 2000000) only [wn] at kN3560
      simp (maxSteps := 2000000) only [W, reduceIte, Nat.reduceEqDiff, Nat.reduceAdd, Nat.reduceSub, Nat.reduceLT, Nat.reduceLeDiff, Nat.reduceMul, h114l1_0, q114l1_0, a114l1b, c3509d, kN3560, c3562d]
noncomputable def h114l2_0 (z0 : Bool) (z1 : Bool) (v3487 : List WaterNode) (v3488 : List WaterConduit) (v3489 : List Int) (v3490 : List Int) (v3491 : List Int) (v3492 : List Int) (v3493 : List Int) (v3495 : List Int) : (Int × (List Int)) → Env × Heap
  | (v3486, v3494) => ([(2, .ptr 2 0), (4, .ptr 3 0), (5, .slice 6 0 v3491.length v3491.length 1 false), (6, .slice 7 0 v3492.length v3492.length 1 false), (10, .slice 8 0 v3493.length v3493.length 1 false), (12, .ptr 9 0), (14, .int .i64 v3486)], [.row z0 true (rowC v3487), .row z1 true (rowC v3488), .row true false [.slice 0 0 v3487.length v3487.length 4 false, .slice 1 0 v3488.length v3488.length 6 false], .row true false [.slice 4 0 v3489.length v3489.length 1 false, .slice 5 0 v3490.length v3490.length 1 false], .row true true (rowC v3489), .row true true (rowC v3490), .row true true (rowC v3491), .row true true (rowC v3492), .row true true (rowC v3493), .row true false [.slice 10 0 v3494.length v3494.length 1 true, .slice 11 0 v3495.length v3495.length 1 true], .row true true (rowC v3494), .row true true (rowC v3495)])
noncomputable def q114l2_0 (z0 : Bool) (z1 : Bool) (v3487 : List WaterNode) (v3488 : List WaterConduit) (v3489 : List Int) (v3490 : List Int) (v3491 : List Int) (v3492 : List Int) (v3493 : List Int) (v3495 : List Int) : ((List Int)) → AExit × Env × Heap
  | r3589 => (.exit 2, [(2, .ptr 2 0), (4, .ptr 3 0), (5, .slice 6 0 v3491.length v3491.length 1 false), (6, .slice 7 0 v3492.length v3492.length 1 false), (12, .ptr 8 0)], [.row z0 true (rowC v3487), .row z1 true (rowC v3488), .row true false [.slice 0 0 v3487.length v3487.length 4 false, .slice 1 0 v3488.length v3488.length 6 false], .row true false [.slice 4 0 v3489.length v3489.length 1 false, .slice 5 0 v3490.length v3490.length 1 false], .row true true (rowC v3489), .row true true (rowC v3490), .row true true (rowC v3491), .row true true (rowC v3492), .row true false [.slice 9 0 r3589.length r3589.length 1 true, .slice 10 0 v3495.length v3495.length 1 true], .row true true (rowC r3589), .row true true (rowC v3495)])
theorem k114l2_0 (z0 : Bool) (z1 : Bool) (v3487 : List WaterNode) (v3488 : List WaterConduit) (v3489 : List Int) (v3490 : List Int) (v3491 : List Int) (v3492 : List Int) (v3493 : List Int) (v3495 : List Int) (s : Int × (List Int)) (o : (List Int)) (h : L114l2_0 v3487 v3488 v3489 v3490 v3491 v3492 v3493 v3495 s = some o) : Ev fun n => loopAt [2, 4, 5, 6, 10, 12, 14] [2, 4, 5, 6, 12] a114l2b (ex tab n) 2 (h114l2_0 z0 z1 v3487 v3488 v3489 v3490 v3491 v3492 v3493 v3495 s) = some (q114l2_0 z0 z1 v3487 v3488 v3489 v3490 v3491 v3492 v3493 v3495 o) := by
  refine iter_sound (S114l2_0 v3487 v3488 v3489 v3490 v3491 v3492 v3493 v3495) [2, 4, 5, 6, 10, 12, 14] [2, 4, 5, 6, 12] a114l2b 2 (h114l2_0 z0 z1 v3487 v3488 v3489 v3490 v3491 v3492 v3493 v3495) (q114l2_0 z0 z1 v3487 v3488 v3489 v3490 v3491 v3492 v3493 v3495) ?_ _ _ _ h
  rintro ⟨v3486, v3494⟩ z h
  simp only [S114l2_0] at h
  by_cases c3496 : (v3491.length : Int) ≤ v3486
  · rw [if_pos c3496] at h
    have c3496d := dt c3496
    cases h
    refine ⟨0, fun n hn => ?_⟩
    simp (maxSteps := 2000000) only [W, reduceIte, Nat.reduceEqDiff, Nat.reduceAdd, Nat.reduceSub, Nat.reduceLT, Nat.reduceLeDiff, Nat.reduceMul, h114l2_0, q114l2_0, a114l1, a114l2b, rc_WaterConduit, c3496d, @x_loopAt, wd]
  · rw [if_neg c3496] at h
    have c3496d := df c3496
    obtain ⟨r3572, g3570, h⟩ := un1 h
    have kN3571 := k114l1_0 z0 z1 v3486 v3487 v3488 v3489 v3490 v3491 v3492 v3493 v3494 v3495 (0, v3486) _ g3570
    obtain ⟨N3571, kN3571⟩ := kN3571
    obtain ⟨j3573, x3574, g3575, h⟩ := un2 h
    obtain ⟨g35751, g35752⟩ := geti_in g3575
    have g35753 := ac_Int g35752
    try simp only [wn] at g35751
    obtain ⟨j3576, x3577, g3578, h⟩ := un2 h
    obtain ⟨g35781, g35782⟩ := geti_in g3578
    have g35783 := ac_WaterConduit g35782
    try simp only [wn] at g35781
    obtain ⟨j3579, x3580, g3581, h⟩ := un2 h
    obtain ⟨g35811, g35812⟩ := geti_in g3581
    have g35813 := ac_Int g35812
    try simp only [wn] at g35811
    by_cases c3582 : x3577.fTo = x3580
    · rw [if_pos c3582] at h
      have c3582d := dt c3582
      obtain ⟨j3583, x3584, g3585, h⟩ := un2 h
      obtain ⟨g35851, g35852⟩ := geti_in g3585
      have g35853 := ac_Int g35852
      try simp only [wn] at g35851
      cases h
      refine ⟨N3571, fun n hn => ?_⟩
      have kN3571 := kN3571 n (by omega)
      simp (maxSteps := 2000000) only [h114l1_0, q114l1_0, wn] at kN3571
      simp (maxSteps := 2000000) only [W, reduceIte, Nat.reduceEqDiff, Nat.reduceAdd, Nat.reduceSub, Nat.reduceLT, Nat.reduceLeDiff, Nat.reduceMul, h114l2_0, q114l2_0, a114l1, a114l2b, rc_WaterConduit, c3496d, kN3571, g35751, g35753, g35781, g35783, g35811, g35813, c3582d, g35851, g35853, @x_loopAt, wd]
    · rw [if_neg c3582] at h
      have c3582d := df c3582
      obtain ⟨j3586, x3587, g3588, h⟩ := un2 h
      obtain ⟨g35881, g35882⟩ := geti_in g3588
      have g35883 := ac_Int g35882
      try simp only [wn] at g35881
      cases h
      refine ⟨N3571, fun n hn => ?_⟩
      have kN3571 := kN3571 n (by omega)
      simp (maxSteps := 2000000) only [h114l1_0, q114l1_0, wn] at kN3571
      simp (maxSteps := 2000000) only [W, reduceIte, Nat.reduceEqDiff, Nat.reduceAdd, Nat.reduceSub, Nat.reduceLT, Nat.reduceLeDiff, Nat.reduceMul, h114l2_0, q114l2_0, a114l1, a114l2b, rc_WaterConduit, c3496d, kN3571, g35751, g35753, g35781, g35783, g35811, g35813, c3582d, g35881, g35883, @x_loopAt, wd]
noncomputable def h114l3_0 (z0 : Bool) (z1 : Bool) (v3594 : List WaterNode) (v3595 : List WaterConduit) (v3596 : List Int) (v3597 : List Int) (v3598 : List Int) (v3599 : List Int) (v3600 : List Int) : (Int × (List Int)) → Env × Heap
  | (v3593, v3601) => ([(2, .ptr 2 0), (4, .ptr 3 0), (5, .slice 6 0 v3598.length v3598.length 1 false), (6, .slice 7 0 v3599.length v3599.length 1 false), (12, .ptr 8 0), (17, .int .i64 v3593)], [.row z0 true (rowC v3594), .row z1 true (rowC v3595), .row true false [.slice 0 0 v3594.length v3594.length 4 false, .slice 1 0 v3595.length v3595.length 6 false], .row true false [.slice 4 0 v3596.length v3596.length 1 false, .slice 5 0 v3597.length v3597.length 1 false], .row true true (rowC v3596), .row true true (rowC v3597), .row true true (rowC v3598), .row true true (rowC v3599), .row true false [.slice 9 0 v3600.length v3600.length 1 true, .slice 10 0 v3601.length v3601.length 1 true], .row true true (rowC v3600), .row true true (rowC v3601)])
noncomputable def q114l3_0 (z0 : Bool) (z1 : Bool) (v3594 : List WaterNode) (v3595 : List WaterConduit) (v3596 : List Int) (v3597 : List Int) (v3598 : List Int) (v3599 : List Int) (v3600 : List Int) : ((List Int)) → AExit × Env × Heap
  | r3610 => (.exit 6, [(2, .ptr 2 0), (4, .ptr 3 0), (5, .slice 6 0 v3598.length v3598.length 1 false), (6, .slice 7 0 v3599.length v3599.length 1 false), (12, .ptr 8 0)], [.row z0 true (rowC v3594), .row z1 true (rowC v3595), .row true false [.slice 0 0 v3594.length v3594.length 4 false, .slice 1 0 v3595.length v3595.length 6 false], .row true false [.slice 4 0 v3596.length v3596.length 1 false, .slice 5 0 v3597.length v3597.length 1 false], .row true true (rowC v3596), .row true true (rowC v3597), .row true true (rowC v3598), .row true true (rowC v3599), .row true false [.slice 9 0 v3600.length v3600.length 1 true, .slice 10 0 r3610.length r3610.length 1 true], .row true true (rowC v3600), .row true true (rowC r3610)])
theorem k114l3_0 (z0 : Bool) (z1 : Bool) (v3594 : List WaterNode) (v3595 : List WaterConduit) (v3596 : List Int) (v3597 : List Int) (v3598 : List Int) (v3599 : List Int) (v3600 : List Int) (s : Int × (List Int)) (o : (List Int)) (h : L114l3_0 v3594 v3595 v3596 v3597 v3598 v3599 v3600 s = some o) : Ev fun n => loopAt [2, 4, 5, 6, 12, 17] [2, 4, 5, 6, 12] a114l3b (ex tab n) 2 (h114l3_0 z0 z1 v3594 v3595 v3596 v3597 v3598 v3599 v3600 s) = some (q114l3_0 z0 z1 v3594 v3595 v3596 v3597 v3598 v3599 v3600 o) := by
  refine iter_sound (S114l3_0 v3594 v3595 v3596 v3597 v3598 v3599 v3600) [2, 4, 5, 6, 12, 17] [2, 4, 5, 6, 12] a114l3b 2 (h114l3_0 z0 z1 v3594 v3595 v3596 v3597 v3598 v3599 v3600) (q114l3_0 z0 z1 v3594 v3595 v3596 v3597 v3598 v3599 v3600) ?_ _ _ _ h
  rintro ⟨v3593, v3601⟩ z h
  simp only [S114l3_0] at h
  by_cases c3602 : (v3594.length : Int) ≤ v3593
  · rw [if_pos c3602] at h
    have c3602d := dt c3602
    cases h
    refine ⟨0, fun n hn => ?_⟩
    simp (maxSteps := 2000000) only [W, reduceIte, Nat.reduceEqDiff, Nat.reduceAdd, Nat.reduceSub, Nat.reduceLT, Nat.reduceLeDiff, Nat.reduceMul, h114l3_0, q114l3_0, a114l3b, rc_WaterNode, c3602d, wd]
  · rw [if_neg c3602] at h
    have c3602d := df c3602
    obtain ⟨j3603, x3604, g3605, h⟩ := un2 h
    obtain ⟨g36051, g36052⟩ := geti_in g3605
    have g36053 := ac_WaterNode g36052
    try simp only [wn] at g36051
    by_cases c3606 : x3604.fLake = true
    · rw [if_pos c3606] at h
      have c3606d := c3606
      obtain ⟨j3607, x3608, g3609, h⟩ := un2 h
      obtain ⟨g36091, g36092⟩ := geti_in g3609
      have g36093 := ac_Int g36092
      try simp only [wn] at g36091
      cases h
      refine ⟨0, fun n hn => ?_⟩
      simp (maxSteps := 2000000) only [W, reduceIte, Nat.reduceEqDiff, Nat.reduceAdd, Nat.reduceSub, Nat.reduceLT, Nat.reduceLeDiff, Nat.reduceMul, h114l3_0, q114l3_0, a114l3b, rc_WaterNode, c3602d, g36051, g36053, c3606d, g36091, g36093, wd]
    · rw [if_neg c3606] at h
      have c3606d := bf c3606
      cases h
      refine ⟨0, fun n hn => ?_⟩
      simp (maxSteps := 2000000) only [W, reduceIte, Nat.reduceEqDiff, Nat.reduceAdd, Nat.reduceSub, Nat.reduceLT, Nat.reduceLeDiff, Nat.reduceMul, h114l3_0, q114l3_0, a114l3b, rc_WaterNode, c3602d, g36051, g36053, c3606d, wd]
noncomputable def h114l4_0 (z0 : Bool) (z1 : Bool) (v3615 : List WaterNode) (v3616 : List WaterConduit) (v3617 : List Int) (v3618 : List Int) (v3619 : List Int) (v3620 : List Int) (v3621 : List Int) : (Int × (List Int)) → Env × Heap
  | (v3614, v3622) => ([(2, .ptr 2 0), (4, .ptr 3 0), (5, .slice 6 0 v3619.length v3619.length 1 false), (6, .slice 7 0 v3620.length v3620.length 1 false), (12, .ptr 8 0), (18, .int .i64 v3614)], [.row z0 true (rowC v3615), .row z1 true (rowC v3616), .row true false [.slice 0 0 v3615.length v3615.length 4 false, .slice 1 0 v3616.length v3616.length 6 false], .row true false [.slice 4 0 v3617.length v3617.length 1 false, .slice 5 0 v3618.length v3618.length 1 false], .row true true (rowC v3617), .row true true (rowC v3618), .row true true (rowC v3619), .row true true (rowC v3620), .row true false [.slice 9 0 v3621.length v3621.length 1 true, .slice 10 0 v3622.length v3622.length 1 true], .row true true (rowC v3621), .row true true (rowC v3622)])
noncomputable def q114l4_0 (z0 : Bool) (z1 : Bool) (v3615 : List WaterNode) (v3616 : List WaterConduit) (v3617 : List Int) (v3618 : List Int) (v3619 : List Int) (v3620 : List Int) (v3621 : List Int) : ((List Int)) → AExit × Env × Heap
  | r3658 => (.exit 8, [(4, .ptr 2 0), (12, .ptr 5 0)], [.row z0 true (rowC v3615), .row z1 true (rowC v3616), .row true false [.slice 3 0 v3617.length v3617.length 1 false, .slice 4 0 v3618.length v3618.length 1 false], .row true true (rowC v3617), .row true true (rowC v3618), .row true false [.slice 6 0 v3621.length v3621.length 1 true, .slice 7 0 r3658.length r3658.length 1 true], .row true true (rowC v3621), .row true true (rowC r3658)])
theorem k114l4_0 (z0 : Bool) (z1 : Bool) (v3615 : List WaterNode) (v3616 : List WaterConduit) (v3617 : List Int) (v3618 : List Int) (v3619 : List Int) (v3620 : List Int) (v3621 : List Int) (s : Int × (List Int)) (o : (List Int)) (h : L114l4_0 v3615 v3616 v3617 v3618 v3619 v3620 v3621 s = some o) : Ev fun n => loopAt [2, 4, 5, 6, 12, 18] [4, 12] a114l4b (ex tab n) 2 (h114l4_0 z0 z1 v3615 v3616 v3617 v3618 v3619 v3620 v3621 s) = some (q114l4_0 z0 z1 v3615 v3616 v3617 v3618 v3619 v3620 v3621 o) := by
  refine iter_sound (S114l4_0 v3615 v3616 v3617 v3618 v3619 v3620 v3621) [2, 4, 5, 6, 12, 18] [4, 12] a114l4b 2 (h114l4_0 z0 z1 v3615 v3616 v3617 v3618 v3619 v3620 v3621) (q114l4_0 z0 z1 v3615 v3616 v3617 v3618 v3619 v3620 v3621) ?_ _ _ _ h
  rintro ⟨v3614, v3622⟩ z h
  simp only [S114l4_0] at h
  by_cases c3623 : (v3619.length : Int) ≤ v3614
  · rw [if_pos c3623] at h
    have c3623d := dt c3623
    cases h
    refine ⟨0, fun n hn => ?_⟩
    simp (maxSteps := 2000000) only [W, reduceIte, Nat.reduceEqDiff, Nat.reduceAdd, Nat.reduceSub, Nat.reduceLT, Nat.reduceLeDiff, Nat.reduceMul, h114l4_0, q114l4_0, a114l4b, rc_WaterConduit, c3623d, wd]
  · rw [if_neg c3623] at h
    have c3623d := df c3623
    obtain ⟨j3624, x3625, g3626, h⟩ := un2 h
    obtain ⟨g36261, g36262⟩ := geti_in g3626
    have g36263 := ac_Int g36262
    try simp only [wn] at g36261
    obtain ⟨j3627, x3628, g3629, h⟩ := un2 h
    obtain ⟨g36291, g36292⟩ := geti_in g3629
    have g36293 := ac_WaterConduit g36292
    try simp only [wn] at g36291
    obtain ⟨j3630, x3631, g3632, h⟩ := un2 h
    obtain ⟨g36321, g36322⟩ := geti_in g3632
    have g36323 := ac_Int g36322
    try simp only [wn] at g36321
    by_cases c3633 : x3628.fTo = x3631
    · rw [if_pos c3633] at h
      have c3633d := dt c3633
      obtain ⟨j3634, x3635, g3636, h⟩ := un2 h
      obtain ⟨g36361, g36362⟩ := geti_in g3636
      have g36363 := ac_Int g36362
      try simp only [wn] at g36361
      obtain ⟨j3637, x3638, g3639, h⟩ := un2 h
      obtain ⟨g36391, g36392⟩ := geti_in g3639
      have g36393 := ac_Int g36392
      try simp only [wn] at g36391
      obtain ⟨r3642, g3640, h⟩ := un1 h
      obtain ⟨N3641, kN3641⟩ := c22_0 x3628.fResist x3638 _ g3640
      obtain ⟨j3643, x3644, g3645, h⟩ := un2 h
      obtain ⟨g36451, g36452⟩ := geti_in g3645
      have g36453 := ac_Int g36452
      try simp only [wn] at g36451
      cases h
      refine ⟨N3641, fun n hn => ?_⟩
      have kN3641 := kN3641 n (by omega)
      try simp (maxSteps := 2000000) only [wn, rc_WaterConduit] at kN3641
      simp (maxSteps := 2000000) only [W, reduceIte, Nat.reduceEqDiff, Nat.reduceAdd, Nat.reduceSub, Nat.reduceLT, Nat.reduceLeDiff, Nat.reduceMul, h114l4_0, q114l4_0, a114l4b, rc_WaterConduit, c3623d, g36261, g36263, g36291, g36293, g36321, g36323, c3633d, g36361, g36363, g36391, g36393, kN3641, g36451, g36453, wd]
    · rw [if_neg c3633] at h
      have c3633d := df c3633
      obtain ⟨j3646, x3647, g3648, h⟩ := un2 h
      obtain ⟨g36481, g36482⟩ := geti_in g3648
      have g36483 := ac_Int g36482
      try simp only [wn] at g36481
      obtain ⟨j3649, x3650, g3651, h⟩ := un2 h
      obtain ⟨g36511, g36512⟩ := geti_in g3651
      have g36513 := ac_Int g36512
      try simp only [wn] at g36511
      obtain ⟨r3654, g3652, h⟩ := un1 h
      obtain ⟨N3653, kN3653⟩ := c22_0 x3628.fResist x3650 _ g3652
      obtain ⟨j3655, x3656, g3657, h⟩ := un2 h
      obtain ⟨g36571, g36572⟩ := geti_in g3657
      have g36573 := ac_Int g36572
      try simp only [wn] at g36571
      cases h
      refine ⟨N3653, fun n hn => ?_⟩
      have kN3653 := kN3653 n (by omega)
      try simp (maxSteps := 2000000) only [wn, rc_WaterConduit] at kN3653
      simp (maxSteps := 2000000) only [W, reduceIte, Nat.reduceEqDiff, Nat.reduceAdd, Nat.reduceSub, Nat.reduceLT, Nat.reduceLeDiff, Nat.reduceMul, h114l4_0, q114l4_0, a114l4b, rc_WaterConduit, c3623d, g36261, g36263, g36291, g36293, g36321, g36323, c3633d, g36481, g36483, g36511, g36513, kN3653, g36571, g36573, wd]
theorem c114_0 (z0 : Bool) (z1 : Bool) (v3436 : Int) (v3437 : List WaterNode) (v3438 : List WaterConduit) (r3671 : List Int) (r3672 : List Int) (h : F114_0 v3436 v3437 v3438 = some (r3671, r3672)) : Ev fun n => (ex tab n).call 114 [.agg [.slice 0 0 v3437.length v3437.length 4 false, .slice 1 0 v3438.length v3438.length 6 false], .int .i64 v3436] [.row z0 true (rowC v3437), .row z1 true (rowC v3438)] = some (.agg [.slice 2 0 r3671.length r3671.length 1 true, .slice 3 0 r3672.length r3672.length 1 true], [.row z0 true (rowC v3437), .row z1 true (rowC v3438), .row true true (rowC r3671), .row true true (rowC r3672)]) := by
  unfold F114_0 at h
  obtain ⟨r3441, r3442, r3443, g3439, h⟩ := un3 h
  obtain ⟨N3440, kN3440⟩ := c137_0 z0 z1 v3437 v3438 _ _ _ g3439
  obtain ⟨r3446, r3447, g3444, h⟩ := un2 h
  obtain ⟨N3445, kN3445⟩ := c97_0 z0 z1 v3437 v3438 _ _ g3444
  obtain ⟨r3466, g3464, h⟩ := un1 h
  have kN3465 := k114l0_0 z0 z1 v3436 r3446 v3437 v3438 ([] : List Int) ([] : List Int) r3442 r3443 (0, ([] : List Int)) _ g3464
  obtain ⟨N3465, kN3465⟩ := kN3465
  obtain ⟨n3467, g3468, h⟩ := un1 h
  try simp only [wn] at g3468
  obtain ⟨g3469, h⟩ := un_roomd h
  obtain ⟨n3470, g3471, h⟩ := un1 h
  try simp only [wn] at g3471
  obtain ⟨g3472, h⟩ := un_roomd h
  by_cases c3473 : 0 ≤ r3446
  · rw [if_pos c3473] at h
    have c3473d := dt c3473
    obtain ⟨j3474, x3475, g3476, h⟩ := un2 h
    obtain ⟨g34761, g34762⟩ := geti_in g3476
    have g34763 := ac_WaterConduit g34762
    try simp only [wn] at g34761
    obtain ⟨j3477, x3478, g3479, h⟩ := un2 h
    obtain ⟨g34791, g34792⟩ := geti_in g3479
    have g34793 := ac_Int g34792
    try simp only [wn] at g34791
    try simp only [wn] at g34793
    obtain ⟨j3480, x3481, g3482, h⟩ := un2 h
    obtain ⟨g34821, g34822⟩ := geti_in g3482
    have g34823 := ac_Int g34822
    try simp only [wn] at g34821
    obtain ⟨j3483, x3484, g3485, h⟩ := un2 h
    obtain ⟨g34851, g34852⟩ := geti_in g3485
    have g34853 := ac_Int g34852
    try simp only [wn] at g34851
    try simp only [wn] at g34853
    obtain ⟨r3592, g3590, h⟩ := un1 h
    have kN3591 := k114l2_0 z0 z1 v3437 v3438 ([] : List Int) ([] : List Int) r3442 r3443 ((r3466.set j3480 (aw .i64 (x3481 + v3436))).set j3483 (aw .i64 (x3484 - v3436))) (List.replicate n3470 (0 : Int)) (0, ((List.replicate n3467 (0 : Int)).set j3477 v3436)) _ g3590
    obtain ⟨N3591, kN3591⟩ := kN3591
    obtain ⟨r3613, g3611, h⟩ := un1 h
    have kN3612 := k114l3_0 z0 z1 v3437 v3438 ([] : List Int) ([] : List Int) r3442 r3443 r3592 (0, (List.replicate n3470 (0 : Int))) _ g3611
    obtain ⟨N3612, kN3612⟩ := kN3612
    obtain ⟨r3661, g3659, h⟩ := un1 h
    have kN3660 := k114l4_0 z0 z1 v3437 v3438 ([] : List Int) ([] : List Int) r3442 r3443 r3592 (0, r3613) _ g3659
    obtain ⟨N3660, kN3660⟩ := kN3660
    cases h
    refine ev_call (fn := a114) rfl ⟨N3440 + N3445 + N3465 + N3591 + N3612 + N3660, fun n hn => ?_⟩
    have kN3440 := kN3440 n (by omega)
    try simp (maxSteps := 2000000) only [wn] at kN3440
    have kN3445 := kN3445 n (by omega)
    try simp (maxSteps := 2000000) only [wn] at kN3445
    have kN3465 := kN3465 n (by omega)
    simp (maxSteps := 2000000) only [h114l0_0, q114l0_0, wn, rc_WaterNode] at kN3465
    have kN3591 := kN3591 n (by omega)
    simp (maxSteps := 2000000) only [h114l2_0, q114l2_0, wn, rc_WaterConduit, rc_WaterNode] at kN3591
    have kN3612 := kN3612 n (by omega)
    simp (maxSteps := 2000000) only [h114l3_0, q114l3_0, wn, rc_WaterConduit, rc_WaterNode] at kN3612
    have kN3660 := kN3660 n (by omega)
    simp (maxSteps := 2000000) only [h114l4_0, q114l4_0, wn, rc_WaterConduit, rc_WaterNode] at kN3660
    simp (maxSteps := 2000000) only [W, reduceIte, Nat.reduceEqDiff, Nat.reduceAdd, Nat.reduceSub, Nat.reduceLT, Nat.reduceLeDiff, Nat.reduceMul, a114, a114l0, a114l2, a114l3, a114l4, rc_WaterConduit, rc_WaterNode, kN3440, kN3445, kN3465, g3468, g3469, g3471, g3472, c3473d, g34761, g34763, g34791, g34793, g34821, g34823, g34851, g34853, kN3591, kN3612, kN3660, @x_loopAt, wd]
  · rw [if_neg c3473] at h
    have c3473d := df c3473
    obtain ⟨r3664, g3662, h⟩ := un1 h
    have kN3663 := k114l2_0 z0 z1 v3437 v3438 ([] : List Int) ([] : List Int) r3442 r3443 r3466 (List.replicate n3470 (0 : Int)) (0, (List.replicate n3467 (0 : Int))) _ g3662
    obtain ⟨N3663, kN3663⟩ := kN3663
    obtain ⟨r3667, g3665, h⟩ := un1 h
    have kN3666 := k114l3_0 z0 z1 v3437 v3438 ([] : List Int) ([] : List Int) r3442 r3443 r3664 (0, (List.replicate n3470 (0 : Int))) _ g3665
    obtain ⟨N3666, kN3666⟩ := kN3666
    obtain ⟨r3670, g3668, h⟩ := un1 h
    have kN3669 := k114l4_0 z0 z1 v3437 v3438 ([] : List Int) ([] : List Int) r3442 r3443 r3664 (0, r3667) _ g3668
    obtain ⟨N3669, kN3669⟩ := kN3669
    cases h
    refine ev_call (fn := a114) rfl ⟨N3440 + N3445 + N3465 + N3663 + N3666 + N3669, fun n hn => ?_⟩
    have kN3440 := kN3440 n (by omega)
    try simp (maxSteps := 2000000) only [wn] at kN3440
    have kN3445 := kN3445 n (by omega)
    try simp (maxSteps := 2000000) only [wn] at kN3445
    have kN3465 := kN3465 n (by omega)
    simp (maxSteps := 2000000) only [h114l0_0, q114l0_0, wn, rc_WaterNode] at kN3465
    have kN3663 := kN3663 n (by omega)
    simp (maxSteps := 2000000) only [h114l2_0, q114l2_0, wn, rc_WaterConduit, rc_WaterNode] at kN3663
    have kN3666 := kN3666 n (by omega)
    simp (maxSteps := 2000000) only [h114l3_0, q114l3_0, wn, rc_WaterConduit, rc_WaterNode] at kN3666
    have kN3669 := kN3669 n (by omega)
    simp (maxSteps := 2000000) only [h114l4_0, q114l4_0, wn, rc_WaterConduit, rc_WaterNode] at kN3669
    simp (maxSteps := 2000000) only [W, reduceIte, Nat.reduceEqDiff, Nat.reduceAdd, Nat.reduceSub, Nat.reduceLT, Nat.reduceLeDiff, Nat.reduceMul, a114, a114l0, a114l2, a114l3, a114l4, rc_WaterConduit, rc_WaterNode, kN3440, kN3445, kN3465, g3468, g3469, g3471, g3472, c3473d, kN3663, kN3666, kN3669, @x_loopAt, wd]
theorem c112_0 (z0 : Bool) (z1 : Bool) (v3426 : Int) (v3427 : List WaterNode) (v3428 : List WaterConduit) (r3686 : Int) (h : F112_0 v3426 v3427 v3428 = some r3686) : Ev fun n => (ex tab n).call 112 [.agg [.slice 0 0 v3427.length v3427.length 4 false, .slice 1 0 v3428.length v3428.length 6 false], .int .i64 v3426] [.row z0 true (rowC v3427), .row z1 true (rowC v3428)] = some (.int .i64 r3686, [.row z0 true (rowC v3427), .row z1 true (rowC v3428)]) := by
  unfold F112_0 at h
  obtain ⟨r3431, r3432, g3429, h⟩ := un2 h
  obtain ⟨N3430, kN3430⟩ := c97_0 z0 z1 v3427 v3428 _ _ g3429
  obtain ⟨j3433, x3434, g3435, h⟩ := un2 h
  obtain ⟨g34351, g34352⟩ := geti_in g3435
  have g34353 := ac_WaterConduit g34352
  try simp only [wn] at g34351
  obtain ⟨r3675, r3676, g3673, h⟩ := un2 h
  obtain ⟨N3674, kN3674⟩ := c114_0 false false v3426 v3427 v3428 _ _ g3673
  obtain ⟨r3679, g3677, h⟩ := un1 h
  obtain ⟨N3678, kN3678⟩ := c22_0 x3434.fResist v3426 _ g3677
  obtain ⟨j3680, x3681, g3682, h⟩ := un2 h
  obtain ⟨g36821, g36822⟩ := geti_in g3682
  have g36823 := ac_Int g36822
  try simp only [wn] at g36821
  obtain ⟨j3683, x3684, g3685, h⟩ := un2 h
  obtain ⟨g36851, g36852⟩ := geti_in g3685
  have g36853 := ac_Int g36852
  try simp only [wn] at g36851
  cases h
  refine ev_call (fn := a112) rfl ⟨N3430 + N3674 + N3678, fun n hn => ?_⟩
  have kN3430 := kN3430 n (by omega)
  try simp (maxSteps := 2000000) only [wn] at kN3430
  have kN3674 := kN3674 n (by omega)
  try simp (maxSteps := 2000000) only [wn, rc_WaterConduit] at kN3674
  have kN3678 := kN3678 n (by omega)
  try simp (maxSteps := 2000000) only [wn, rc_WaterConduit] at kN3678
  simp (maxSteps := 2000000) only [W, reduceIte, Nat.reduceEqDiff, Nat.reduceAdd, Nat.reduceSub, Nat.reduceLT, Nat.reduceLeDiff, Nat.reduceMul, a112, rc_WaterConduit, kN3430, g34351, g34353, kN3674, kN3678, g36821, g36823, g36851, g36853, wd]
end Go.AI
end
section
/-
  Functions, walked through: guidevaneref02.Circulation, guidevaneref02.CheckCirculation, guidevaneref02.Steady, guidevanebase.Ranges, guidevaneref02.SameSteady.
-/
set_option linter.unusedVariables false
set_option linter.unusedSimpArgs false
set_option maxRecDepth 100000
set_option maxHeartbeats 4000000
namespace Go.AI
noncomputable def h53l0_0 (z0 : Bool) (z1 : Bool) (v3710 : List WaterNode) (v3711 : List WaterConduit) : (Int × Int) → Env × Heap
  | (v3708, v3709) => ([(1, .ptr 2 0), (2, .ptr 3 0), (6, .int .i64 v3708), (7, .int .i64 v3709)], [.row z0 true (rowC v3710), .row z1 true (rowC v3711), .row true false [.slice 0 0 v3710.length v3710.length 4 false, .slice 1 0 v3711.length v3711.length 6 false], .row true true [.int .i64 0, .int .i64 0]])
noncomputable def q53l0_0 (z0 : Bool) (z1 : Bool) (v3710 : List WaterNode) (v3711 : List WaterConduit) : (Int) → AExit × Env × Heap
  | r3722 => (.exit 0, [(1, .ptr 2 0), (2, .ptr 3 0), (3, .undef), (6, .int .i64 r3722)], [.row z0 true (rowC v3710), .row z1 true (rowC v3711), .row true false [.slice 0 0 v3710.length v3710.length 4 false, .slice 1 0 v3711.length v3711.length 6 false], .row true true [.int .i64 0, .int .i64 0]])
theorem k53l0_0 (z0 : Bool) (z1 : Bool) (v3710 : List WaterNode) (v3711 : List WaterConduit) (s : Int × Int) (o : Int) (h : L53l0_0 v3710 v3711 s = some o) : Ev fun n => loopAt [1, 2, 6, 7] [1, 2, 3, 6] a53l0b (ex tab n) 2 (h53l0_0 z0 z1 v3710 v3711 s) = some (q53l0_0 z0 z1 v3710 v3711 o) := by
  refine iter_sound (S53l0_0 v3710 v3711) [1, 2, 6, 7] [1, 2, 3, 6] a53l0b 2 (h53l0_0 z0 z1 v3710 v3711) (q53l0_0 z0 z1 v3710 v3711) ?_ _ _ _ h
  rintro ⟨v3708, v3709⟩ z h
  simp only [S53l0_0] at h
  by_cases c3714 : v3709 ≤ v3708
  · rw [if_pos c3714] at h
    have c3714d := dt c3714
    cases h
    refine ⟨0, fun n hn => ?_⟩
    simp (maxSteps := 2000000) only [W, reduceIte, Nat.reduceEqDiff, Nat.reduceAdd, Nat.reduceSub, Nat.reduceLT, Nat.reduceLeDiff, Nat.reduceMul, h53l0_0, q53l0_0, a53l0b, c3714d]
  · rw [if_neg c3714] at h
    have c3714d := df c3714
    obtain ⟨r3717, g3715, h⟩ := un1 h
    obtain ⟨N3716, kN3716⟩ := c113_0 (aw .i64 (v3708 + v3709)) 2 _ g3715
    obtain ⟨r3720, g3718, h⟩ := un1 h
    obtain ⟨N3719, kN3719⟩ := c112_0 z0 z1 r3717 v3710 v3711 _ g3718
    by_cases c3721 : 0 ≤ r3720
    · rw [if_pos c3721] at h
      have c3721d := dt c3721
      cases h
      refine ⟨N3716 + N3719, fun n hn => ?_⟩
      have kN3716 := kN3716 n (by omega)
      try simp (maxSteps := 2000000) only [wn] at kN3716
      have kN3719 := kN3719 n (by omega)
      try simp (maxSteps := 2000000) only [wn] at kN3719
      simp (maxSteps := 2000000) only [W, reduceIte, Nat.reduceEqDiff, Nat.reduceAdd, Nat.reduceSub, Nat.reduceLT, Nat.reduceLeDiff, Nat.reduceMul, h53l0_0, q53l0_0, a53l0b, c3714d, kN3716, kN3719, c3721d]
    · rw [if_neg c3721] at h
      have c3721d := df c3721
      cases h
      refine ⟨N3716 + N3719, fun n hn => ?_⟩
      have kN3716 := kN3716 n (by omega)
      try simp (maxSteps := 2000000) only [wn] at kN3716
      have kN3719 := kN3719 n (by omega)
      try simp (maxSteps := 2000000) only [wn] at kN3719
      simp (maxSteps := 2000000) only [W, reduceIte, Nat.reduceEqDiff, Nat.reduceAdd, Nat.reduceSub, Nat.reduceLT, Nat.reduceLeDiff, Nat.reduceMul, h53l0_0, q53l0_0, a53l0b, c3714d, kN3716, kN3719, c3721d]
theorem c53_0 (z0 : Bool) (z1 : Bool) (v3419 : List WaterNode) (v3420 : List WaterConduit) (r3730 : Int) (r3731 : Int) (r3732 : Int) (h : F53_0 v3419 v3420 = some (r3730, r3731, r3732)) : Ev fun n => (ex tab n).call 53 [.agg [.slice 0 0 v3419.length v3419.length 4 false, .slice 1 0 v3420.length v3420.length 6 false]] [.row z0 true (rowC v3419), .row z1 true (rowC v3420)] = some (.tup [.agg [.int .i64 r3730, .int .i64 r3731], .int .i64 r3732], [.row z0 true (rowC v3419), .row z1 true (rowC v3420)]) := by
  unfold F53_0 at h
  obtain ⟨r3423, r3424, g3421, h⟩ := un2 h
  obtain ⟨N3422, kN3422⟩ := c97_0 z0 z1 v3419 v3420 _ _ g3421
  by_cases c3425 : 0 ≤ r3423
  · rw [if_pos c3425] at h
    have c3425d := dt c3425
    obtain ⟨r3689, g3687, h⟩ := un1 h
    obtain ⟨N3688, kN3688⟩ := c112_0 false false (-200000) v3419 v3420 _ g3687
    obtain ⟨r3692, g3690, h⟩ := un1 h
    obtain ⟨N3691, kN3691⟩ := c112_0 z0 z1 200000 v3419 v3420 _ g3690
    by_cases c3693 : r3689 = r3692
    · rw [if_pos c3693] at h
      have c3693d := dt c3693
      cases h
      refine ev_call (fn := a53) rfl ⟨N3422 + N3688 + N3691, fun n hn => ?_⟩
      have kN3422 := kN3422 n (by omega)
      try simp (maxSteps := 2000000) only [wn] at kN3422
      have kN3688 := kN3688 n (by omega)
      try simp (maxSteps := 2000000) only [wn] at kN3688
      have kN3691 := kN3691 n (by omega)
      try simp (maxSteps := 2000000) only [wn] at kN3691
      simp (maxSteps := 2000000) only [W, reduceIte, Nat.reduceEqDiff, Nat.reduceAdd, Nat.reduceSub, Nat.reduceLT, Nat.reduceLeDiff, Nat.reduceMul, a53, a53l0, kN3422, c3425d, kN3688, kN3691, c3693d, @x_loopAt, wd]
    · rw [if_neg c3693] at h
      have c3693d := df c3693
      obtain ⟨r3725, g3723, h⟩ := un1 h
      have kN3724 := k53l0_0 z0 z1 v3419 v3420 ((-200000), 200000) _ g3723
      obtain ⟨N3724, kN3724⟩ := kN3724
      obtain ⟨r3728, g3726, h⟩ := un1 h
      obtain ⟨N3727, kN3727⟩ := c112_0 z0 z1 r3725 v3419 v3420 _ g3726
      by_cases c3729 : r3728 = 0
      · rw [if_pos c3729] at h
        have c3729d := dt c3729
        cases h
        refine ev_call (fn := a53) rfl ⟨N3422 + N3688 + N3691 + N3724 + N3727, fun n hn => ?_⟩
        have kN3422 := kN3422 n (by omega)
        try simp (maxSteps := 2000000) only [wn] at kN3422
        have kN3688 := kN3688 n (by omega)
        try simp (maxSteps := 2000000) only [wn] at kN3688
        have kN3691 := kN3691 n (by omega)
        try simp (maxSteps := 2000000) only [wn] at kN3691
        have kN3724 := kN3724 n (by omega)
        simp (maxSteps := 2000000) only [h53l0_0, q53l0_0, wn] at kN3724
        have kN3727 := kN3727 n (by omega)
        try simp (maxSteps := 2000000) only [wn] at kN3727
        simp (maxSteps := 2000000) only [W, reduceIte, Nat.reduceEqDiff, Nat.reduceAdd, Nat.reduceSub, Nat.reduceLT, Nat.reduceLeDiff, Nat.reduceMul, a53, a53l0, kN3422, c3425d, kN3688, kN3691, c3693d, kN3724, kN3727, c3729d, @x_loopAt, wd]
      · rw [if_neg c3729] at h
        have c3729d := df c3729
        cases h
        refine ev_call (fn := a53) rfl ⟨N3422 + N3688 + N3691 + N3724 + N3727, fun n hn => ?_⟩
        have kN3422 := kN3422 n (by omega)
        try simp (maxSteps := 2000000) only [wn] at kN3422
        have kN3688 := kN3688 n (by omega)
        try simp (maxSteps := 2000000) only [wn] at kN3688
        have kN3691 := kN3691 n (by omega)
        try simp (maxSteps := 2000000) only [wn] at kN3691
        have kN3724 := kN3724 n (by omega)
        simp (maxSteps := 2000000) only [h53l0_0, q53l0_0, wn] at kN3724
        have kN3727 := kN3727 n (by omega)
        try simp (maxSteps := 2000000) only [wn] at kN3727
        simp (maxSteps := 2000000) only [W, reduceIte, Nat.reduceEqDiff, Nat.reduceAdd, Nat.reduceSub, Nat.reduceLT, Nat.reduceLeDiff, Nat.reduceMul, a53, a53l0, kN3422, c3425d, kN3688, kN3691, c3693d, kN3724, kN3727, c3729d, @x_loopAt, wd]
  · rw [if_neg c3425] at h
    have c3425d := df c3425
    cases h
    refine ev_call (fn := a53) rfl ⟨N3422, fun n hn => ?_⟩
    have kN3422 := kN3422 n (by omega)
    try simp (maxSteps := 2000000) only [wn] at kN3422
    simp (maxSteps := 2000000) only [W, reduceIte, Nat.reduceEqDiff, Nat.reduceAdd, Nat.reduceSub, Nat.reduceLT, Nat.reduceLeDiff, Nat.reduceMul, a53, a53l0, kN3422, c3425d, @x_loopAt, wd]
theorem c52_0 (z0 : Bool) (z1 : Bool) (v3406 : Int) (v3407 : Int) (v3408 : List WaterNode) (v3409 : List WaterConduit) (r3741 : Int) (h : F52_0 v3406 v3407 v3408 v3409 = some r3741) : Ev fun n => (ex tab n).call 52 [.agg [.slice 0 0 v3408.length v3408.length 4 false, .slice 1 0 v3409.length v3409.length 6 false], .agg [.int .i64 v3406, .int .i64 v3407]] [.row z0 true (rowC v3408), .row z1 true (rowC v3409)] = some (.int .i64 r3741, [.row z0 true (rowC v3408), .row z1 true (rowC v3409)]) := by
  unfold F52_0 at h
  obtain ⟨r3412, g3410, h⟩ := un1 h
  obtain ⟨N3411, kN3411⟩ := c21_0 v3406 _ g3410
  by_cases c3413 : r3412 = 0
  · rw [if_pos c3413] at h
    have c3413d := dt c3413
    obtain ⟨r3416, g3414, h⟩ := un1 h
    obtain ⟨N3415, kN3415⟩ := c21_0 v3407 _ g3414
    by_cases c3417 : r3416 = 0
    · rw [if_pos c3417] at h
      have c3417d := dt c3417
      by_cases c3418 : v3406 ≤ v3407
      · rw [if_pos c3418] at h
        have c3418d := dt c3418
        obtain ⟨r3735, r3736, r3737, g3733, h⟩ := un3 h
        obtain ⟨N3734, kN3734⟩ := c53_0 z0 z1 v3408 v3409 _ _ _ g3733
        by_cases c3738 : r3737 = 0
        · rw [if_pos c3738] at h
          have c3738d := dt c3738
          by_cases c3739 : v3406 = r3735
          · rw [if_pos c3739] at h
            have c3739d := dt c3739
            by_cases c3740 : v3407 = r3736
            · rw [if_pos c3740] at h
              have c3740d := dt c3740
              cases h
              refine ev_call (fn := a52) rfl ⟨N3411 + N3415 + N3734, fun n hn => ?_⟩
              have kN3411 := kN3411 n (by omega)
              try simp (maxSteps := 2000000) only [wn] at kN3411
              have kN3415 := kN3415 n (by omega)
              try simp (maxSteps := 2000000) only [wn] at kN3415
              have kN3734 := kN3734 n (by omega)
              try simp (maxSteps := 2000000) only [wn] at kN3734
              simp (maxSteps := 2000000) only [W, reduceIte, Nat.reduceEqDiff, Nat.reduceAdd, Nat.reduceSub, Nat.reduceLT, Nat.reduceLeDiff, Nat.reduceMul, a52, kN3411, c3413d, kN3415, c3417d, c3418d, kN3734, c3738d, c3739d, c3740d]
            · rw [if_neg c3740] at h
              have c3740d := df c3740
              cases h
              refine ev_call (fn := a52) rfl ⟨N3411 + N3415 + N3734, fun n hn => ?_⟩
              have kN3411 := kN3411 n (by omega)
              try simp (maxSteps := 2000000) only [wn] at kN3411
              have kN3415 := kN3415 n (by omega)
              try simp (maxSteps := 2000000) only [wn] at kN3415
              have kN3734 := kN3734 n (by omega)
              try simp (maxSteps := 2000000) only [wn] at kN3734
              simp (maxSteps := 2000000) only [W, reduceIte, Nat.reduceEqDiff, Nat.reduceAdd, Nat.reduceSub, Nat.reduceLT, Nat.reduceLeDiff, Nat.reduceMul, a52, kN3411, c3413d, kN3415, c3417d, c3418d, kN3734, c3738d, c3739d, c3740d]
          · rw [if_neg c3739] at h
            have c3739d := df c3739
            cases h
            refine ev_call (fn := a52) rfl ⟨N3411 + N3415 + N3734, fun n hn => ?_⟩
            have kN3411 := kN3411 n (by omega)
            try simp (maxSteps := 2000000) only [wn] at kN3411
            have kN3415 := kN3415 n (by omega)
            try simp (maxSteps := 2000000) only [wn] at kN3415
            have kN3734 := kN3734 n (by omega)
            try simp (maxSteps := 2000000) only [wn] at kN3734
            simp (maxSteps := 2000000) only [W, reduceIte, Nat.reduceEqDiff, Nat.reduceAdd, Nat.reduceSub, Nat.reduceLT, Nat.reduceLeDiff, Nat.reduceMul, a52, kN3411, c3413d, kN3415, c3417d, c3418d, kN3734, c3738d, c3739d]
        · rw [if_neg c3738] at h
          have c3738d := df c3738
          cases h
          refine ev_call (fn := a52) rfl ⟨N3411 + N3415 + N3734, fun n hn => ?_⟩
          have kN3411 := kN3411 n (by omega)
          try simp (maxSteps := 2000000) only [wn] at kN3411
          have kN3415 := kN3415 n (by omega)
          try simp (maxSteps := 2000000) only [wn] at kN3415
          have kN3734 := kN3734 n (by omega)
          try simp (maxSteps := 2000000) only [wn] at kN3734
          simp (maxSteps := 2000000) only [W, reduceIte, Nat.reduceEqDiff, Nat.reduceAdd, Nat.reduceSub, Nat.reduceLT, Nat.reduceLeDiff, Nat.reduceMul, a52, kN3411, c3413d, kN3415, c3417d, c3418d, kN3734, c3738d]
      · rw [if_neg c3418] at h
        have c3418d := df c3418
        cases h
        refine ev_call (fn := a52) rfl ⟨N3411 + N3415, fun n hn => ?_⟩
        have kN3411 := kN3411 n (by omega)
        try simp (maxSteps := 2000000) only [wn] at kN3411
        have kN3415 := kN3415 n (by omega)
        try simp (maxSteps := 2000000) only [wn] at kN3415
        simp (maxSteps := 2000000) only [W, reduceIte, Nat.reduceEqDiff, Nat.reduceAdd, Nat.reduceSub, Nat.reduceLT, Nat.reduceLeDiff, Nat.reduceMul, a52, kN3411, c3413d, kN3415, c3417d, c3418d]
    · rw [if_neg c3417] at h
      have c3417d := df c3417
      cases h
      refine ev_call (fn := a52) rfl ⟨N3411 + N3415, fun n hn => ?_⟩
      have kN3411 := kN3411 n (by omega)
      try simp (maxSteps := 2000000) only [wn] at kN3411
      have kN3415 := kN3415 n (by omega)
      try simp (maxSteps := 2000000) only [wn] at kN3415
      simp (maxSteps := 2000000) only [W, reduceIte, Nat.reduceEqDiff, Nat.reduceAdd, Nat.reduceSub, Nat.reduceLT, Nat.reduceLeDiff, Nat.reduceMul, a52, kN3411, c3413d, kN3415, c3417d]
  · rw [if_neg c3413] at h
    have c3413d := df c3413
    cases h
    refine ev_call (fn := a52) rfl ⟨N3411, fun n hn => ?_⟩
    have kN3411 := kN3411 n (by omega)
    try simp (maxSteps := 2000000) only [wn] at kN3411
    simp (maxSteps := 2000000) only [W, reduceIte, Nat.reduceEqDiff, Nat.reduceAdd, Nat.reduceSub, Nat.reduceLT, Nat.reduceLeDiff, Nat.reduceMul, a52, kN3411, c3413d]
noncomputable def h54l0_0 (z0 : Bool) (z1 : Bool) (v3769 : List WaterNode) (v3770 : List WaterConduit) (v3771 : List Range) (v3772 : List Range) (v3773 : List Int) (v3774 : List Int) (v3775 : List Int) (v3776 : List Int) (v3778 : List Range) : (Int × (List Range)) → Env × Heap
  | (v3768, v3777) => ([(4, .ptr 2 0), (5, .ptr 5 0), (6, .ptr 8 0), (7, .ptr 11 0), (8, .int .i64 v3768)], [.row z0 true (rowC v3769), .row z1 true (rowC v3770), .row true false [.slice 3 0 v3771.length v3771.length 2 false, .slice 4 0 v3772.length v3772.length 2 false], .row true true (rowC v3771), .row true true (rowC v3772), .row true false [.slice 6 0 v3773.length v3773.length 1 true, .slice 7 0 v3774.length v3774.length 1 true], .row true true (rowC v3773), .row true true (rowC v3774), .row true false [.slice 9 0 v3775.length v3775.length 1 true, .slice 10 0 v3776.length v3776.length 1 true], .row true true (rowC v3775), .row true true (rowC v3776), .row true false [.slice 12 0 v3777.length v3777.length 2 false, .slice 13 0 v3778.length v3778.length 2 false], .row true true (rowC v3777), .row true true (rowC v3778)])
noncomputable def q54l0_0 (z0 : Bool) (z1 : Bool) (v3769 : List WaterNode) (v3770 : List WaterConduit) (v3771 : List Range) (v3772 : List Range) (v3773 : List Int) (v3774 : List Int) (v3775 : List Int) (v3776 : List Int) (v3778 : List Range) : ((List Range)) → AExit × Env × Heap
  | r3787 => (.exit 0, [(4, .ptr 2 0), (5, .ptr 5 0), (6, .ptr 8 0), (7, .ptr 11 0)], [.row z0 true (rowC v3769), .row z1 true (rowC v3770), .row true false [.slice 3 0 v3771.length v3771.length 2 false, .slice 4 0 v3772.length v3772.length 2 false], .row true true (rowC v3771), .row true true (rowC v3772), .row true false [.slice 6 0 v3773.length v3773.length 1 true, .slice 7 0 v3774.length v3774.length 1 true], .row true true (rowC v3773), .row true true (rowC v3774), .row true false [.slice 9 0 v3775.length v3775.length 1 true, .slice 10 0 v3776.length v3776.length 1 true], .row true true (rowC v3775), .row true true (rowC v3776), .row true false [.slice 12 0 r3787.length r3787.length 2 false, .slice 13 0 v3778.length v3778.length 2 false], .row true true (rowC r3787), .row true true (rowC v3778)])
theorem k54l0_0 (z0 : Bool) (z1 : Bool) (v3769 : List WaterNode) (v3770 : List WaterConduit) (v3771 : List Range) (v3772 : List Range) (v3773 : List Int) (v3774 : List Int) (v3775 : List Int) (v3776 : List Int) (v3778 : List Range) (s : Int × (List Range)) (o : (List Range)) (h : L54l0_0 v3769 v3770 v3771 v3772 v3773 v3774 v3775 v3776 v3778 s = some o) : Ev fun n => loopAt [4, 5, 6, 7, 8] [4, 5, 6, 7] a54l0b (ex tab n) 2 (h54l0_0 z0 z1 v3769 v3770 v3771 v3772 v3773 v3774 v3775 v3776 v3778 s) = some (q54l0_0 z0 z1 v3769 v3770 v3771 v3772 v3773 v3774 v3775 v3776 v3778 o) := by
  refine iter_sound (S54l0_0 v3769 v3770 v3771 v3772 v3773 v3774 v3775 v3776 v3778) [4, 5, 6, 7, 8] [4, 5, 6, 7] a54l0b 2 (h54l0_0 z0 z1 v3769 v3770 v3771 v3772 v3773 v3774 v3775 v3776 v3778) (q54l0_0 z0 z1 v3769 v3770 v3771 v3772 v3773 v3774 v3775 v3776 v3778) ?_ _ _ _ h
  rintro ⟨v3768, v3777⟩ z h
  simp only [S54l0_0] at h
  by_cases c3779 : (v3773.length : Int) ≤ v3768
  · rw [if_pos c3779] at h
    have c3779d := dt c3779
    cases h
    refine ⟨0, fun n hn => ?_⟩
    simp (maxSteps := 2000000) only [W, reduceIte, Nat.reduceEqDiff, Nat.reduceAdd, Nat.reduceSub, Nat.reduceLT, Nat.reduceLeDiff, Nat.reduceMul, h54l0_0, q54l0_0, a54l0b, rc_Range, c3779d, wd]
  · rw [if_neg c3779] at h
    have c3779d := df c3779
    obtain ⟨j3780, x3781, g3782, h⟩ := un2 h
    obtain ⟨g37821, g37822⟩ := geti_in g3782
    have g37823 := ac_Int g37822
    try simp only [wn] at g37821
    obtain ⟨j3783, x3784, g3785, h⟩ := un2 h
    obtain ⟨g37851, g37852⟩ := geti_in g3785
    have g37853 := ac_Int g37852
    try simp only [wn] at g37851
    obtain ⟨g3786, h⟩ := un_roomd h
    cases h
    refine ⟨0, fun n hn => ?_⟩
    simp (maxSteps := 2000000) only [W, reduceIte, Nat.reduceEqDiff, Nat.reduceAdd, Nat.reduceSub, Nat.reduceLT, Nat.reduceLeDiff, Nat.reduceMul, h54l0_0, q54l0_0, a54l0b, rc_Range, c3779d, g37821, g37823, g37851, g37853, g3786, wd]
noncomputable def h54l1_0 (z0 : Bool) (z1 : Bool) (v3792 : List WaterNode) (v3793 : List WaterConduit) (v3794 : List Range) (v3795 : List Range) (v3796 : List Int) (v3797 : List Int) (v3798 : List Int) (v3799 : List Int) (v3800 : List Range) : (Int × (List Range)) → Env × Heap
  | (v3791, v3801) => ([(4, .ptr 2 0), (5, .ptr 5 0), (6, .ptr 8 0), (7, .ptr 11 0), (9, .int .i64 v3791)], [.row z0 true (rowC v3792), .row z1 true (rowC v3793), .row true false [.slice 3 0 v3794.length v3794.length 2 false, .slice 4 0 v3795.length v3795.length 2 false], .row true true (rowC v3794), .row true true (rowC v3795), .row true false [.slice 6 0 v3796.length v3796.length 1 true, .slice 7 0 v3797.length v3797.length 1 true], .row true true (rowC v3796), .row true true (rowC v3797), .row true false [.slice 9 0 v3798.length v3798.length 1 true, .slice 10 0 v3799.length v3799.length 1 true], .row true true (rowC v3798), .row true true (rowC v3799), .row true false [.slice 12 0 v3800.length v3800.length 2 false, .slice 13 0 v3801.length v3801.length 2 false], .row true true (rowC v3800), .row true true (rowC v3801)])
noncomputable def q54l1_0 (z0 : Bool) (z1 : Bool) (v3792 : List WaterNode) (v3793 : List WaterConduit) (v3794 : List Range) (v3795 : List Range) (v3796 : List Int) (v3797 : List Int) (v3798 : List Int) (v3799 : List Int) (v3800 : List Range) : ((List Range)) → AExit × Env × Heap
  | r3810 => (.exit 2, [(4, .ptr 2 0), (7, .ptr 5 0)], [.row z0 true (rowC v3792), .row z1 true (rowC v3793), .row true false [.slice 3 0 v3794.length v3794.length 2 false, .slice 4 0 v3795.length v3795.length 2 false], .row true true (rowC v3794), .row true true (rowC v3795), .row true false [.slice 6 0 v3800.length v3800.length 2 false, .slice 7 0 r3810.length r3810.length 2 false], .row true true (rowC v3800), .row true true (rowC r3810)])
theorem k54l1_0 (z0 : Bool) (z1 : Bool) (v3792 : List WaterNode) (v3793 : List WaterConduit) (v3794 : List Range) (v3795 : List Range) (v3796 : List Int) (v3797 : List Int) (v3798 : List Int) (v3799 : List Int) (v3800 : List Range) (s : Int × (List Range)) (o : (List Range)) (h : L54l1_0 v3792 v3793 v3794 v3795 v3796 v3797 v3798 v3799 v3800 s = some o) : Ev fun n => loopAt [4, 5, 6, 7, 9] [4, 7] a54l1b (ex tab n) 2 (h54l1_0 z0 z1 v3792 v3793 v3794 v3795 v3796 v3797 v3798 v3799 v3800 s) = some (q54l1_0 z0 z1 v3792 v3793 v3794 v3795 v3796 v3797 v3798 v3799 v3800 o) := by
  refine iter_sound (S54l1_0 v3792 v3793 v3794 v3795 v3796 v3797 v3798 v3799 v3800) [4, 5, 6, 7, 9] [4, 7] a54l1b 2 (h54l1_0 z0 z1 v3792 v3793 v3794 v3795 v3796 v3797 v3798 v3799 v3800) (q54l1_0 z0 z1 v3792 v3793 v3794 v3795 v3796 v3797 v3798 v3799 v3800) ?_ _ _ _ h
  rintro ⟨v3791, v3801⟩ z h
  simp only [S54l1_0] at h
  by_cases c3802 : (v3797.length : Int) ≤ v3791
  · rw [if_pos c3802] at h
    have c3802d := dt c3802
    cases h
    refine ⟨0, fun n hn => ?_⟩
    simp (maxSteps := 2000000) only [W, reduceIte, Nat.reduceEqDiff, Nat.reduceAdd, Nat.reduceSub, Nat.reduceLT, Nat.reduceLeDiff, Nat.reduceMul, h54l1_0, q54l1_0, a54l1b, rc_Range, c3802d, wd]
  · rw [if_neg c3802] at h
    have c3802d := df c3802
    obtain ⟨j3803, x3804, g3805, h⟩ := un2 h
    obtain ⟨g38051, g38052⟩ := geti_in g3805
    have g38053 := ac_Int g38052
    try simp only [wn] at g38051
    obtain ⟨j3806, x3807, g3808, h⟩ := un2 h
    obtain ⟨g38081, g38082⟩ := geti_in g3808
    have g38083 := ac_Int g38082
    try simp only [wn] at g38081
    obtain ⟨g3809, h⟩ := un_roomd h
    cases h
    refine ⟨0, fun n hn => ?_⟩
    simp (maxSteps := 2000000) only [W, reduceIte, Nat.reduceEqDiff, Nat.reduceAdd, Nat.reduceSub, Nat.reduceLT, Nat.reduceLeDiff, Nat.reduceMul, h54l1_0, q54l1_0, a54l1b, rc_Range, c3802d, g38051, g38053, g38081, g38083, g3809, wd]
theorem c54_0 (z0 : Bool) (z1 : Bool) (v3756 : Int) (v3757 : Int) (v3758 : List WaterNode) (v3759 : List WaterConduit) (r3814 : List Range) (r3815 : List Range) (h : F54_0 v3756 v3757 v3758 v3759 = some (r3814, r3815)) : Ev fun n => (ex tab n).call 54 [.agg [.slice 0 0 v3758.length v3758.length 4 false, .slice 1 0 v3759.length v3759.length 6 false], .agg [.int .i64 v3756, .int .i64 v3757]] [.row z0 true (rowC v3758), .row z1 true (rowC v3759)] = some (.agg [.slice 2 0 r3814.length r3814.length 2 false, .slice 3 0 r3815.length r3815.length 2 false], [.row z0 true (rowC v3758), .row z1 true (rowC v3759), .row true true (rowC r3814), .row true true (rowC r3815)]) := by
  unfold F54_0 at h
  obtain ⟨r3762, r3763, g3760, h⟩ := un2 h
  obtain ⟨N3761, kN3761⟩ := c114_0 false false v3756 v3758 v3759 _ _ g3760
  obtain ⟨r3766, r3767, g3764, h⟩ := un2 h
  obtain ⟨N3765, kN3765⟩ := c114_0 false false v3757 v3758 v3759 _ _ g3764
  obtain ⟨r3790, g3788, h⟩ := un1 h
  have kN3789 := k54l0_0 z0 z1 v3758 v3759 ([] : List Range) ([] : List Range) r3762 r3763 r3766 r3767 ([] : List Range) (0, ([] : List Range)) _ g3788
  obtain ⟨N3789, kN3789⟩ := kN3789
  obtain ⟨r3813, g3811, h⟩ := un1 h
  have kN3812 := k54l1_0 z0 z1 v3758 v3759 ([] : List Range) ([] : List Range) r3762 r3763 r3766 r3767 r3790 (0, ([] : List Range)) _ g3811
  obtain ⟨N3812, kN3812⟩ := kN3812
  cases h
  refine ev_call (fn := a54) rfl ⟨N3761 + N3765 + N3789 + N3812, fun n hn => ?_⟩
  have kN3761 := kN3761 n (by omega)
  try simp (maxSteps := 2000000) only [wn, rc_Range] at kN3761
  have kN3765 := kN3765 n (by omega)
  try simp (maxSteps := 2000000) only [wn, rc_Range] at kN3765
  have kN3789 := kN3789 n (by omega)
  simp (maxSteps := 2000000) only [h54l0_0, q54l0_0, wn, rc_Range] at kN3789
  have kN3812 := kN3812 n (by omega)
  simp (maxSteps := 2000000) only [h54l1_0, q54l1_0, wn, rc_Range] at kN3812
  simp (maxSteps := 2000000) only [W, reduceIte, Nat.reduceEqDiff, Nat.reduceAdd, Nat.reduceSub, Nat.reduceLT, Nat.reduceLeDiff, Nat.reduceMul, a54, a54l0, a54l1, rc_Range, kN3761, kN3765, kN3789, kN3812, @x_loopAt, wd]
noncomputable def h111l0_0 (z0 : Bool) (z1 : Bool) (v3828 : List Range) (v3829 : List Range) : (Int) → Env × Heap
  | v3827 => ([(0, .slice 0 0 v3828.length v3828.length 2 false), (1, .slice 1 0 v3829.length v3829.length 2 false), (5, .int .i64 v3827)], [.row z0 true (rowC v3828), .row z1 true (rowC v3829)])
noncomputable def q111l0_0 (z0 : Bool) (z1 : Bool) (v3828 : List Range) (v3829 : List Range) : ((Unit) ⊕ (Unit)) → AExit × Env × Heap
  | .inl (_) => (.exit 0, [(4, .undef)], [.row z0 true (rowC v3828), .row z1 true (rowC v3829)])
  | .inr (_) => (.ret, [(4, .bool false)], [.row z0 true (rowC v3828), .row z1 true (rowC v3829)])
theorem k111l0_0 (z0 : Bool) (z1 : Bool) (v3828 : List Range) (v3829 : List Range) (s : Int) (o : (Unit) ⊕ (Unit)) (h : L111l0_0 v3828 v3829 s = some o) : Ev fun n => loopAt [0, 1, 5] [4] a111l0b (ex tab n) 2 (h111l0_0 z0 z1 v3828 v3829 s) = some (q111l0_0 z0 z1 v3828 v3829 o) := by
  refine iter_sound (S111l0_0 v3828 v3829) [0, 1, 5] [4] a111l0b 2 (h111l0_0 z0 z1 v3828 v3829) (q111l0_0 z0 z1 v3828 v3829) ?_ _ _ _ h
  rintro v3827 z h
  simp only [S111l0_0] at h
  by_cases c3830 : (v3828.length : Int) ≤ v3827
  · rw [if_pos c3830] at h
    have c3830d := dt c3830
    cases h
    refine ⟨0, fun n hn => ?_⟩
    simp (maxSteps := 2000000) only [W, reduceIte, Nat.reduceEqDiff, Nat.reduceAdd, Nat.reduceSub, Nat.reduceLT, Nat.reduceLeDiff, Nat.reduceMul, h111l0_0, q111l0_0, a111l0b, rc_Range, c3830d, wd]
  · rw [if_neg c3830] at h
    have c3830d := df c3830
    obtain ⟨j3831, x3832, g3833, h⟩ := un2 h
    obtain ⟨g38331, g38332⟩ := geti_in g3833
    have g38333 := ac_Range g38332
    try simp only [wn] at g38331
    obtain ⟨j3834, x3835, g3836, h⟩ := un2 h
    obtain ⟨g38361, g38362⟩ := geti_in g3836
    have g38363 := ac_Range g38362
    try simp only [wn] at g38361
    by_cases c3837 : x3832.fLo = x3835.fLo
    · rw [if_pos c3837] at h
      have c3837d := dt c3837
      by_cases c3838 : x3832.fHi = x3835.fHi
      · rw [if_pos c3838] at h
        have c3838d := dt c3838
        cases h
        refine ⟨0, fun n hn => ?_⟩
        simp (maxSteps := 2000000) only [W, reduceIte, Nat.reduceEqDiff, Nat.reduceAdd, Nat.reduceSub, Nat.reduceLT, Nat.reduceLeDiff, Nat.reduceMul, h111l0_0, q111l0_0, a111l0b, rc_Range, c3830d, g38331, g38333, g38361, g38363, c3837d, c3838d, wd]
      · rw [if_neg c3838] at h
        have c3838d := df c3838
        cases h
        refine ⟨0, fun n hn => ?_⟩
        simp (maxSteps := 2000000) only [W, reduceIte, Nat.reduceEqDiff, Nat.reduceAdd, Nat.reduceSub, Nat.reduceLT, Nat.reduceLeDiff, Nat.reduceMul, h111l0_0, q111l0_0, a111l0b, rc_Range, c3830d, g38331, g38333, g38361, g38363, c3837d, c3838d, wd]
    · rw [if_neg c3837] at h
      have c3837d := df c3837
      cases h
      refine ⟨0, fun n hn => ?_⟩
      simp (maxSteps := 2000000) only [W, reduceIte, Nat.reduceEqDiff, Nat.reduceAdd, Nat.reduceSub, Nat.reduceLT, Nat.reduceLeDiff, Nat.reduceMul, h111l0_0, q111l0_0, a111l0b, rc_Range, c3830d, g38331, g38333, g38361, g38363, c3837d, wd]
theorem c111_0 (z0 : Bool) (z1 : Bool) (v3824 : List Range) (v3825 : List Range) (r3841 : Bool) (h : F111_0 v3824 v3825 = some r3841) : Ev fun n => (ex tab n).call 111 [.slice 0 0 v3824.length v3824.length 2 false, .slice 1 0 v3825.length v3825.length 2 false] [.row z0 true (rowC v3824), .row z1 true (rowC v3825)] = some (.bool r3841, [.row z0 true (rowC v3824), .row z1 true (rowC v3825)]) := by
  unfold F111_0 at h
  by_cases c3826 : (v3824.length : Int) = (v3825.length : Int)
  · rw [if_pos c3826] at h
    have c3826d := dt c3826
    obtain ⟨g3839_, g3839, h⟩ := un1 h
    rcases g3839_ with _ | _
    · dsimp only at h
      have kN3840 := k111l0_0 z0 z1 v3824 v3825 0 _ g3839
      obtain ⟨N3840, kN3840⟩ := kN3840
      cases h
      refine ev_call (fn := a111) rfl ⟨N3840, fun n hn => ?_⟩
      have kN3840 := kN3840 n (by omega)
      simp (maxSteps := 2000000) only [h111l0_0, q111l0_0, wn, rc_Range] at kN3840
      simp (maxSteps := 2000000) only [W, reduceIte, Nat.reduceEqDiff, Nat.reduceAdd, Nat.reduceSub, Nat.reduceLT, Nat.reduceLeDiff, Nat.reduceMul, a111, a111l0, rc_Range, c3826d, kN3840, @x_loopAt]
    · dsimp only at h
      have kN3840 := k111l0_0 z0 z1 v3824 v3825 0 _ g3839
      obtain ⟨N3840, kN3840⟩ := kN3840
      cases h
      refine ev_call (fn := a111) rfl ⟨N3840, fun n hn => ?_⟩
      have kN3840 := kN3840 n (by omega)
      simp (maxSteps := 2000000) only [h111l0_0, q111l0_0, wn, rc_Range] at kN3840
      simp (maxSteps := 2000000) only [W, reduceIte, Nat.reduceEqDiff, Nat.reduceAdd, Nat.reduceSub, Nat.reduceLT, Nat.reduceLeDiff, Nat.reduceMul, a111, a111l0, rc_Range, c3826d, kN3840, @x_loopAt]
  · rw [if_neg c3826] at h
    have c3826d := df c3826
    cases h
    refine ev_call (fn := a111) rfl ⟨0, fun n hn => ?_⟩
    simp (maxSteps := 2000000) only [W, reduceIte, Nat.reduceEqDiff, Nat.reduceAdd, Nat.reduceSub, Nat.reduceLT, Nat.reduceLeDiff, Nat.reduceMul, a111, a111l0, rc_Range, c3826d, @x_loopAt]
theorem c51_0 (z0 : Bool) (z1 : Bool) (z2 : Bool) (z3 : Bool) (v3820 : List Range) (v3821 : List Range) (v3822 : List Range) (v3823 : List Range) (r3849 : Bool) (h : F51_0 v3820 v3821 v3822 v3823 = some r3849) : Ev fun n => (ex tab n).call 51 [.agg [.slice 0 0 v3820.length v3820.length 2 false, .slice 1 0 v3821.length v3821.length 2 false], .agg [.slice 2 0 v3822.length v3822.length 2 false, .slice 3 0 v3823.length v3823.length 2 false]] [.row z0 true (rowC v3820), .row z1 true (rowC v3821), .row z2 true (rowC v3822), .row z3 true (rowC v3823)] = some (.bool r3849, [.row z0 true (rowC v3820), .row z1 true (rowC v3821), .row z2 true (rowC v3822), .row z3 true (rowC v3823)]) := by
  unfold F51_0 at h
  obtain ⟨r3844, g3842, h⟩ := un1 h
  obtain ⟨N3843, kN3843⟩ := c111_0 z0 z2 v3820 v3822 _ g3842
  by_cases c3845 : r3844 = true
  · rw [if_pos c3845] at h
    have c3845d := c3845
    obtain ⟨r3848, g3846, h⟩ := un1 h
    obtain ⟨N3847, kN3847⟩ := c111_0 z1 z3 v3821 v3823 _ g3846
    cases h
    refine ev_call (fn := a51) rfl ⟨N3843 + N3847, fun n hn => ?_⟩
    have kN3843 := kN3843 n (by omega)
    try simp (maxSteps := 2000000) only [wn] at kN3843
    have kN3847 := kN3847 n (by omega)
    try simp (maxSteps := 2000000) only [wn] at kN3847
    simp (maxSteps := 2000000) only [W, reduceIte, Nat.reduceEqDiff, Nat.reduceAdd, Nat.reduceSub, Nat.reduceLT, Nat.reduceLeDiff, Nat.reduceMul, a51, kN3843, c3845d, kN3847]
  · rw [if_neg c3845] at h
    have c3845d := bf c3845
    cases h
    refine ev_call (fn := a51) rfl ⟨N3843, fun n hn => ?_⟩
    have kN3843 := kN3843 n (by omega)
    try simp (maxSteps := 2000000) only [wn] at kN3843
    simp (maxSteps := 2000000) only [W, reduceIte, Nat.reduceEqDiff, Nat.reduceAdd, Nat.reduceSub, Nat.reduceLT, Nat.reduceLeDiff, Nat.reduceMul, a51, kN3843, c3845d]
end Go.AI
end
section
/-
  Functions, walked through: guidevanelaw02.WaterFlows.
-/
set_option linter.unusedVariables false
set_option linter.unusedSimpArgs false
set_option maxRecDepth 100000
set_option maxHeartbeats 4000000
namespace Go.AI
theorem c8_0 (z0 : Bool) (z1 : Bool) (v3117 : Int) (v3118 : Int) (v3119 : List WaterNode) (v3120 : List WaterConduit) (r3868 : Bool) (h : F8_0 v3117 v3118 v3119 v3120 = some r3868) : Ev fun n => (ex tab n).call 8 [.agg [.slice 0 0 v3119.length v3119.length 4 false, .slice 1 0 v3120.length v3120.length 6 false], .agg [.int .i64 v3117, .int .i64 v3118]] [.row z0 true (rowC v3119), .row z1 true (rowC v3120)] = some (.bool r3868, [.row z0 true (rowC v3119), .row z1 true (rowC v3120)]) := by
  unfold F8_0 at h
  obtain ⟨N3121, kN3121⟩ := awake_ev
  obtain ⟨r3124, g3122, h⟩ := un1 h
  obtain ⟨N3123, kN3123⟩ := c15_0 z0 z1 v3119 v3120 _ g3122
  by_cases c3125 : r3124 = true
  · rw [if_pos c3125] at h
    have c3125d := c3125
    obtain ⟨_, g3126, h⟩ := un1 h
    obtain ⟨N3127, kN3127⟩ := c17_0 z0 z1 v3119 v3120 g3126
    obtain ⟨r3235, r3236, r3237, g3233, h⟩ := un3 h
    obtain ⟨N3234, kN3234⟩ := c48_0 true true v3119 v3120 _ _ _ g3233
    obtain ⟨_, g3238, h⟩ := un1 h
    obtain ⟨N3239, kN3239⟩ := c17_0 false false v3119 v3120 g3238
    obtain ⟨r3329, g3327, h⟩ := un1 h
    obtain ⟨N3328, kN3328⟩ := c49_0 true true v3117 v3118 v3119 v3120 _ g3327
    obtain ⟨_, g3330, h⟩ := un1 h
    obtain ⟨N3331, kN3331⟩ := c17_0 z0 z1 v3119 v3120 g3330
    obtain ⟨r3399, r3400, r3401, g3397, h⟩ := un3 h
    obtain ⟨N3398, kN3398⟩ := c50_0 true true v3119 v3120 _ _ _ g3397
    obtain ⟨r3404, g3402, h⟩ := un1 h
    obtain ⟨N3403, kN3403⟩ := c38_0 z0 z1 v3119 v3120 _ g3402
    by_cases c3405 : r3404 = 0
    · rw [if_pos c3405] at h
      have c3405d := dt c3405
      obtain ⟨r3744, g3742, h⟩ := un1 h
      obtain ⟨N3743, kN3743⟩ := c52_0 z0 z1 v3117 v3118 v3119 v3120 _ g3742
      by_cases c3745 : r3329 = r3744
      · rw [if_pos c3745] at h
        have c3745d := dt c3745
        obtain ⟨r3748, r3749, r3750, g3746, h⟩ := un3 h
        obtain ⟨N3747, kN3747⟩ := c53_0 z0 z1 v3119 v3120 _ _ _ g3746
        by_cases c3751 : r3750 = 0
        · rw [if_pos c3751] at h
          have c3751d := dt c3751
          by_cases c3752 : r3237 = 0
          · rw [if_pos c3752] at h
            have c3752d := dt c3752
            by_cases c3753 : r3235 = r3748
            · rw [if_pos c3753] at h
              have c3753d := dt c3753
              by_cases c3754 : r3236 = r3749
              · rw [if_pos c3754] at h
                have c3754d := dt c3754
                by_cases c3755 : r3399 = 0
                · rw [if_pos c3755] at h
                  have c3755d := dt c3755
                  obtain ⟨r3818, r3819, g3816, h⟩ := un2 h
                  obtain ⟨N3817, kN3817⟩ := c54_0 false false r3748 r3749 v3119 v3120 _ _ g3816
                  obtain ⟨r3852, g3850, h⟩ := un1 h
                  obtain ⟨N3851, kN3851⟩ := c51_0 true true true true r3400 r3401 r3818 r3819 _ g3850
                  cases h
                  refine ev_call (fn := a8) rfl ⟨N3121 + N3123 + N3127 + N3234 + N3239 + N3328 + N3331 + N3398 + N3403 + N3743 + N3747 + N3817 + N3851, fun n hn => ?_⟩
                  have kN3121 := kN3121 n (by omega)
                  have kN3123 := kN3123 n (by omega)
                  try simp (maxSteps := 2000000) only [wn] at kN3123
                  have kN3127 := kN3127 n (by omega)
                  try simp (maxSteps := 2000000) only [wn] at kN3127
                  have kN3234 := kN3234 n (by omega)
                  try simp (maxSteps := 2000000) only [wn] at kN3234
                  have kN3239 := kN3239 n (by omega)
                  try simp (maxSteps := 2000000) only [wn] at kN3239
                  have kN3328 := kN3328 n (by omega)
                  try simp (maxSteps := 2000000) only [wn] at kN3328
                  have kN3331 := kN3331 n (by omega)
                  try simp (maxSteps := 2000000) only [wn] at kN3331
                  have kN3398 := kN3398 n (by omega)
                  try simp (maxSteps := 2000000) only [wn] at kN3398
                  have kN3403 := kN3403 n (by omega)
                  try simp (maxSteps := 2000000) only [wn, rc_Range] at kN3403
                  have kN3743 := kN3743 n (by omega)
                  try simp (maxSteps := 2000000) only [wn, rc_Range] at kN3743
                  have kN3747 := kN3747 n (by omega)
                  try simp (maxSteps := 2000000) only [wn, rc_Range] at kN3747
                  have kN3817 := kN3817 n (by omega)
                  try simp (maxSteps := 2000000) only [wn, rc_Range] at kN3817
                  have kN3851 := kN3851 n (by omega)
                  try simp (maxSteps := 2000000) only [wn, rc_Range] at kN3851
                  simp (maxSteps := 2000000) only [W, reduceIte, Nat.reduceEqDiff, Nat.reduceAdd, Nat.reduceSub, Nat.reduceLT, Nat.reduceLeDiff, Nat.reduceMul, a8, rc_Range, kN3121, kN3123, c3125d, kN3127, kN3234, kN3239, kN3328, kN3331, kN3398, kN3403, c3405d, kN3743, c3745d, kN3747, c3751d, c3752d, c3753d, c3754d, c3755d, kN3817, kN3851, wd]
                · rw [if_neg c3755] at h
                  have c3755d := df c3755
                  cases h
                  refine ev_call (fn := a8) rfl ⟨N3121 + N3123 + N3127 + N3234 + N3239 + N3328 + N3331 + N3398 + N3403 + N3743 + N3747, fun n hn => ?_⟩
                  have kN3121 := kN3121 n (by omega)
                  have kN3123 := kN3123 n (by omega)
                  try simp (maxSteps := 2000000) only [wn] at kN3123
                  have kN3127 := kN3127 n (by omega)
                  try simp (maxSteps := 2000000) only [wn] at kN3127
                  have kN3234 := kN3234 n (by omega)
                  try simp (maxSteps := 2000000) only [wn] at kN3234
                  have kN3239 := kN3239 n (by omega)
                  try simp (maxSteps := 2000000) only [wn] at kN3239
                  have kN3328 := kN3328 n (by omega)
                  try simp (maxSteps := 2000000) only [wn] at kN3328
                  have kN3331 := kN3331 n (by omega)
                  try simp (maxSteps := 2000000) only [wn] at kN3331
                  have kN3398 := kN3398 n (by omega)
                  try simp (maxSteps := 2000000) only [wn] at kN3398
                  have kN3403 := kN3403 n (by omega)
                  try simp (maxSteps := 2000000) only [wn, rc_Range] at kN3403
                  have kN3743 := kN3743 n (by omega)
                  try simp (maxSteps := 2000000) only [wn, rc_Range] at kN3743
                  have kN3747 := kN3747 n (by omega)
                  try simp (maxSteps := 2000000) only [wn, rc_Range] at kN3747
                  simp (maxSteps := 2000000) only [W, reduceIte, Nat.reduceEqDiff, Nat.reduceAdd, Nat.reduceSub, Nat.reduceLT, Nat.reduceLeDiff, Nat.reduceMul, a8, rc_Range, kN3121, kN3123, c3125d, kN3127, kN3234, kN3239, kN3328, kN3331, kN3398, kN3403, c3405d, kN3743, c3745d, kN3747, c3751d, c3752d, c3753d, c3754d, c3755d, wd]
              · rw [if_neg c3754] at h
                have c3754d := df c3754
                cases h
                refine ev_call (fn := a8) rfl ⟨N3121 + N3123 + N3127 + N3234 + N3239 + N3328 + N3331 + N3398 + N3403 + N3743 + N3747, fun n hn => ?_⟩
                have kN3121 := kN3121 n (by omega)
                have kN3123 := kN3123 n (by omega)
                try simp (maxSteps := 2000000) only [wn] at kN3123
                have kN3127 := kN3127 n (by omega)
                try simp (maxSteps := 2000000) only [wn] at kN3127
                have kN3234 := kN3234 n (by omega)
                try simp (maxSteps := 2000000) only [wn] at kN3234
                have kN3239 := kN3239 n (by omega)
                try simp (maxSteps := 2000000) only [wn] at kN3239
                have kN3328 := kN3328 n (by omega)
                try simp (maxSteps := 2000000) only [wn] at kN3328
                have kN3331 := kN3331 n (by omega)
                try simp (maxSteps := 2000000) only [wn] at kN3331
                have kN3398 := kN3398 n (by omega)
                try simp (maxSteps := 2000000) only [wn] at kN3398
                have kN3403 := kN3403 n (by omega)
                try simp (maxSteps := 2000000) only [wn, rc_Range] at kN3403
                have kN3743 := kN3743 n (by omega)
                try simp (maxSteps := 2000000) only [wn, rc_Range] at kN3743
                have kN3747 := kN3747 n (by omega)
                try simp (maxSteps := 2000000) only [wn, rc_Range] at kN3747
                simp (maxSteps := 2000000) only [W, reduceIte, Nat.reduceEqDiff, Nat.reduceAdd, Nat.reduceSub, Nat.reduceLT, Nat.reduceLeDiff, Nat.reduceMul, a8, rc_Range, kN3121, kN3123, c3125d, kN3127, kN3234, kN3239, kN3328, kN3331, kN3398, kN3403, c3405d, kN3743, c3745d, kN3747, c3751d, c3752d, c3753d, c3754d, wd]
            · rw [if_neg c3753] at h
              have c3753d := df c3753
              cases h
              refine ev_call (fn := a8) rfl ⟨N3121 + N3123 + N3127 + N3234 + N3239 + N3328 + N3331 + N3398 + N3403 + N3743 + N3747, fun n hn => ?_⟩
              have kN3121 := kN3121 n (by omega)
              have kN3123 := kN3123 n (by omega)
              try simp (maxSteps := 2000000) only [wn] at kN3123
              have kN3127 := kN3127 n (by omega)
              try simp (maxSteps := 2000000) only [wn] at kN3127
              have kN3234 := kN3234 n (by omega)
              try simp (maxSteps := 2000000) only [wn] at kN3234
              have kN3239 := kN3239 n (by omega)
              try simp (maxSteps := 2000000) only [wn] at kN3239
              have kN3328 := kN3328 n (by omega)
              try simp (maxSteps := 2000000) only [wn] at kN3328
              have kN3331 := kN3331 n (by omega)
              try simp (maxSteps := 2000000) only [wn] at kN3331
              have kN3398 := kN3398 n (by omega)
              try simp (maxSteps := 2000000) only [wn] at kN3398
              have kN3403 := kN3403 n (by omega)
              try simp (maxSteps := 2000000) only [wn, rc_Range] at kN3403
              have kN3743 := kN3743 n (by omega)
              try simp (maxSteps := 2000000) only [wn, rc_Range] at kN3743
              have kN3747 := kN3747 n (by omega)
              try simp (maxSteps := 2000000) only [wn, rc_Range] at kN3747
              simp (maxSteps := 2000000) only [W, reduceIte, Nat.reduceEqDiff, Nat.reduceAdd, Nat.reduceSub, Nat.reduceLT, Nat.reduceLeDiff, Nat.reduceMul, a8, rc_Range, kN3121, kN3123, c3125d, kN3127, kN3234, kN3239, kN3328, kN3331, kN3398, kN3403, c3405d, kN3743, c3745d, kN3747, c3751d, c3752d, c3753d, wd]
          · rw [if_neg c3752] at h
            have c3752d := df c3752
            cases h
            refine ev_call (fn := a8) rfl ⟨N3121 + N3123 + N3127 + N3234 + N3239 + N3328 + N3331 + N3398 + N3403 + N3743 + N3747, fun n hn => ?_⟩
            have kN3121 := kN3121 n (by omega)
            have kN3123 := kN3123 n (by omega)
            try simp (maxSteps := 2000000) only [wn] at kN3123
            have kN3127 := kN3127 n (by omega)
            try simp (maxSteps := 2000000) only [wn] at kN3127
            have kN3234 := kN3234 n (by omega)
            try simp (maxSteps := 2000000) only [wn] at kN3234
            have kN3239 := kN3239 n (by omega)
            try simp (maxSteps := 2000000) only [wn] at kN3239
            have kN3328 := kN3328 n (by omega)
            try simp (maxSteps := 2000000) only [wn] at kN3328
            have kN3331 := kN3331 n (by omega)
            try simp (maxSteps := 2000000) only [wn] at kN3331
            have kN3398 := kN3398 n (by omega)
            try simp (maxSteps := 2000000) only [wn] at kN3398
            have kN3403 := kN3403 n (by omega)
            try simp (maxSteps := 2000000) only [wn, rc_Range] at kN3403
            have kN3743 := kN3743 n (by omega)
            try simp (maxSteps := 2000000) only [wn, rc_Range] at kN3743
            have kN3747 := kN3747 n (by omega)
            try simp (maxSteps := 2000000) only [wn, rc_Range] at kN3747
            simp (maxSteps := 2000000) only [W, reduceIte, Nat.reduceEqDiff, Nat.reduceAdd, Nat.reduceSub, Nat.reduceLT, Nat.reduceLeDiff, Nat.reduceMul, a8, rc_Range, kN3121, kN3123, c3125d, kN3127, kN3234, kN3239, kN3328, kN3331, kN3398, kN3403, c3405d, kN3743, c3745d, kN3747, c3751d, c3752d, wd]
        · rw [if_neg c3751] at h
          have c3751d := df c3751
          by_cases c3853 : r3237 = r3750
          · rw [if_pos c3853] at h
            have c3853d := dt c3853
            by_cases c3854 : r3399 = r3750
            · rw [if_pos c3854] at h
              have c3854d := dt c3854
              by_cases c3855 : r3235 = 0
              · rw [if_pos c3855] at h
                have c3855d := dt c3855
                by_cases c3856 : r3236 = 0
                · rw [if_pos c3856] at h
                  have c3856d := dt c3856
                  obtain ⟨r3859, g3857, h⟩ := un1 h
                  obtain ⟨N3858, kN3858⟩ := c51_0 true true true true r3400 r3401 ([] : List Range) ([] : List Range) _ g3857
                  cases h
                  refine ev_call (fn := a8) rfl ⟨N3121 + N3123 + N3127 + N3234 + N3239 + N3328 + N3331 + N3398 + N3403 + N3743 + N3747 + N3858, fun n hn => ?_⟩
                  have kN3121 := kN3121 n (by omega)
                  have kN3123 := kN3123 n (by omega)
                  try simp (maxSteps := 2000000) only [wn] at kN3123
                  have kN3127 := kN3127 n (by omega)
                  try simp (maxSteps := 2000000) only [wn] at kN3127
                  have kN3234 := kN3234 n (by omega)
                  try simp (maxSteps := 2000000) only [wn] at kN3234
                  have kN3239 := kN3239 n (by omega)
                  try simp (maxSteps := 2000000) only [wn] at kN3239
                  have kN3328 := kN3328 n (by omega)
                  try simp (maxSteps := 2000000) only [wn] at kN3328
                  have kN3331 := kN3331 n (by omega)
                  try simp (maxSteps := 2000000) only [wn] at kN3331
                  have kN3398 := kN3398 n (by omega)
                  try simp (maxSteps := 2000000) only [wn] at kN3398
                  have kN3403 := kN3403 n (by omega)
                  try simp (maxSteps := 2000000) only [wn, rc_Range] at kN3403
                  have kN3743 := kN3743 n (by omega)
                  try simp (maxSteps := 2000000) only [wn, rc_Range] at kN3743
                  have kN3747 := kN3747 n (by omega)
                  try simp (maxSteps := 2000000) only [wn, rc_Range] at kN3747
                  have kN3858 := kN3858 n (by omega)
                  try simp (maxSteps := 2000000) only [wn, rc_Range] at kN3858
                  simp (maxSteps := 2000000) only [W, reduceIte, Nat.reduceEqDiff, Nat.reduceAdd, Nat.reduceSub, Nat.reduceLT, Nat.reduceLeDiff, Nat.reduceMul, a8, rc_Range, kN3121, kN3123, c3125d, kN3127, kN3234, kN3239, kN3328, kN3331, kN3398, kN3403, c3405d, kN3743, c3745d, kN3747, c3751d, c3853d, c3854d, c3855d, c3856d, kN3858, wd]
                · rw [if_neg c3856] at h
                  have c3856d := df c3856
                  cases h
                  refine ev_call (fn := a8) rfl ⟨N3121 + N3123 + N3127 + N3234 + N3239 + N3328 + N3331 + N3398 + N3403 + N3743 + N3747, fun n hn => ?_⟩
                  have kN3121 := kN3121 n (by omega)
                  have kN3123 := kN3123 n (by omega)
                  try simp (maxSteps := 2000000) only [wn] at kN3123
                  have kN3127 := kN3127 n (by omega)
                  try simp (maxSteps := 2000000) only [wn] at kN3127
                  have kN3234 := kN3234 n (by omega)
                  try simp (maxSteps := 2000000) only [wn] at kN3234
                  have kN3239 := kN3239 n (by omega)
                  try simp (maxSteps := 2000000) only [wn] at kN3239
                  have kN3328 := kN3328 n (by omega)
                  try simp (maxSteps := 2000000) only [wn] at kN3328
                  have kN3331 := kN3331 n (by omega)
                  try simp (maxSteps := 2000000) only [wn] at kN3331
                  have kN3398 := kN3398 n (by omega)
                  try simp (maxSteps := 2000000) only [wn] at kN3398
                  have kN3403 := kN3403 n (by omega)
                  try simp (maxSteps := 2000000) only [wn, rc_Range] at kN3403
                  have kN3743 := kN3743 n (by omega)
                  try simp (maxSteps := 2000000) only [wn, rc_Range] at kN3743
                  have kN3747 := kN3747 n (by omega)
                  try simp (maxSteps := 2000000) only [wn, rc_Range] at kN3747
                  simp (maxSteps := 2000000) only [W, reduceIte, Nat.reduceEqDiff, Nat.reduceAdd, Nat.reduceSub, Nat.reduceLT, Nat.reduceLeDiff, Nat.reduceMul, a8, rc_Range, kN3121, kN3123, c3125d, kN3127, kN3234, kN3239, kN3328, kN3331, kN3398, kN3403, c3405d, kN3743, c3745d, kN3747, c3751d, c3853d, c3854d, c3855d, c3856d, wd]
              · rw [if_neg c3855] at h
                have c3855d := df c3855
                cases h
                refine ev_call (fn := a8) rfl ⟨N3121 + N3123 + N3127 + N3234 + N3239 + N3328 + N3331 + N3398 + N3403 + N3743 + N3747, fun n hn => ?_⟩
                have kN3121 := kN3121 n (by omega)
                have kN3123 := kN3123 n (by omega)
                try simp (maxSteps := 2000000) only [wn] at kN3123
                have kN3127 := kN3127 n (by omega)
                try simp (maxSteps := 2000000) only [wn] at kN3127
                have kN3234 := kN3234 n (by omega)
                try simp (maxSteps := 2000000) only [wn] at kN3234
                have kN3239 := kN3239 n (by omega)
                try simp (maxSteps := 2000000) only [wn] at kN3239
                have kN3328 := kN3328 n (by omega)
                try simp (maxSteps := 2000000) only [wn] at kN3328
                have kN3331 := kN3331 n (by omega)
                try simp (maxSteps := 2000000) only [wn] at kN3331
                have kN3398 := kN3398 n (by omega)
                try simp (maxSteps := 2000000) only [wn] at kN3398
                have kN3403 := kN3403 n (by omega)
                try simp (maxSteps := 2000000) only [wn, rc_Range] at kN3403
                have kN3743 := kN3743 n (by omega)
                try simp (maxSteps := 2000000) only [wn, rc_Range] at kN3743
                have kN3747 := kN3747 n (by omega)
                try simp (maxSteps := 2000000) only [wn, rc_Range] at kN3747
                simp (maxSteps := 2000000) only [W, reduceIte, Nat.reduceEqDiff, Nat.reduceAdd, Nat.reduceSub, Nat.reduceLT, Nat.reduceLeDiff, Nat.reduceMul, a8, rc_Range, kN3121, kN3123, c3125d, kN3127, kN3234, kN3239, kN3328, kN3331, kN3398, kN3403, c3405d, kN3743, c3745d, kN3747, c3751d, c3853d, c3854d, c3855d, wd]
            · rw [if_neg c3854] at h
              have c3854d := df c3854
              cases h
              refine ev_call (fn := a8) rfl ⟨N3121 + N3123 + N3127 + N3234 + N3239 + N3328 + N3331 + N3398 + N3403 + N3743 + N3747, fun n hn => ?_⟩
              have kN3121 := kN3121 n (by omega)
              have kN3123 := kN3123 n (by omega)
              try simp (maxSteps := 2000000) only [wn] at kN3123
              have kN3127 := kN3127 n (by omega)
              try simp (maxSteps := 2000000) only [wn] at kN3127
              have kN3234 := kN3234 n (by omega)
              try simp (maxSteps := 2000000) only [wn] at kN3234
              have kN3239 := kN3239 n (by omega)
              try simp (maxSteps := 2000000) only [wn] at kN3239
              have kN3328 := kN3328 n (by omega)
              try simp (maxSteps := 2000000) only [wn] at kN3328
              have kN3331 := kN3331 n (by omega)
              try simp (maxSteps := 2000000) only [wn] at kN3331
              have kN3398 := kN3398 n (by omega)
              try simp (maxSteps := 2000000) only [wn] at kN3398
              have kN3403 := kN3403 n (by omega)
              try simp (maxSteps := 2000000) only [wn, rc_Range] at kN3403
              have kN3743 := kN3743 n (by omega)
              try simp (maxSteps := 2000000) only [wn, rc_Range] at kN3743
              have kN3747 := kN3747 n (by omega)
              try simp (maxSteps := 2000000) only [wn, rc_Range] at kN3747
              simp (maxSteps := 2000000) only [W, reduceIte, Nat.reduceEqDiff, Nat.reduceAdd, Nat.reduceSub, Nat.reduceLT, Nat.reduceLeDiff, Nat.reduceMul, a8, rc_Range, kN3121, kN3123, c3125d, kN3127, kN3234, kN3239, kN3328, kN3331, kN3398, kN3403, c3405d, kN3743, c3745d, kN3747, c3751d, c3853d, c3854d, wd]
          · rw [if_neg c3853] at h
            have c3853d := df c3853
            cases h
            refine ev_call (fn := a8) rfl ⟨N3121 + N3123 + N3127 + N3234 + N3239 + N3328 + N3331 + N3398 + N3403 + N3743 + N3747, fun n hn => ?_⟩
            have kN3121 := kN3121 n (by omega)
            have kN3123 := kN3123 n (by omega)
            try simp (maxSteps := 2000000) only [wn] at kN3123
            have kN3127 := kN3127 n (by omega)
            try simp (maxSteps := 2000000) only [wn] at kN3127
            have kN3234 := kN3234 n (by omega)
            try simp (maxSteps := 2000000) only [wn] at kN3234
            have kN3239 := kN3239 n (by omega)
            try simp (maxSteps := 2000000) only [wn] at kN3239
            have kN3328 := kN3328 n (by omega)
            try simp (maxSteps := 2000000) only [wn] at kN3328
            have kN3331 := kN3331 n (by omega)
            try simp (maxSteps := 2000000) only [wn] at kN3331
            have kN3398 := kN3398 n (by omega)
            try simp (maxSteps := 2000000) only [wn] at kN3398
            have kN3403 := kN3403 n (by omega)
            try simp (maxSteps := 2000000) only [wn, rc_Range] at kN3403
            have kN3743 := kN3743 n (by omega)
            try simp (maxSteps := 2000000) only [wn, rc_Range] at kN3743
            have kN3747 := kN3747 n (by omega)
            try simp (maxSteps := 2000000) only [wn, rc_Range] at kN3747
            simp (maxSteps := 2000000) only [W, reduceIte, Nat.reduceEqDiff, Nat.reduceAdd, Nat.reduceSub, Nat.reduceLT, Nat.reduceLeDiff, Nat.reduceMul, a8, rc_Range, kN3121, kN3123, c3125d, kN3127, kN3234, kN3239, kN3328, kN3331, kN3398, kN3403, c3405d, kN3743, c3745d, kN3747, c3751d, c3853d, wd]
      · rw [if_neg c3745] at h
        have c3745d := df c3745
        cases h
        refine ev_call (fn := a8) rfl ⟨N3121 + N3123 + N3127 + N3234 + N3239 + N3328 + N3331 + N3398 + N3403 + N3743, fun n hn => ?_⟩
        have kN3121 := kN3121 n (by omega)
        have kN3123 := kN3123 n (by omega)
        try simp (maxSteps := 2000000) only [wn] at kN3123
        have kN3127 := kN3127 n (by omega)
        try simp (maxSteps := 2000000) only [wn] at kN3127
        have kN3234 := kN3234 n (by omega)
        try simp (maxSteps := 2000000) only [wn] at kN3234
        have kN3239 := kN3239 n (by omega)
        try simp (maxSteps := 2000000) only [wn] at kN3239
        have kN3328 := kN3328 n (by omega)
        try simp (maxSteps := 2000000) only [wn] at kN3328
        have kN3331 := kN3331 n (by omega)
        try simp (maxSteps := 2000000) only [wn] at kN3331
        have kN3398 := kN3398 n (by omega)
        try simp (maxSteps := 2000000) only [wn] at kN3398
        have kN3403 := kN3403 n (by omega)
        try simp (maxSteps := 2000000) only [wn, rc_Range] at kN3403
        have kN3743 := kN3743 n (by omega)
        try simp (maxSteps := 2000000) only [wn, rc_Range] at kN3743
        simp (maxSteps := 2000000) only [W, reduceIte, Nat.reduceEqDiff, Nat.reduceAdd, Nat.reduceSub, Nat.reduceLT, Nat.reduceLeDiff, Nat.reduceMul, a8, rc_Range, kN3121, kN3123, c3125d, kN3127, kN3234, kN3239, kN3328, kN3331, kN3398, kN3403, c3405d, kN3743, c3745d, wd]
    · rw [if_neg c3405] at h
      have c3405d := df c3405
      by_cases c3860 : r3237 = r3404
      · rw [if_pos c3860] at h
        have c3860d := dt c3860
        by_cases c3861 : r3329 = r3404
        · rw [if_pos c3861] at h
          have c3861d := dt c3861
          by_cases c3862 : r3399 = r3404
          · rw [if_pos c3862] at h
            have c3862d := dt c3862
            by_cases c3863 : r3235 = 0
            · rw [if_pos c3863] at h
              have c3863d := dt c3863
              by_cases c3864 : r3236 = 0
              · rw [if_pos c3864] at h
                have c3864d := dt c3864
                obtain ⟨r3867, g3865, h⟩ := un1 h
                obtain ⟨N3866, kN3866⟩ := c51_0 true true true true r3400 r3401 ([] : List Range) ([] : List Range) _ g3865
                cases h
                refine ev_call (fn := a8) rfl ⟨N3121 + N3123 + N3127 + N3234 + N3239 + N3328 + N3331 + N3398 + N3403 + N3866, fun n hn => ?_⟩
                have kN3121 := kN3121 n (by omega)
                have kN3123 := kN3123 n (by omega)
                try simp (maxSteps := 2000000) only [wn] at kN3123
                have kN3127 := kN3127 n (by omega)
                try simp (maxSteps := 2000000) only [wn] at kN3127
                have kN3234 := kN3234 n (by omega)
                try simp (maxSteps := 2000000) only [wn] at kN3234
                have kN3239 := kN3239 n (by omega)
                try simp (maxSteps := 2000000) only [wn] at kN3239
                have kN3328 := kN3328 n (by omega)
                try simp (maxSteps := 2000000) only [wn] at kN3328
                have kN3331 := kN3331 n (by omega)
                try simp (maxSteps := 2000000) only [wn] at kN3331
                have kN3398 := kN3398 n (by omega)
                try simp (maxSteps := 2000000) only [wn] at kN3398
                have kN3403 := kN3403 n (by omega)
                try simp (maxSteps := 2000000) only [wn, rc_Range] at kN3403
                have kN3866 := kN3866 n (by omega)
                try simp (maxSteps := 2000000) only [wn, rc_Range] at kN3866
                simp (maxSteps := 2000000) only [W, reduceIte, Nat.reduceEqDiff, Nat.reduceAdd, Nat.reduceSub, Nat.reduceLT, Nat.reduceLeDiff, Nat.reduceMul, a8, rc_Range, kN3121, kN3123, c3125d, kN3127, kN3234, kN3239, kN3328, kN3331, kN3398, kN3403, c3405d, c3860d, c3861d, c3862d, c3863d, c3864d, kN3866, wd]
              · rw [if_neg c3864] at h
                have c3864d := df c3864
                cases h
                refine ev_call (fn := a8) rfl ⟨N3121 + N3123 + N3127 + N3234 + N3239 + N3328 + N3331 + N3398 + N3403, fun n hn => ?_⟩
                have kN3121 := kN3121 n (by omega)
                have kN3123 := kN3123 n (by omega)
                try simp (maxSteps := 2000000) only [wn] at kN3123
                have kN3127 := kN3127 n (by omega)
                try simp (maxSteps := 2000000) only [wn] at kN3127
                have kN3234 := kN3234 n (by omega)
                try simp (maxSteps := 2000000) only [wn] at kN3234
                have kN3239 := kN3239 n (by omega)
                try simp (maxSteps := 2000000) only [wn] at kN3239
                have kN3328 := kN3328 n (by omega)
                try simp (maxSteps := 2000000) only [wn] at kN3328
                have kN3331 := kN3331 n (by omega)
                try simp (maxSteps := 2000000) only [wn] at kN3331
                have kN3398 := kN3398 n (by omega)
                try simp (maxSteps := 2000000) only [wn] at kN3398
                have kN3403 := kN3403 n (by omega)
                try simp (maxSteps := 2000000) only [wn, rc_Range] at kN3403
                simp (maxSteps := 2000000) only [W, reduceIte, Nat.reduceEqDiff, Nat.reduceAdd, Nat.reduceSub, Nat.reduceLT, Nat.reduceLeDiff, Nat.reduceMul, a8, rc_Range, kN3121, kN3123, c3125d, kN3127, kN3234, kN3239, kN3328, kN3331, kN3398, kN3403, c3405d, c3860d, c3861d, c3862d, c3863d, c3864d, wd]
            · rw [if_neg c3863] at h
              have c3863d := df c3863
              cases h
              refine ev_call (fn := a8) rfl ⟨N3121 + N3123 + N3127 + N3234 + N3239 + N3328 + N3331 + N3398 + N3403, fun n hn => ?_⟩
              have kN3121 := kN3121 n (by omega)
              have kN3123 := kN3123 n (by omega)
              try simp (maxSteps := 2000000) only [wn] at kN3123
              have kN3127 := kN3127 n (by omega)
              try simp (maxSteps := 2000000) only [wn] at kN3127
              have kN3234 := kN3234 n (by omega)
              try simp (maxSteps := 2000000) only [wn] at kN3234
              have kN3239 := kN3239 n (by omega)
              try simp (maxSteps := 2000000) only [wn] at kN3239
              have kN3328 := kN3328 n (by omega)
              try simp (maxSteps := 2000000) only [wn] at kN3328
              have kN3331 := kN3331 n (by omega)
              try simp (maxSteps := 2000000) only [wn] at kN3331
              have kN3398 := kN3398 n (by omega)
              try simp (maxSteps := 2000000) only [wn] at kN3398
              have kN3403 := kN3403 n (by omega)
              try simp (maxSteps := 2000000) only [wn, rc_Range] at kN3403
              simp (maxSteps := 2000000) only [W, reduceIte, Nat.reduceEqDiff, Nat.reduceAdd, Nat.reduceSub, Nat.reduceLT, Nat.reduceLeDiff, Nat.reduceMul, a8, rc_Range, kN3121, kN3123, c3125d, kN3127, kN3234, kN3239, kN3328, kN3331, kN3398, kN3403, c3405d, c3860d, c3861d, c3862d, c3863d, wd]
          · rw [if_neg c3862] at h
            have c3862d := df c3862
            cases h
            refine ev_call (fn := a8) rfl ⟨N3121 + N3123 + N3127 + N3234 + N3239 + N3328 + N3331 + N3398 + N3403, fun n hn => ?_⟩
            have kN3121 := kN3121 n (by omega)
            have kN3123 := kN3123 n (by omega)
            try simp (maxSteps := 2000000) only [wn] at kN3123
            have kN3127 := kN3127 n (by omega)
            try simp (maxSteps := 2000000) only [wn] at kN3127
            have kN3234 := kN3234 n (by omega)
            try simp (maxSteps := 2000000) only [wn] at kN3234
            have kN3239 := kN3239 n (by omega)
            try simp (maxSteps := 2000000) only [wn] at kN3239
            have kN3328 := kN3328 n (by omega)
            try simp (maxSteps := 2000000) only [wn] at kN3328
            have kN3331 := kN3331 n (by omega)
            try simp (maxSteps := 2000000) only [wn] at kN3331
            have kN3398 := kN3398 n (by omega)
            try simp (maxSteps := 2000000) only [wn] at kN3398
            have kN3403 := kN3403 n (by omega)
            try simp (maxSteps := 2000000) only [wn, rc_Range] at kN3403
            simp (maxSteps := 2000000) only [W, reduceIte, Nat.reduceEqDiff, Nat.reduceAdd, Nat.reduceSub, Nat.reduceLT, Nat.reduceLeDiff, Nat.reduceMul, a8, rc_Range, kN3121, kN3123, c3125d, kN3127, kN3234, kN3239, kN3328, kN3331, kN3398, kN3403, c3405d, c3860d, c3861d, c3862d, wd]
        · rw [if_neg c3861] at h
          have c3861d := df c3861
          cases h
          refine ev_call (fn := a8) rfl ⟨N3121 + N3123 + N3127 + N3234 + N3239 + N3328 + N3331 + N3398 + N3403, fun n hn => ?_⟩
          have kN3121 := kN3121 n (by omega)
          have kN3123 := kN3123 n (by omega)
          try simp (maxSteps := 2000000) only [wn] at kN3123
          have kN3127 := kN3127 n (by omega)
          try simp (maxSteps := 2000000) only [wn] at kN3127
          have kN3234 := kN3234 n (by omega)
          try simp (maxSteps := 2000000) only [wn] at kN3234
          have kN3239 := kN3239 n (by omega)
          try simp (maxSteps := 2000000) only [wn] at kN3239
          have kN3328 := kN3328 n (by omega)
          try simp (maxSteps := 2000000) only [wn] at kN3328
          have kN3331 := kN3331 n (by omega)
          try simp (maxSteps := 2000000) only [wn] at kN3331
          have kN3398 := kN3398 n (by omega)
          try simp (maxSteps := 2000000) only [wn] at kN3398
          have kN3403 := kN3403 n (by omega)
          try simp (maxSteps := 2000000) only [wn, rc_Range] at kN3403
          simp (maxSteps := 2000000) only [W, reduceIte, Nat.reduceEqDiff, Nat.reduceAdd, Nat.reduceSub, Nat.reduceLT, Nat.reduceLeDiff, Nat.reduceMul, a8, rc_Range, kN3121, kN3123, c3125d, kN3127, kN3234, kN3239, kN3328, kN3331, kN3398, kN3403, c3405d, c3860d, c3861d, wd]
      · rw [if_neg c3860] at h
        have c3860d := df c3860
        cases h
        refine ev_call (fn := a8) rfl ⟨N3121 + N3123 + N3127 + N3234 + N3239 + N3328 + N3331 + N3398 + N3403, fun n hn => ?_⟩
        have kN3121 := kN3121 n (by omega)
        have kN3123 := kN3123 n (by omega)
        try simp (maxSteps := 2000000) only [wn] at kN3123
        have kN3127 := kN3127 n (by omega)
        try simp (maxSteps := 2000000) only [wn] at kN3127
        have kN3234 := kN3234 n (by omega)
        try simp (maxSteps := 2000000) only [wn] at kN3234
        have kN3239 := kN3239 n (by omega)
        try simp (maxSteps := 2000000) only [wn] at kN3239
        have kN3328 := kN3328 n (by omega)
        try simp (maxSteps := 2000000) only [wn] at kN3328
        have kN3331 := kN3331 n (by omega)
        try simp (maxSteps := 2000000) only [wn] at kN3331
        have kN3398 := kN3398 n (by omega)
        try simp (maxSteps := 2000000) only [wn] at kN3398
        have kN3403 := kN3403 n (by omega)
        try simp (maxSteps := 2000000) only [wn, rc_Range] at kN3403
        simp (maxSteps := 2000000) only [W, reduceIte, Nat.reduceEqDiff, Nat.reduceAdd, Nat.reduceSub, Nat.reduceLT, Nat.reduceLeDiff, Nat.reduceMul, a8, rc_Range, kN3121, kN3123, c3125d, kN3127, kN3234, kN3239, kN3328, kN3331, kN3398, kN3403, c3405d, c3860d, wd]
  · rw [if_neg c3125] at h
    have c3125d := bf c3125
    cases h
    refine ev_call (fn := a8) rfl ⟨N3121 + N3123, fun n hn => ?_⟩
    have kN3121 := kN3121 n (by omega)
    have kN3123 := kN3123 n (by omega)
    try simp (maxSteps := 2000000) only [wn] at kN3123
    simp (maxSteps := 2000000) only [W, reduceIte, Nat.reduceEqDiff, Nat.reduceAdd, Nat.reduceSub, Nat.reduceLT, Nat.reduceLeDiff, Nat.reduceMul, a8, rc_Range, kN3121, kN3123, c3125d, wd]
end Go.AI
end
