/-
  Functions, walked through: guidevaneref02.conduitErr, guidevaneref02.CheckNet, guidevaneref02.FlowErr, guidevanebase.Size, guidevaneref02.Loss.
-/
import Derived.Test.YtfglifekecijjaaCAiY
import Derived.Test.YtfglifekecijjaaCAiTab
import Derived.Test.YtfglifekecijjaaCAiAwake
import Derived.Test.YtfglifekecijjaaCWnF
import Derived.Test.YtfglifekecijjaaCWn3
set_option linter.unusedVariables false
set_option linter.unusedSimpArgs false
set_option maxRecDepth 100000
set_option maxHeartbeats 4000000
namespace Go.AI
theorem c79_0 (z0 : Bool) (z1 : Bool) (z2 : Bool) (v457 : ByteArray) (v458 : Int) (v459 : Int) (v460 : Int) (v461 : Bool) (v462 : Bool) (v463 : List WaterNode) (v464 : List WaterConduit) (v465 : List ByteArray) (r489 : Int) (h : F79_0 v457 v458 v459 v460 v461 v462 v463 v464 v465 = some r489) : Ev fun n => (ex tab n).call 79 [.agg [.slice 0 0 v463.length v463.length 4 false, .slice 1 0 v464.length v464.length 6 false], .agg [.str v457, .int .i64 v458, .int .i64 v459, .int .i64 v460, .bool v461, .bool v462], .slice 2 0 v465.length v465.length 1 false] [.row z0 true (rowC v463), .row z1 true (rowC v464), .row z2 true (rowC v465)] = some (.int .i64 r489, [.row z0 true (rowC v463), .row z1 true (rowC v464), .row z2 true (rowC v465)]) := by
  unfold F79_0 at h
  obtain ⟨r468, g466, h⟩ := un1 h
  obtain ⟨N467, kN467⟩ := c131_0 v457 _ g466
  by_cases c469 : r468 = true
  · rw [if_pos c469] at h
    have c469d := c469
    obtain ⟨r472, g470, h⟩ := un1 h
    obtain ⟨N471, kN471⟩ := c132_0 z2 v457 v465 _ g470
    by_cases c473 : r472 = true
    · rw [if_pos c473] at h
      have c473d := c473
      cases h
      refine ev_call (fn := a79) rfl ⟨N467 + N471, fun n hn => ?_⟩
      have kN467 := kN467 n (by omega)
      try simp (maxSteps := 2000000) only [wn] at kN467
      have kN471 := kN471 n (by omega)
      try simp (maxSteps := 2000000) only [wn] at kN471
      simp (maxSteps := 2000000) only [W, reduceIte, Nat.reduceEqDiff, Nat.reduceAdd, Nat.reduceSub, Nat.reduceLT, Nat.reduceLeDiff, Nat.reduceMul, a79, kN467, c469d, kN471, c473d]
    · rw [if_neg c473] at h
      have c473d := bf c473
      obtain ⟨r476, g474, h⟩ := un1 h
      obtain ⟨N475, kN475⟩ := c20_0 v458 0 (aw .i64 ((v463.length : Int) - 1)) _ g474
      by_cases c477 : r476 = true
      · rw [if_pos c477] at h
        have c477d := c477
        obtain ⟨r480, g478, h⟩ := un1 h
        obtain ⟨N479, kN479⟩ := c20_0 v459 0 (aw .i64 ((v463.length : Int) - 1)) _ g478
        by_cases c481 : r480 = true
        · rw [if_pos c481] at h
          have c481d := c481
          by_cases c482 : v458 = v459
          · rw [if_pos c482] at h
            have c482d := dt c482
            cases h
            refine ev_call (fn := a79) rfl ⟨N467 + N471 + N475 + N479, fun n hn => ?_⟩
            have kN467 := kN467 n (by omega)
            try simp (maxSteps := 2000000) only [wn] at kN467
            have kN471 := kN471 n (by omega)
            try simp (maxSteps := 2000000) only [wn] at kN471
            have kN475 := kN475 n (by omega)
            try simp (maxSteps := 2000000) only [wn] at kN475
            have kN479 := kN479 n (by omega)
            try simp (maxSteps := 2000000) only [wn] at kN479
            simp (maxSteps := 2000000) only [W, reduceIte, Nat.reduceEqDiff, Nat.reduceAdd, Nat.reduceSub, Nat.reduceLT, Nat.reduceLeDiff, Nat.reduceMul, a79, kN467, c469d, kN471, c473d, kN475, c477d, kN479, c481d, c482d]
          · rw [if_neg c482] at h
            have c482d := df c482
            obtain ⟨r485, g483, h⟩ := un1 h
            obtain ⟨N484, kN484⟩ := c20_0 v460 0 1000 _ g483
            by_cases c486 : r485 = true
            · rw [if_pos c486] at h
              have c486d := c486
              by_cases c487 : v461 = true
              · rw [if_pos c487] at h
                have c487d := c487
                cases h
                refine ev_call (fn := a79) rfl ⟨N467 + N471 + N475 + N479 + N484, fun n hn => ?_⟩
                have kN467 := kN467 n (by omega)
                try simp (maxSteps := 2000000) only [wn] at kN467
                have kN471 := kN471 n (by omega)
                try simp (maxSteps := 2000000) only [wn] at kN471
                have kN475 := kN475 n (by omega)
                try simp (maxSteps := 2000000) only [wn] at kN475
                have kN479 := kN479 n (by omega)
                try simp (maxSteps := 2000000) only [wn] at kN479
                have kN484 := kN484 n (by omega)
                try simp (maxSteps := 2000000) only [wn] at kN484
                simp (maxSteps := 2000000) only [W, reduceIte, Nat.reduceEqDiff, Nat.reduceAdd, Nat.reduceSub, Nat.reduceLT, Nat.reduceLeDiff, Nat.reduceMul, a79, kN467, c469d, kN471, c473d, kN475, c477d, kN479, c481d, c482d, kN484, c486d, c487d]
              · rw [if_neg c487] at h
                have c487d := bf c487
                by_cases c488 : v462 = true
                · rw [if_pos c488] at h
                  have c488d := c488
                  cases h
                  refine ev_call (fn := a79) rfl ⟨N467 + N471 + N475 + N479 + N484, fun n hn => ?_⟩
                  have kN467 := kN467 n (by omega)
                  try simp (maxSteps := 2000000) only [wn] at kN467
                  have kN471 := kN471 n (by omega)
                  try simp (maxSteps := 2000000) only [wn] at kN471
                  have kN475 := kN475 n (by omega)
                  try simp (maxSteps := 2000000) only [wn] at kN475
                  have kN479 := kN479 n (by omega)
                  try simp (maxSteps := 2000000) only [wn] at kN479
                  have kN484 := kN484 n (by omega)
                  try simp (maxSteps := 2000000) only [wn] at kN484
                  simp (maxSteps := 2000000) only [W, reduceIte, Nat.reduceEqDiff, Nat.reduceAdd, Nat.reduceSub, Nat.reduceLT, Nat.reduceLeDiff, Nat.reduceMul, a79, kN467, c469d, kN471, c473d, kN475, c477d, kN479, c481d, c482d, kN484, c486d, c487d, c488d]
                · rw [if_neg c488] at h
                  have c488d := bf c488
                  cases h
                  refine ev_call (fn := a79) rfl ⟨N467 + N471 + N475 + N479 + N484, fun n hn => ?_⟩
                  have kN467 := kN467 n (by omega)
                  try simp (maxSteps := 2000000) only [wn] at kN467
                  have kN471 := kN471 n (by omega)
                  try simp (maxSteps := 2000000) only [wn] at kN471
                  have kN475 := kN475 n (by omega)
                  try simp (maxSteps := 2000000) only [wn] at kN475
                  have kN479 := kN479 n (by omega)
                  try simp (maxSteps := 2000000) only [wn] at kN479
                  have kN484 := kN484 n (by omega)
                  try simp (maxSteps := 2000000) only [wn] at kN484
                  simp (maxSteps := 2000000) only [W, reduceIte, Nat.reduceEqDiff, Nat.reduceAdd, Nat.reduceSub, Nat.reduceLT, Nat.reduceLeDiff, Nat.reduceMul, a79, kN467, c469d, kN471, c473d, kN475, c477d, kN479, c481d, c482d, kN484, c486d, c487d, c488d]
            · rw [if_neg c486] at h
              have c486d := bf c486
              cases h
              refine ev_call (fn := a79) rfl ⟨N467 + N471 + N475 + N479 + N484, fun n hn => ?_⟩
              have kN467 := kN467 n (by omega)
              try simp (maxSteps := 2000000) only [wn] at kN467
              have kN471 := kN471 n (by omega)
              try simp (maxSteps := 2000000) only [wn] at kN471
              have kN475 := kN475 n (by omega)
              try simp (maxSteps := 2000000) only [wn] at kN475
              have kN479 := kN479 n (by omega)
              try simp (maxSteps := 2000000) only [wn] at kN479
              have kN484 := kN484 n (by omega)
              try simp (maxSteps := 2000000) only [wn] at kN484
              simp (maxSteps := 2000000) only [W, reduceIte, Nat.reduceEqDiff, Nat.reduceAdd, Nat.reduceSub, Nat.reduceLT, Nat.reduceLeDiff, Nat.reduceMul, a79, kN467, c469d, kN471, c473d, kN475, c477d, kN479, c481d, c482d, kN484, c486d]
        · rw [if_neg c481] at h
          have c481d := bf c481
          cases h
          refine ev_call (fn := a79) rfl ⟨N467 + N471 + N475 + N479, fun n hn => ?_⟩
          have kN467 := kN467 n (by omega)
          try simp (maxSteps := 2000000) only [wn] at kN467
          have kN471 := kN471 n (by omega)
          try simp (maxSteps := 2000000) only [wn] at kN471
          have kN475 := kN475 n (by omega)
          try simp (maxSteps := 2000000) only [wn] at kN475
          have kN479 := kN479 n (by omega)
          try simp (maxSteps := 2000000) only [wn] at kN479
          simp (maxSteps := 2000000) only [W, reduceIte, Nat.reduceEqDiff, Nat.reduceAdd, Nat.reduceSub, Nat.reduceLT, Nat.reduceLeDiff, Nat.reduceMul, a79, kN467, c469d, kN471, c473d, kN475, c477d, kN479, c481d]
      · rw [if_neg c477] at h
        have c477d := bf c477
        cases h
        refine ev_call (fn := a79) rfl ⟨N467 + N471 + N475, fun n hn => ?_⟩
        have kN467 := kN467 n (by omega)
        try simp (maxSteps := 2000000) only [wn] at kN467
        have kN471 := kN471 n (by omega)
        try simp (maxSteps := 2000000) only [wn] at kN471
        have kN475 := kN475 n (by omega)
        try simp (maxSteps := 2000000) only [wn] at kN475
        simp (maxSteps := 2000000) only [W, reduceIte, Nat.reduceEqDiff, Nat.reduceAdd, Nat.reduceSub, Nat.reduceLT, Nat.reduceLeDiff, Nat.reduceMul, a79, kN467, c469d, kN471, c473d, kN475, c477d]
  · rw [if_neg c469] at h
    have c469d := bf c469
    cases h
    refine ev_call (fn := a79) rfl ⟨N467, fun n hn => ?_⟩
    have kN467 := kN467 n (by omega)
    try simp (maxSteps := 2000000) only [wn] at kN467
    simp (maxSteps := 2000000) only [W, reduceIte, Nat.reduceEqDiff, Nat.reduceAdd, Nat.reduceSub, Nat.reduceLT, Nat.reduceLeDiff, Nat.reduceMul, a79, kN467, c469d]
noncomputable def h19l1_0 (z0 : Bool) (z1 : Bool) (v450 : List WaterNode) (v451 : List WaterConduit) : (Int × (List ByteArray)) → Env × Heap
  | (v449, v452) => ([(1, .ptr 2 0), (4, .slice 3 0 v452.length v452.length 1 false), (7, .int .i64 v449)], [.row z0 true (rowC v450), .row z1 true (rowC v451), .row true false [.slice 0 0 v450.length v450.length 4 false, .slice 1 0 v451.length v451.length 6 false], .row true true (rowC v452)])
noncomputable def q19l1_0 (z0 : Bool) (z1 : Bool) (v450 : List WaterNode) (v451 : List WaterConduit) : ((Unit) ⊕ (Int × Int)) → AExit × Env × Heap
  | .inl (_) => (.exit 2, [(2, .undef), (3, .undef)], [.row z0 true (rowC v450), .row z1 true (rowC v451)])
  | .inr (r495, r496) => (.ret, [(2, .int .i64 r495), (3, .int .i64 r496)], [.row z0 true (rowC v450), .row z1 true (rowC v451)])
theorem k19l1_0 (z0 : Bool) (z1 : Bool) (v450 : List WaterNode) (v451 : List WaterConduit) (s : Int × (List ByteArray)) (o : (Unit) ⊕ (Int × Int)) (h : L19l1_0 v450 v451 s = some o) : Ev fun n => loopAt [1, 4, 7] [2, 3] a19l1b (ex tab n) 2 (h19l1_0 z0 z1 v450 v451 s) = some (q19l1_0 z0 z1 v450 v451 o) := by
  refine iter_sound (S19l1_0 v450 v451) [1, 4, 7] [2, 3] a19l1b 2 (h19l1_0 z0 z1 v450 v451) (q19l1_0 z0 z1 v450 v451) ?_ _ _ _ h
  rintro ⟨v449, v452⟩ z h
  simp only [S19l1_0] at h
  by_cases c453 : (v451.length : Int) ≤ v449
  · rw [if_pos c453] at h
    have c453d := dt c453
    cases h
    refine ⟨0, fun n hn => ?_⟩
    simp (maxSteps := 2000000) only [W, reduceIte, Nat.reduceEqDiff, Nat.reduceAdd, Nat.reduceSub, Nat.reduceLT, Nat.reduceLeDiff, Nat.reduceMul, h19l1_0, q19l1_0, a19l1b, rc_WaterConduit, c453d, wd]
  · rw [if_neg c453] at h
    have c453d := df c453
    obtain ⟨j454, x455, g456, h⟩ := un2 h
    obtain ⟨g4561, g4562⟩ := geti_in g456
    have g4563 := ac_WaterConduit g4562
    try simp only [wn] at g4561
    obtain ⟨r492, g490, h⟩ := un1 h
    obtain ⟨N491, kN491⟩ := c79_0 z0 z1 true x455.fName x455.fFrom x455.fTo x455.fResist x455.fValve x455.fOpen v450 v451 v452 _ g490
    by_cases c493 : r492 = 0
    · rw [if_pos c493] at h
      have c493d := dt c493
      obtain ⟨g494, h⟩ := un_roomd h
      cases h
      refine ⟨N491, fun n hn => ?_⟩
      have kN491 := kN491 n (by omega)
      try simp (maxSteps := 2000000) only [wn, rc_WaterConduit] at kN491
      simp (maxSteps := 2000000) only [W, reduceIte, Nat.reduceEqDiff, Nat.reduceAdd, Nat.reduceSub, Nat.reduceLT, Nat.reduceLeDiff, Nat.reduceMul, h19l1_0, q19l1_0, a19l1b, rc_WaterConduit, c453d, g4561, g4563, kN491, c493d, g494, wd]
    · rw [if_neg c493] at h
      have c493d := df c493
      cases h
      refine ⟨N491, fun n hn => ?_⟩
      have kN491 := kN491 n (by omega)
      try simp (maxSteps := 2000000) only [wn, rc_WaterConduit] at kN491
      simp (maxSteps := 2000000) only [W, reduceIte, Nat.reduceEqDiff, Nat.reduceAdd, Nat.reduceSub, Nat.reduceLT, Nat.reduceLeDiff, Nat.reduceMul, h19l1_0, q19l1_0, a19l1b, rc_WaterConduit, c453d, g4561, g4563, kN491, c493d, wd]
theorem c19_0 (z0 : Bool) (z1 : Bool) (v349 : List WaterNode) (v350 : List WaterConduit) (r503 : Int) (r504 : Int) (h : F19_0 v349 v350 = some (r503, r504)) : Ev fun n => (ex tab n).call 19 [.agg [.slice 0 0 v349.length v349.length 4 false, .slice 1 0 v350.length v350.length 6 false]] [.row z0 true (rowC v349), .row z1 true (rowC v350)] = some (.tup [.int .i64 r503, .int .i64 r504], [.row z0 true (rowC v349), .row z1 true (rowC v350)]) := by
  unfold F19_0 at h
  by_cases c351 : (v349.length : Int) = 0
  · rw [if_pos c351] at h
    have c351d := dt c351
    cases h
    refine ev_call (fn := a19) rfl ⟨0, fun n hn => ?_⟩
    simp (maxSteps := 2000000) only [W, reduceIte, Nat.reduceEqDiff, Nat.reduceAdd, Nat.reduceSub, Nat.reduceLT, Nat.reduceLeDiff, Nat.reduceMul, a19, a19l0, a19l1, rc_WaterConduit, rc_WaterNode, c351d, @x_loopAt]
  · rw [if_neg c351] at h
    have c351d := df c351
    by_cases c352 : (v350.length : Int) = 0
    · rw [if_pos c352] at h
      have c352d := dt c352
      cases h
      refine ev_call (fn := a19) rfl ⟨0, fun n hn => ?_⟩
      simp (maxSteps := 2000000) only [W, reduceIte, Nat.reduceEqDiff, Nat.reduceAdd, Nat.reduceSub, Nat.reduceLT, Nat.reduceLeDiff, Nat.reduceMul, a19, a19l0, a19l1, rc_WaterConduit, rc_WaterNode, c351d, c352d, @x_loopAt]
    · rw [if_neg c352] at h
      have c352d := df c352
      by_cases c353 : (v349.length : Int) ≤ 10
      · rw [if_pos c353] at h
        have c353d := dt c353
        by_cases c354 : (v350.length : Int) ≤ 14
        · rw [if_pos c354] at h
          have c354d := dt c354
          obtain ⟨g447_, g447, h⟩ := un1 h
          rcases g447_ with _ | ⟨r501, r502⟩
          · dsimp only at h
            have kN448 := k19l0_0 z0 z1 v349 v350 (0, ([] : List ByteArray)) _ g447
            obtain ⟨N448, kN448⟩ := kN448
            obtain ⟨g497_, g497, h⟩ := un1 h
            rcases g497_ with _ | ⟨r499, r500⟩
            · dsimp only at h
              have kN498 := k19l1_0 z0 z1 v349 v350 (0, ([] : List ByteArray)) _ g497
              obtain ⟨N498, kN498⟩ := kN498
              cases h
              refine ev_call (fn := a19) rfl ⟨N448 + N498, fun n hn => ?_⟩
              have kN448 := kN448 n (by omega)
              simp (maxSteps := 2000000) only [h19l0_0, q19l0_0, wn, rc_WaterNode] at kN448
              have kN498 := kN498 n (by omega)
              simp (maxSteps := 2000000) only [h19l1_0, q19l1_0, wn, rc_WaterConduit, rc_WaterNode] at kN498
              simp (maxSteps := 2000000) only [W, reduceIte, Nat.reduceEqDiff, Nat.reduceAdd, Nat.reduceSub, Nat.reduceLT, Nat.reduceLeDiff, Nat.reduceMul, a19, a19l0, a19l1, rc_WaterConduit, rc_WaterNode, c351d, c352d, c353d, c354d, kN448, kN498, @x_loopAt]
            · dsimp only at h
              have kN498 := k19l1_0 z0 z1 v349 v350 (0, ([] : List ByteArray)) _ g497
              obtain ⟨N498, kN498⟩ := kN498
              cases h
              refine ev_call (fn := a19) rfl ⟨N448 + N498, fun n hn => ?_⟩
              have kN448 := kN448 n (by omega)
              simp (maxSteps := 2000000) only [h19l0_0, q19l0_0, wn, rc_WaterNode] at kN448
              have kN498 := kN498 n (by omega)
              simp (maxSteps := 2000000) only [h19l1_0, q19l1_0, wn, rc_WaterConduit, rc_WaterNode] at kN498
              simp (maxSteps := 2000000) only [W, reduceIte, Nat.reduceEqDiff, Nat.reduceAdd, Nat.reduceSub, Nat.reduceLT, Nat.reduceLeDiff, Nat.reduceMul, a19, a19l0, a19l1, rc_WaterConduit, rc_WaterNode, c351d, c352d, c353d, c354d, kN448, kN498, @x_loopAt]
          · dsimp only at h
            have kN448 := k19l0_0 z0 z1 v349 v350 (0, ([] : List ByteArray)) _ g447
            obtain ⟨N448, kN448⟩ := kN448
            cases h
            refine ev_call (fn := a19) rfl ⟨N448, fun n hn => ?_⟩
            have kN448 := kN448 n (by omega)
            simp (maxSteps := 2000000) only [h19l0_0, q19l0_0, wn, rc_WaterConduit, rc_WaterNode] at kN448
            simp (maxSteps := 2000000) only [W, reduceIte, Nat.reduceEqDiff, Nat.reduceAdd, Nat.reduceSub, Nat.reduceLT, Nat.reduceLeDiff, Nat.reduceMul, a19, a19l0, a19l1, rc_WaterConduit, rc_WaterNode, c351d, c352d, c353d, c354d, kN448, @x_loopAt]
        · rw [if_neg c354] at h
          have c354d := df c354
          cases h
          refine ev_call (fn := a19) rfl ⟨0, fun n hn => ?_⟩
          simp (maxSteps := 2000000) only [W, reduceIte, Nat.reduceEqDiff, Nat.reduceAdd, Nat.reduceSub, Nat.reduceLT, Nat.reduceLeDiff, Nat.reduceMul, a19, a19l0, a19l1, rc_WaterConduit, rc_WaterNode, c351d, c352d, c353d, c354d, @x_loopAt]
      · rw [if_neg c353] at h
        have c353d := df c353
        cases h
        refine ev_call (fn := a19) rfl ⟨0, fun n hn => ?_⟩
        simp (maxSteps := 2000000) only [W, reduceIte, Nat.reduceEqDiff, Nat.reduceAdd, Nat.reduceSub, Nat.reduceLT, Nat.reduceLeDiff, Nat.reduceMul, a19, a19l0, a19l1, rc_WaterConduit, rc_WaterNode, c351d, c352d, c353d, @x_loopAt]
end Go.AI
