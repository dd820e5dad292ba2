import Derived.Test.YtfglifekecijjaaHAiY
import Derived.Test.YtfglifekecijjaaHAiTab
import Derived.Test.YtfglifekecijjaaHAiAwake
import Derived.Test.YtfglifekecijjaaHWnF
import Derived.Test.YtfglifekecijjaaHWn2
section
/-
  Functions, walked through: water.open, water.net).nodeErr, water.net).isOpen, water.net).reached, water.where, water.ReachedFrom, water.net).lakes, water.net).wet.
-/
set_option linter.unusedVariables false
set_option linter.unusedSimpArgs false
set_option maxRecDepth 100000
set_option maxHeartbeats 4000000
namespace Go.AI
theorem c87_0 (z0 : Bool) (z1 : Bool) (v961 : List WaterNode) (v962 : List WaterConduit) (r967 : Int) (h : F87_0 v961 v962 = some r967) : Ev fun n => (ex tab n).call 87 [.agg [.slice 0 0 v961.length v961.length 4 false, .slice 1 0 v962.length v962.length 6 false]] [.row z0 true (rowC v961), .row z1 true (rowC v962)] = some (.tup [.agg [.slice 0 0 v961.length v961.length 4 false, .slice 1 0 v962.length v962.length 6 false], .int .i64 r967], [.row z0 true (rowC v961), .row z1 true (rowC v962)]) := by
  unfold F87_0 at h
  obtain ⟨r965, r966, g963, h⟩ := un2 h
  obtain ⟨N964, kN964⟩ := c16_0 z0 z1 v961 v962 _ _ g963
  cases h
  refine ev_call (fn := a87) rfl ⟨N964, fun n hn => ?_⟩
  have kN964 := kN964 n (by omega)
  try simp (maxSteps := 2000000) only [wn, rc_WaterConduit, rc_WaterNode] at kN964
  simp (maxSteps := 2000000) only [W, reduceIte, Nat.reduceEqDiff, Nat.reduceAdd, Nat.reduceSub, Nat.reduceLT, Nat.reduceLeDiff, Nat.reduceMul, a87, rc_WaterConduit, rc_WaterNode, kN964]
theorem c88_0 (z0 : Bool) (z1 : Bool) (v971 : Int) (v972 : List WaterNode) (v973 : List WaterConduit) (r980 : Int) (h : F88_0 v971 v972 v973 = some r980) : Ev fun n => (ex tab n).call 88 [.agg [.slice 0 0 v972.length v972.length 4 false, .slice 1 0 v973.length v973.length 6 false], .int .i64 v971] [.row z0 true (rowC v972), .row z1 true (rowC v973)] = some (.int .i64 r980, [.row z0 true (rowC v972), .row z1 true (rowC v973)]) := by
  unfold F88_0 at h
  obtain ⟨r976, g974, h⟩ := un1 h
  obtain ⟨N975, kN975⟩ := c74_0 v971 0 (aw .i64 ((v972.length : Int) - 1)) _ g974
  obtain ⟨r979, g977, h⟩ := un1 h
  obtain ⟨N978, kN978⟩ := c72_0 r976 6 _ g977
  cases h
  refine ev_call (fn := a88) rfl ⟨N975 + N978, fun n hn => ?_⟩
  have kN975 := kN975 n (by omega)
  try simp (maxSteps := 2000000) only [wn] at kN975
  have kN978 := kN978 n (by omega)
  try simp (maxSteps := 2000000) only [wn] at kN978
  simp (maxSteps := 2000000) only [W, reduceIte, Nat.reduceEqDiff, Nat.reduceAdd, Nat.reduceSub, Nat.reduceLT, Nat.reduceLeDiff, Nat.reduceMul, a88, kN975, kN978]
noncomputable def h135l0_0 (z0 : Bool) (z1 : Bool) (v1099 : Int) (v1101 : List WaterNode) (v1102 : List WaterConduit) : (Int × (List Int)) → Env × Heap
  | (v1100, v1103) => ([(3, .slice 2 0 v1103.length v1103.length 1 false), (8, .slice 0 0 v1101.length v1101.length 4 false), (9, .int .i64 v1099), (10, .int .i64 v1100)], [.row z0 true (rowC v1101), .row z1 true (rowC v1102), .row true true (rowC v1103)])
noncomputable def q135l0_0 (z0 : Bool) (z1 : Bool) (v1099 : Int) (v1101 : List WaterNode) (v1102 : List WaterConduit) : ((List Int)) → AExit × Env × Heap
  | r1110 => (.exit 0, [(2, .undef), (3, .slice 2 0 r1110.length r1110.length 1 false)], [.row z0 true (rowC v1101), .row z1 true (rowC v1102), .row true true (rowC r1110)])
theorem k135l0_0 (z0 : Bool) (z1 : Bool) (v1099 : Int) (v1101 : List WaterNode) (v1102 : List WaterConduit) (s : Int × (List Int)) (o : (List Int)) (h : L135l0_0 v1099 v1101 v1102 s = some o) : Ev fun n => loopAt [3, 8, 9, 10] [2, 3] a135l0b (ex tab n) 2 (h135l0_0 z0 z1 v1099 v1101 v1102 s) = some (q135l0_0 z0 z1 v1099 v1101 v1102 o) := by
  refine iter_sound (S135l0_0 v1099 v1101 v1102) [3, 8, 9, 10] [2, 3] a135l0b 2 (h135l0_0 z0 z1 v1099 v1101 v1102) (q135l0_0 z0 z1 v1099 v1101 v1102) ?_ _ _ _ h
  rintro ⟨v1100, v1103⟩ z h
  simp only [S135l0_0] at h
  by_cases c1104 : v1099 ≤ v1100
  · rw [if_pos c1104] at h
    have c1104d := dt c1104
    cases h
    refine ⟨0, fun n hn => ?_⟩
    simp (maxSteps := 2000000) only [W, reduceIte, Nat.reduceEqDiff, Nat.reduceAdd, Nat.reduceSub, Nat.reduceLT, Nat.reduceLeDiff, Nat.reduceMul, h135l0_0, q135l0_0, a135l0b, rc_WaterNode, c1104d]
  · rw [if_neg c1104] at h
    have c1104d := df c1104
    obtain ⟨j1105, x1106, g1107, h⟩ := un2 h
    obtain ⟨g11071, g11072⟩ := geti_in g1107
    have g11073 := ac_WaterNode g11072
    try simp only [wn] at g11071
    by_cases c1108 : x1106.fLake = true
    · rw [if_pos c1108] at h
      have c1108d := c1108
      obtain ⟨g1109, h⟩ := un_roomd h
      cases h
      refine ⟨0, fun n hn => ?_⟩
      simp (maxSteps := 2000000) only [W, reduceIte, Nat.reduceEqDiff, Nat.reduceAdd, Nat.reduceSub, Nat.reduceLT, Nat.reduceLeDiff, Nat.reduceMul, h135l0_0, q135l0_0, a135l0b, rc_WaterNode, c1104d, g11071, g11073, c1108d, g1109]
    · rw [if_neg c1108] at h
      have c1108d := bf c1108
      cases h
      refine ⟨0, fun n hn => ?_⟩
      simp (maxSteps := 2000000) only [W, reduceIte, Nat.reduceEqDiff, Nat.reduceAdd, Nat.reduceSub, Nat.reduceLT, Nat.reduceLeDiff, Nat.reduceMul, h135l0_0, q135l0_0, a135l0b, rc_WaterNode, c1104d, g11071, g11073, c1108d]
theorem c135_0 (z0 : Bool) (z1 : Bool) (v1097 : List WaterNode) (v1098 : List WaterConduit) (r1114 : List Int) (h : F135_0 v1097 v1098 = some r1114) : Ev fun n => (ex tab n).call 135 [.agg [.slice 0 0 v1097.length v1097.length 4 false, .slice 1 0 v1098.length v1098.length 6 false]] [.row z0 true (rowC v1097), .row z1 true (rowC v1098)] = some (.slice 2 0 r1114.length r1114.length 1 false, [.row z0 true (rowC v1097), .row z1 true (rowC v1098), .row true true (rowC r1114)]) := by
  unfold F135_0 at h
  obtain ⟨r1113, g1111, h⟩ := un1 h
  have kN1112 := k135l0_0 z0 z1 (v1097.length : Int) v1097 v1098 (0, ([] : List Int)) _ g1111
  obtain ⟨N1112, kN1112⟩ := kN1112
  cases h
  refine ev_call (fn := a135) rfl ⟨N1112, fun n hn => ?_⟩
  have kN1112 := kN1112 n (by omega)
  simp (maxSteps := 2000000) only [h135l0_0, q135l0_0, wn, rc_WaterNode] at kN1112
  simp (maxSteps := 2000000) only [W, reduceIte, Nat.reduceEqDiff, Nat.reduceAdd, Nat.reduceSub, Nat.reduceLT, Nat.reduceLeDiff, Nat.reduceMul, a135, a135l0, rc_WaterNode, kN1112, @x_loopAt]
end Go.AI
end
section
/-
  Functions, walked through: guidevaneref02.conduitErr, guidevaneref02.CheckNet, guidevaneref02.FlowErr, guidevanebase.Size, guidevaneref02.Loss.
-/
set_option linter.unusedVariables false
set_option linter.unusedSimpArgs false
set_option maxRecDepth 100000
set_option maxHeartbeats 4000000
namespace Go.AI
theorem c79_0 (z0 : Bool) (z1 : Bool) (z2 : Bool) (v457 : ByteArray) (v458 : Int) (v459 : Int) (v460 : Int) (v461 : Bool) (v462 : Bool) (v463 : List WaterNode) (v464 : List WaterConduit) (v465 : List ByteArray) (r489 : Int) (h : F79_0 v457 v458 v459 v460 v461 v462 v463 v464 v465 = some r489) : Ev fun n => (ex tab n).call 79 [.agg [.slice 0 0 v463.length v463.length 4 false, .slice 1 0 v464.length v464.length 6 false], .agg [.str v457, .int .i64 v458, .int .i64 v459, .int .i64 v460, .bool v461, .bool v462], .slice 2 0 v465.length v465.length 1 false] [.row z0 true (rowC v463), .row z1 true (rowC v464), .row z2 true (rowC v465)] = some (.int .i64 r489, [.row z0 true (rowC v463), .row z1 true (rowC v464), .row z2 true (rowC v465)]) := by
  unfold F79_0 at h
  obtain ⟨r468, g466, h⟩ := un1 h
  obtain ⟨N467, kN467⟩ := c131_0 v457 _ g466
  by_cases c469 : r468 = true
  · rw [if_pos c469] at h
    have c469d := c469
    obtain ⟨r472, g470, h⟩ := un1 h
    obtain ⟨N471, kN471⟩ := c132_0 z2 v457 v465 _ g470
    by_cases c473 : r472 = true
    · rw [if_pos c473] at h
      have c473d := c473
      cases h
      refine ev_call (fn := a79) rfl ⟨N467 + N471, fun n hn => ?_⟩
      have kN467 := kN467 n (by omega)
      try simp (maxSteps := 2000000) only [wn] at kN467
      have kN471 := kN471 n (by omega)
      try simp (maxSteps := 2000000) only [wn] at kN471
      simp (maxSteps := 2000000) only [W, reduceIte, Nat.reduceEqDiff, Nat.reduceAdd, Nat.reduceSub, Nat.reduceLT, Nat.reduceLeDiff, Nat.reduceMul, a79, kN467, c469d, kN471, c473d]
    · rw [if_neg c473] at h
      have c473d := bf c473
      obtain ⟨r476, g474, h⟩ := un1 h
      obtain ⟨N475, kN475⟩ := c20_0 v458 0 (aw .i64 ((v463.length : Int) - 1)) _ g474
      by_cases c477 : r476 = true
      · rw [if_pos c477] at h
        have c477d := c477
        obtain ⟨r480, g478, h⟩ := un1 h
        obtain ⟨N479, kN479⟩ := c20_0 v459 0 (aw .i64 ((v463.length : Int) - 1)) _ g478
        by_cases c481 : r480 = true
        · rw [if_pos c481] at h
          have c481d := c481
          by_cases c482 : v458 = v459
          · rw [if_pos c482] at h
            have c482d := dt c482
            cases h
            refine ev_call (fn := a79) rfl ⟨N467 + N471 + N475 + N479, fun n hn => ?_⟩
            have kN467 := kN467 n (by omega)
            try simp (maxSteps := 2000000) only [wn] at kN467
            have kN471 := kN471 n (by omega)
            try simp (maxSteps := 2000000) only [wn] at kN471
            have kN475 := kN475 n (by omega)
            try simp (maxSteps := 2000000) only [wn] at kN475
            have kN479 := kN479 n (by omega)
            try simp (maxSteps := 2000000) only [wn] at kN479
            simp (maxSteps := 2000000) only [W, reduceIte, Nat.reduceEqDiff, Nat.reduceAdd, Nat.reduceSub, Nat.reduceLT, Nat.reduceLeDiff, Nat.reduceMul, a79, kN467, c469d, kN471, c473d, kN475, c477d, kN479, c481d, c482d]
          · rw [if_neg c482] at h
            have c482d := df c482
            obtain ⟨r485, g483, h⟩ := un1 h
            obtain ⟨N484, kN484⟩ := c20_0 v460 0 1000 _ g483
            by_cases c486 : r485 = true
            · rw [if_pos c486] at h
              have c486d := c486
              by_cases c487 : v461 = true
              · rw [if_pos c487] at h
                have c487d := c487
                cases h
                refine ev_call (fn := a79) rfl ⟨N467 + N471 + N475 + N479 + N484, fun n hn => ?_⟩
                have kN467 := kN467 n (by omega)
                try simp (maxSteps := 2000000) only [wn] at kN467
                have kN471 := kN471 n (by omega)
                try simp (maxSteps := 2000000) only [wn] at kN471
                have kN475 := kN475 n (by omega)
                try simp (maxSteps := 2000000) only [wn] at kN475
                have kN479 := kN479 n (by omega)
                try simp (maxSteps := 2000000) only [wn] at kN479
                have kN484 := kN484 n (by omega)
                try simp (maxSteps := 2000000) only [wn] at kN484
                simp (maxSteps := 2000000) only [W, reduceIte, Nat.reduceEqDiff, Nat.reduceAdd, Nat.reduceSub, Nat.reduceLT, Nat.reduceLeDiff, Nat.reduceMul, a79, kN467, c469d, kN471, c473d, kN475, c477d, kN479, c481d, c482d, kN484, c486d, c487d]
              · rw [if_neg c487] at h
                have c487d := bf c487
                by_cases c488 : v462 = true
                · rw [if_pos c488] at h
                  have c488d := c488
                  cases h
                  refine ev_call (fn := a79) rfl ⟨N467 + N471 + N475 + N479 + N484, fun n hn => ?_⟩
                  have kN467 := kN467 n (by omega)
                  try simp (maxSteps := 2000000) only [wn] at kN467
                  have kN471 := kN471 n (by omega)
                  try simp (maxSteps := 2000000) only [wn] at kN471
                  have kN475 := kN475 n (by omega)
                  try simp (maxSteps := 2000000) only [wn] at kN475
                  have kN479 := kN479 n (by omega)
                  try simp (maxSteps := 2000000) only [wn] at kN479
                  have kN484 := kN484 n (by omega)
                  try simp (maxSteps := 2000000) only [wn] at kN484
                  simp (maxSteps := 2000000) only [W, reduceIte, Nat.reduceEqDiff, Nat.reduceAdd, Nat.reduceSub, Nat.reduceLT, Nat.reduceLeDiff, Nat.reduceMul, a79, kN467, c469d, kN471, c473d, kN475, c477d, kN479, c481d, c482d, kN484, c486d, c487d, c488d]
                · rw [if_neg c488] at h
                  have c488d := bf c488
                  cases h
                  refine ev_call (fn := a79) rfl ⟨N467 + N471 + N475 + N479 + N484, fun n hn => ?_⟩
                  have kN467 := kN467 n (by omega)
                  try simp (maxSteps := 2000000) only [wn] at kN467
                  have kN471 := kN471 n (by omega)
                  try simp (maxSteps := 2000000) only [wn] at kN471
                  have kN475 := kN475 n (by omega)
                  try simp (maxSteps := 2000000) only [wn] at kN475
                  have kN479 := kN479 n (by omega)
                  try simp (maxSteps := 2000000) only [wn] at kN479
                  have kN484 := kN484 n (by omega)
                  try simp (maxSteps := 2000000) only [wn] at kN484
                  simp (maxSteps := 2000000) only [W, reduceIte, Nat.reduceEqDiff, Nat.reduceAdd, Nat.reduceSub, Nat.reduceLT, Nat.reduceLeDiff, Nat.reduceMul, a79, kN467, c469d, kN471, c473d, kN475, c477d, kN479, c481d, c482d, kN484, c486d, c487d, c488d]
            · rw [if_neg c486] at h
              have c486d := bf c486
              cases h
              refine ev_call (fn := a79) rfl ⟨N467 + N471 + N475 + N479 + N484, fun n hn => ?_⟩
              have kN467 := kN467 n (by omega)
              try simp (maxSteps := 2000000) only [wn] at kN467
              have kN471 := kN471 n (by omega)
              try simp (maxSteps := 2000000) only [wn] at kN471
              have kN475 := kN475 n (by omega)
              try simp (maxSteps := 2000000) only [wn] at kN475
              have kN479 := kN479 n (by omega)
              try simp (maxSteps := 2000000) only [wn] at kN479
              have kN484 := kN484 n (by omega)
              try simp (maxSteps := 2000000) only [wn] at kN484
              simp (maxSteps := 2000000) only [W, reduceIte, Nat.reduceEqDiff, Nat.reduceAdd, Nat.reduceSub, Nat.reduceLT, Nat.reduceLeDiff, Nat.reduceMul, a79, kN467, c469d, kN471, c473d, kN475, c477d, kN479, c481d, c482d, kN484, c486d]
        · rw [if_neg c481] at h
          have c481d := bf c481
          cases h
          refine ev_call (fn := a79) rfl ⟨N467 + N471 + N475 + N479, fun n hn => ?_⟩
          have kN467 := kN467 n (by omega)
          try simp (maxSteps := 2000000) only [wn] at kN467
          have kN471 := kN471 n (by omega)
          try simp (maxSteps := 2000000) only [wn] at kN471
          have kN475 := kN475 n (by omega)
          try simp (maxSteps := 2000000) only [wn] at kN475
          have kN479 := kN479 n (by omega)
          try simp (maxSteps := 2000000) only [wn] at kN479
          simp (maxSteps := 2000000) only [W, reduceIte, Nat.reduceEqDiff, Nat.reduceAdd, Nat.reduceSub, Nat.reduceLT, Nat.reduceLeDiff, Nat.reduceMul, a79, kN467, c469d, kN471, c473d, kN475, c477d, kN479, c481d]
      · rw [if_neg c477] at h
        have c477d := bf c477
        cases h
        refine ev_call (fn := a79) rfl ⟨N467 + N471 + N475, fun n hn => ?_⟩
        have kN467 := kN467 n (by omega)
        try simp (maxSteps := 2000000) only [wn] at kN467
        have kN471 := kN471 n (by omega)
        try simp (maxSteps := 2000000) only [wn] at kN471
        have kN475 := kN475 n (by omega)
        try simp (maxSteps := 2000000) only [wn] at kN475
        simp (maxSteps := 2000000) only [W, reduceIte, Nat.reduceEqDiff, Nat.reduceAdd, Nat.reduceSub, Nat.reduceLT, Nat.reduceLeDiff, Nat.reduceMul, a79, kN467, c469d, kN471, c473d, kN475, c477d]
  · rw [if_neg c469] at h
    have c469d := bf c469
    cases h
    refine ev_call (fn := a79) rfl ⟨N467, fun n hn => ?_⟩
    have kN467 := kN467 n (by omega)
    try simp (maxSteps := 2000000) only [wn] at kN467
    simp (maxSteps := 2000000) only [W, reduceIte, Nat.reduceEqDiff, Nat.reduceAdd, Nat.reduceSub, Nat.reduceLT, Nat.reduceLeDiff, Nat.reduceMul, a79, kN467, c469d]
noncomputable def h19l1_0 (z0 : Bool) (z1 : Bool) (v450 : List WaterNode) (v451 : List WaterConduit) : (Int × (List ByteArray)) → Env × Heap
  | (v449, v452) => ([(1, .ptr 2 0), (4, .slice 3 0 v452.length v452.length 1 false), (7, .int .i64 v449)], [.row z0 true (rowC v450), .row z1 true (rowC v451), .row true false [.slice 0 0 v450.length v450.length 4 false, .slice 1 0 v451.length v451.length 6 false], .row true true (rowC v452)])
noncomputable def q19l1_0 (z0 : Bool) (z1 : Bool) (v450 : List WaterNode) (v451 : List WaterConduit) : ((Unit) ⊕ (Int × Int)) → AExit × Env × Heap
  | .inl (_) => (.exit 2, [(2, .undef), (3, .undef)], [.row z0 true (rowC v450), .row z1 true (rowC v451)])
  | .inr (r495, r496) => (.ret, [(2, .int .i64 r495), (3, .int .i64 r496)], [.row z0 true (rowC v450), .row z1 true (rowC v451)])
theorem k19l1_0 (z0 : Bool) (z1 : Bool) (v450 : List WaterNode) (v451 : List WaterConduit) (s : Int × (List ByteArray)) (o : (Unit) ⊕ (Int × Int)) (h : L19l1_0 v450 v451 s = some o) : Ev fun n => loopAt [1, 4, 7] [2, 3] a19l1b (ex tab n) 2 (h19l1_0 z0 z1 v450 v451 s) = some (q19l1_0 z0 z1 v450 v451 o) := by
  refine iter_sound (S19l1_0 v450 v451) [1, 4, 7] [2, 3] a19l1b 2 (h19l1_0 z0 z1 v450 v451) (q19l1_0 z0 z1 v450 v451) ?_ _ _ _ h
  rintro ⟨v449, v452⟩ z h
  simp only [S19l1_0] at h
  by_cases c453 : (v451.length : Int) ≤ v449
  · rw [if_pos c453] at h
    have c453d := dt c453
    cases h
    refine ⟨0, fun n hn => ?_⟩
    simp (maxSteps := 2000000) only [W, reduceIte, Nat.reduceEqDiff, Nat.reduceAdd, Nat.reduceSub, Nat.reduceLT, Nat.reduceLeDiff, Nat.reduceMul, h19l1_0, q19l1_0, a19l1b, rc_WaterConduit, c453d, wd]
  · rw [if_neg c453] at h
    have c453d := df c453
    obtain ⟨j454, x455, g456, h⟩ := un2 h
    obtain ⟨g4561, g4562⟩ := geti_in g456
    have g4563 := ac_WaterConduit g4562
    try simp only [wn] at g4561
    obtain ⟨r492, g490, h⟩ := un1 h
    obtain ⟨N491, kN491⟩ := c79_0 z0 z1 true x455.fName x455.fFrom x455.fTo x455.fResist x455.fValve x455.fOpen v450 v451 v452 _ g490
    by_cases c493 : r492 = 0
    · rw [if_pos c493] at h
      have c493d := dt c493
      obtain ⟨g494, h⟩ := un_roomd h
      cases h
      refine ⟨N491, fun n hn => ?_⟩
      have kN491 := kN491 n (by omega)
      try simp (maxSteps := 2000000) only [wn, rc_WaterConduit] at kN491
      simp (maxSteps := 2000000) only [W, reduceIte, Nat.reduceEqDiff, Nat.reduceAdd, Nat.reduceSub, Nat.reduceLT, Nat.reduceLeDiff, Nat.reduceMul, h19l1_0, q19l1_0, a19l1b, rc_WaterConduit, c453d, g4561, g4563, kN491, c493d, g494, wd]
    · rw [if_neg c493] at h
      have c493d := df c493
      cases h
      refine ⟨N491, fun n hn => ?_⟩
      have kN491 := kN491 n (by omega)
      try simp (maxSteps := 2000000) only [wn, rc_WaterConduit] at kN491
      simp (maxSteps := 2000000) only [W, reduceIte, Nat.reduceEqDiff, Nat.reduceAdd, Nat.reduceSub, Nat.reduceLT, Nat.reduceLeDiff, Nat.reduceMul, h19l1_0, q19l1_0, a19l1b, rc_WaterConduit, c453d, g4561, g4563, kN491, c493d, wd]
theorem c19_0 (z0 : Bool) (z1 : Bool) (v349 : List WaterNode) (v350 : List WaterConduit) (r503 : Int) (r504 : Int) (h : F19_0 v349 v350 = some (r503, r504)) : Ev fun n => (ex tab n).call 19 [.agg [.slice 0 0 v349.length v349.length 4 false, .slice 1 0 v350.length v350.length 6 false]] [.row z0 true (rowC v349), .row z1 true (rowC v350)] = some (.tup [.int .i64 r503, .int .i64 r504], [.row z0 true (rowC v349), .row z1 true (rowC v350)]) := by
  unfold F19_0 at h
  by_cases c351 : (v349.length : Int) = 0
  · rw [if_pos c351] at h
    have c351d := dt c351
    cases h
    refine ev_call (fn := a19) rfl ⟨0, fun n hn => ?_⟩
    simp (maxSteps := 2000000) only [W, reduceIte, Nat.reduceEqDiff, Nat.reduceAdd, Nat.reduceSub, Nat.reduceLT, Nat.reduceLeDiff, Nat.reduceMul, a19, a19l0, a19l1, rc_WaterConduit, rc_WaterNode, c351d, @x_loopAt]
  · rw [if_neg c351] at h
    have c351d := df c351
    by_cases c352 : (v350.length : Int) = 0
    · rw [if_pos c352] at h
      have c352d := dt c352
      cases h
      refine ev_call (fn := a19) rfl ⟨0, fun n hn => ?_⟩
      simp (maxSteps := 2000000) only [W, reduceIte, Nat.reduceEqDiff, Nat.reduceAdd, Nat.reduceSub, Nat.reduceLT, Nat.reduceLeDiff, Nat.reduceMul, a19, a19l0, a19l1, rc_WaterConduit, rc_WaterNode, c351d, c352d, @x_loopAt]
    · rw [if_neg c352] at h
      have c352d := df c352
      by_cases c353 : (v349.length : Int) ≤ 10
      · rw [if_pos c353] at h
        have c353d := dt c353
        by_cases c354 : (v350.length : Int) ≤ 14
        · rw [if_pos c354] at h
          have c354d := dt c354
          obtain ⟨g447_, g447, h⟩ := un1 h
          rcases g447_ with _ | ⟨r501, r502⟩
          · dsimp only at h
            have kN448 := k19l0_0 z0 z1 v349 v350 (0, ([] : List ByteArray)) _ g447
            obtain ⟨N448, kN448⟩ := kN448
            obtain ⟨g497_, g497, h⟩ := un1 h
            rcases g497_ with _ | ⟨r499, r500⟩
            · dsimp only at h
              have kN498 := k19l1_0 z0 z1 v349 v350 (0, ([] : List ByteArray)) _ g497
              obtain ⟨N498, kN498⟩ := kN498
              cases h
              refine ev_call (fn := a19) rfl ⟨N448 + N498, fun n hn => ?_⟩
              have kN448 := kN448 n (by omega)
              simp (maxSteps := 2000000) only [h19l0_0, q19l0_0, wn, rc_WaterNode] at kN448
              have kN498 := kN498 n (by omega)
              simp (maxSteps := 2000000) only [h19l1_0, q19l1_0, wn, rc_WaterConduit, rc_WaterNode] at kN498
              simp (maxSteps := 2000000) only [W, reduceIte, Nat.reduceEqDiff, Nat.reduceAdd, Nat.reduceSub, Nat.reduceLT, Nat.reduceLeDiff, Nat.reduceMul, a19, a19l0, a19l1, rc_WaterConduit, rc_WaterNode, c351d, c352d, c353d, c354d, kN448, kN498, @x_loopAt]
            · dsimp only at h
              have kN498 := k19l1_0 z0 z1 v349 v350 (0, ([] : List ByteArray)) _ g497
              obtain ⟨N498, kN498⟩ := kN498
              cases h
              refine ev_call (fn := a19) rfl ⟨N448 + N498, fun n hn => ?_⟩
              have kN448 := kN448 n (by omega)
              simp (maxSteps := 2000000) only [h19l0_0, q19l0_0, wn, rc_WaterNode] at kN448
              have kN498 := kN498 n (by omega)
              simp (maxSteps := 2000000) only [h19l1_0, q19l1_0, wn, rc_WaterConduit, rc_WaterNode] at kN498
              simp (maxSteps := 2000000) only [W, reduceIte, Nat.reduceEqDiff, Nat.reduceAdd, Nat.reduceSub, Nat.reduceLT, Nat.reduceLeDiff, Nat.reduceMul, a19, a19l0, a19l1, rc_WaterConduit, rc_WaterNode, c351d, c352d, c353d, c354d, kN448, kN498, @x_loopAt]
          · dsimp only at h
            have kN448 := k19l0_0 z0 z1 v349 v350 (0, ([] : List ByteArray)) _ g447
            obtain ⟨N448, kN448⟩ := kN448
            cases h
            refine ev_call (fn := a19) rfl ⟨N448, fun n hn => ?_⟩
            have kN448 := kN448 n (by omega)
            simp (maxSteps := 2000000) only [h19l0_0, q19l0_0, wn, rc_WaterConduit, rc_WaterNode] at kN448
            simp (maxSteps := 2000000) only [W, reduceIte, Nat.reduceEqDiff, Nat.reduceAdd, Nat.reduceSub, Nat.reduceLT, Nat.reduceLeDiff, Nat.reduceMul, a19, a19l0, a19l1, rc_WaterConduit, rc_WaterNode, c351d, c352d, c353d, c354d, kN448, @x_loopAt]
        · rw [if_neg c354] at h
          have c354d := df c354
          cases h
          refine ev_call (fn := a19) rfl ⟨0, fun n hn => ?_⟩
          simp (maxSteps := 2000000) only [W, reduceIte, Nat.reduceEqDiff, Nat.reduceAdd, Nat.reduceSub, Nat.reduceLT, Nat.reduceLeDiff, Nat.reduceMul, a19, a19l0, a19l1, rc_WaterConduit, rc_WaterNode, c351d, c352d, c353d, c354d, @x_loopAt]
      · rw [if_neg c353] at h
        have c353d := df c353
        cases h
        refine ev_call (fn := a19) rfl ⟨0, fun n hn => ?_⟩
        simp (maxSteps := 2000000) only [W, reduceIte, Nat.reduceEqDiff, Nat.reduceAdd, Nat.reduceSub, Nat.reduceLT, Nat.reduceLeDiff, Nat.reduceMul, a19, a19l0, a19l1, rc_WaterConduit, rc_WaterNode, c351d, c352d, c353d, @x_loopAt]
theorem c41_0 (v528 : Int) (r529 : Int) (h : F41_0 v528 = some r529) : Ev fun n => (ex tab n).call 41 [.int .i64 v528] [] = some (.int .i64 r529, []) := by
  unfold F41_0 at h
  cases h
  refine ev_call (fn := a41) rfl ⟨0, fun n hn => ?_⟩
  simp (maxSteps := 2000000) only [W, reduceIte, Nat.reduceEqDiff, Nat.reduceAdd, Nat.reduceSub, Nat.reduceLT, Nat.reduceLeDiff, Nat.reduceMul, a41]
theorem c22_0 (v526 : Int) (v527 : Int) (r533 : Int) (h : F22_0 v526 v527 = some r533) : Ev fun n => (ex tab n).call 22 [.int .i64 v526, .int .i64 v527] [] = some (.int .i64 r533, []) := by
  unfold F22_0 at h
  obtain ⟨r532, g530, h⟩ := un1 h
  obtain ⟨N531, kN531⟩ := c41_0 v527 _ g530
  cases h
  refine ev_call (fn := a22) rfl ⟨N531, fun n hn => ?_⟩
  have kN531 := kN531 n (by omega)
  try simp (maxSteps := 2000000) only [wn] at kN531
  simp (maxSteps := 2000000) only [W, reduceIte, Nat.reduceEqDiff, Nat.reduceAdd, Nat.reduceSub, Nat.reduceLT, Nat.reduceLeDiff, Nat.reduceMul, a22, kN531]
end Go.AI
end
section
/-
  Functions, walked through: water.WetIn, api.WaterConduit], water.net).turned, water.FilledBy, guidevaneref02.NetErr, guidevaneref02.NodeErr, guidevaneref02.reach, guidevaneref02.indexes, guidevaneref02.Reached.
-/
set_option linter.unusedVariables false
set_option linter.unusedSimpArgs false
set_option maxRecDepth 100000
set_option maxHeartbeats 4000000
namespace Go.AI
theorem c32_0 (z0 : Bool) (z1 : Bool) (v1233 : List WaterNode) (v1234 : List WaterConduit) (r1239 : Int) (h : F32_0 v1233 v1234 = some r1239) : Ev fun n => (ex tab n).call 32 [.agg [.slice 0 0 v1233.length v1233.length 4 false, .slice 1 0 v1234.length v1234.length 6 false]] [.row z0 true (rowC v1233), .row z1 true (rowC v1234)] = some (.int .i64 r1239, [.row z0 true (rowC v1233), .row z1 true (rowC v1234)]) := by
  unfold F32_0 at h
  obtain ⟨r1237, r1238, g1235, h⟩ := un2 h
  obtain ⟨N1236, kN1236⟩ := c19_0 z0 z1 v1233 v1234 _ _ g1235
  cases h
  refine ev_call (fn := a32) rfl ⟨N1236, fun n hn => ?_⟩
  have kN1236 := kN1236 n (by omega)
  try simp (maxSteps := 2000000) only [wn] at kN1236
  simp (maxSteps := 2000000) only [W, reduceIte, Nat.reduceEqDiff, Nat.reduceAdd, Nat.reduceSub, Nat.reduceLT, Nat.reduceLeDiff, Nat.reduceMul, a32, kN1236]
theorem c33_0 (z0 : Bool) (z1 : Bool) (v1244 : Int) (v1245 : List WaterNode) (v1246 : List WaterConduit) (r1251 : Int) (h : F33_0 v1244 v1245 v1246 = some r1251) : Ev fun n => (ex tab n).call 33 [.agg [.slice 0 0 v1245.length v1245.length 4 false, .slice 1 0 v1246.length v1246.length 6 false], .int .i64 v1244] [.row z0 true (rowC v1245), .row z1 true (rowC v1246)] = some (.int .i64 r1251, [.row z0 true (rowC v1245), .row z1 true (rowC v1246)]) := by
  unfold F33_0 at h
  obtain ⟨r1249, g1247, h⟩ := un1 h
  obtain ⟨N1248, kN1248⟩ := c20_0 v1244 0 (aw .i64 ((v1245.length : Int) - 1)) _ g1247
  by_cases c1250 : r1249 = true
  · rw [if_pos c1250] at h
    have c1250d := c1250
    cases h
    refine ev_call (fn := a33) rfl ⟨N1248, fun n hn => ?_⟩
    have kN1248 := kN1248 n (by omega)
    try simp (maxSteps := 2000000) only [wn] at kN1248
    simp (maxSteps := 2000000) only [W, reduceIte, Nat.reduceEqDiff, Nat.reduceAdd, Nat.reduceSub, Nat.reduceLT, Nat.reduceLeDiff, Nat.reduceMul, a33, kN1248, c1250d]
  · rw [if_neg c1250] at h
    have c1250d := bf c1250
    cases h
    refine ev_call (fn := a33) rfl ⟨N1248, fun n hn => ?_⟩
    have kN1248 := kN1248 n (by omega)
    try simp (maxSteps := 2000000) only [wn] at kN1248
    simp (maxSteps := 2000000) only [W, reduceIte, Nat.reduceEqDiff, Nat.reduceAdd, Nat.reduceSub, Nat.reduceLT, Nat.reduceLeDiff, Nat.reduceMul, a33, kN1248, c1250d]
end Go.AI
end
section
/-
  Functions, walked through: guidevaneref02.Tree, guidevanebase.Has, guidevaneref02.Closing, guidevaneref02.FormErr.
-/
set_option linter.unusedVariables false
set_option linter.unusedSimpArgs false
set_option maxRecDepth 100000
set_option maxHeartbeats 4000000
namespace Go.AI
noncomputable def h137l0_0 (z0 : Bool) (z1 : Bool) (v1538 : List WaterNode) (v1539 : List WaterConduit) : (Int × Int × (List Bool)) → Env × Heap
  | (v1536, v1537, v1540) => ([(1, .ptr 2 0), (5, .slice 3 0 v1540.length v1540.length 1 false), (6, .int .i64 v1536), (7, .int .i64 v1537)], [.row z0 true (rowC v1538), .row z1 true (rowC v1539), .row true false [.slice 0 0 v1538.length v1538.length 4 false, .slice 1 0 v1539.length v1539.length 6 false], .row true true (rowC v1540)])
noncomputable def q137l0_0 (z0 : Bool) (z1 : Bool) (v1538 : List WaterNode) (v1539 : List WaterConduit) : (Int × (List Bool)) → AExit × Env × Heap
  | (r1551, r1552) => (.exit 0, [(1, .ptr 2 0), (2, .undef), (3, .undef), (4, .undef), (5, .slice 3 0 r1552.length r1552.length 1 false), (6, .int .i64 r1551)], [.row z0 true (rowC v1538), .row z1 true (rowC v1539), .row true false [.slice 0 0 v1538.length v1538.length 4 false, .slice 1 0 v1539.length v1539.length 6 false], .row true true (rowC r1552)])
theorem k137l0_0 (z0 : Bool) (z1 : Bool) (v1538 : List WaterNode) (v1539 : List WaterConduit) (s : Int × Int × (List Bool)) (o : Int × (List Bool)) (h : L137l0_0 v1538 v1539 s = some o) : Ev fun n => loopAt [1, 5, 6, 7] [1, 2, 3, 4, 5, 6] a137l0b (ex tab n) 2 (h137l0_0 z0 z1 v1538 v1539 s) = some (q137l0_0 z0 z1 v1538 v1539 o) := by
  refine iter_sound (S137l0_0 v1538 v1539) [1, 5, 6, 7] [1, 2, 3, 4, 5, 6] a137l0b 2 (h137l0_0 z0 z1 v1538 v1539) (q137l0_0 z0 z1 v1538 v1539) ?_ _ _ _ h
  rintro ⟨v1536, v1537, v1540⟩ z h
  simp only [S137l0_0] at h
  by_cases c1541 : (v1538.length : Int) ≤ v1537
  · rw [if_pos c1541] at h
    have c1541d := dt c1541
    cases h
    refine ⟨0, fun n hn => ?_⟩
    simp (maxSteps := 2000000) only [W, reduceIte, Nat.reduceEqDiff, Nat.reduceAdd, Nat.reduceSub, Nat.reduceLT, Nat.reduceLeDiff, Nat.reduceMul, h137l0_0, q137l0_0, a137l0b, rc_WaterNode, c1541d]
  · rw [if_neg c1541] at h
    have c1541d := df c1541
    obtain ⟨j1542, x1543, g1544, h⟩ := un2 h
    obtain ⟨g15441, g15442⟩ := geti_in g1544
    have g15443 := ac_WaterNode g15442
    try simp only [wn] at g15441
    obtain ⟨j1545, x1546, g1547, h⟩ := un2 h
    obtain ⟨g15471, g15472⟩ := geti_in g1547
    have g15473 := ac_Bool g15472
    try simp only [wn] at g15471
    obtain ⟨x1548, g1549, h⟩ := un1 h
    have g15493 := ac_Bool g1549
    by_cases c1550 : x1548 = true
    · rw [if_pos c1550] at h
      have c1550d := c1550
      cases h
      refine ⟨0, fun n hn => ?_⟩
      simp (maxSteps := 2000000) only [W, reduceIte, Nat.reduceEqDiff, Nat.reduceAdd, Nat.reduceSub, Nat.reduceLT, Nat.reduceLeDiff, Nat.reduceMul, h137l0_0, q137l0_0, a137l0b, rc_WaterNode, c1541d, g15441, g15443, g15471, g15473, g15493, c1550d]
    · rw [if_neg c1550] at h
      have c1550d := bf c1550
      cases h
      refine ⟨0, fun n hn => ?_⟩
      simp (maxSteps := 2000000) only [W, reduceIte, Nat.reduceEqDiff, Nat.reduceAdd, Nat.reduceSub, Nat.reduceLT, Nat.reduceLeDiff, Nat.reduceMul, h137l0_0, q137l0_0, a137l0b, rc_WaterNode, c1541d, g15441, g15443, g15471, g15473, g15493, c1550d]
noncomputable def h137l1_0 (z0 : Bool) (z1 : Bool) (v1565 : Int) (v1568 : List WaterNode) (v1569 : List WaterConduit) : (Bool × Int × (List Bool) × (List Int) × (List Int)) → Env × Heap
  | (v1566, v1567, v1570, v1571, v1572) => ([(1, .ptr 2 0), (5, .slice 3 0 v1570.length v1570.length 1 false), (6, .int .i64 v1565), (8, .slice 4 0 v1571.length v1571.length 1 false), (9, .slice 5 0 v1572.length v1572.length 1 false), (10, .bool v1566), (11, .int .i64 v1567)], [.row z0 true (rowC v1568), .row z1 true (rowC v1569), .row true false [.slice 0 0 v1568.length v1568.length 4 false, .slice 1 0 v1569.length v1569.length 6 false], .row true true (rowC v1570), .row true true (rowC v1571), .row true true (rowC v1572)])
noncomputable def q137l1_0 (z0 : Bool) (z1 : Bool) (v1565 : Int) (v1568 : List WaterNode) (v1569 : List WaterConduit) : (Bool × (List Bool) × (List Int) × (List Int)) → AExit × Env × Heap
  | (r1593, r1594, r1595, r1596) => (.exit 4, [(1, .ptr 2 0), (2, .undef), (3, .undef), (4, .undef), (5, .slice 3 0 r1594.length r1594.length 1 false), (6, .int .i64 v1565), (8, .slice 4 0 r1595.length r1595.length 1 false), (9, .slice 5 0 r1596.length r1596.length 1 false), (10, .bool r1593)], [.row z0 true (rowC v1568), .row z1 true (rowC v1569), .row true false [.slice 0 0 v1568.length v1568.length 4 false, .slice 1 0 v1569.length v1569.length 6 false], .row true true (rowC r1594), .row true true (rowC r1595), .row true true (rowC r1596)])
theorem k137l1_0 (z0 : Bool) (z1 : Bool) (v1565 : Int) (v1568 : List WaterNode) (v1569 : List WaterConduit) (s : Bool × Int × (List Bool) × (List Int) × (List Int)) (o : Bool × (List Bool) × (List Int) × (List Int)) (h : L137l1_0 v1565 v1568 v1569 s = some o) : Ev fun n => loopAt [1, 5, 6, 8, 9, 10, 11] [1, 2, 3, 4, 5, 6, 8, 9, 10] a137l1b (ex tab n) 2 (h137l1_0 z0 z1 v1565 v1568 v1569 s) = some (q137l1_0 z0 z1 v1565 v1568 v1569 o) := by
  refine iter_sound (S137l1_0 v1565 v1568 v1569) [1, 5, 6, 8, 9, 10, 11] [1, 2, 3, 4, 5, 6, 8, 9, 10] a137l1b 2 (h137l1_0 z0 z1 v1565 v1568 v1569) (q137l1_0 z0 z1 v1565 v1568 v1569) ?_ _ _ _ h
  rintro ⟨v1566, v1567, v1570, v1571, v1572⟩ z h
  simp only [S137l1_0] at h
  by_cases c1573 : (v1569.length : Int) ≤ v1567
  · rw [if_pos c1573] at h
    have c1573d := dt c1573
    cases h
    refine ⟨0, fun n hn => ?_⟩
    simp (maxSteps := 2000000) only [W, reduceIte, Nat.reduceEqDiff, Nat.reduceAdd, Nat.reduceSub, Nat.reduceLT, Nat.reduceLeDiff, Nat.reduceMul, h137l1_0, q137l1_0, a137l1b, rc_WaterConduit, c1573d, wd]
  · rw [if_neg c1573] at h
    have c1573d := df c1573
    by_cases c1574 : v1566 = true
    · rw [if_pos c1574] at h
      have c1574d := c1574
      cases h
      refine ⟨0, fun n hn => ?_⟩
      simp (maxSteps := 2000000) only [W, reduceIte, Nat.reduceEqDiff, Nat.reduceAdd, Nat.reduceSub, Nat.reduceLT, Nat.reduceLeDiff, Nat.reduceMul, h137l1_0, q137l1_0, a137l1b, rc_WaterConduit, c1573d, c1574d, wd]
    · rw [if_neg c1574] at h
      have c1574d := bf c1574
      obtain ⟨j1575, x1576, g1577, h⟩ := un2 h
      obtain ⟨g15771, g15772⟩ := geti_in g1577
      have g15773 := ac_WaterConduit g15772
      try simp only [wn] at g15771
      by_cases c1578 : x1576.fOpen = true
      · rw [if_pos c1578] at h
        have c1578d := c1578
        obtain ⟨j1579, x1580, g1581, h⟩ := un2 h
        obtain ⟨g15811, g15812⟩ := geti_in g1581
        have g15813 := ac_Bool g15812
        try simp only [wn] at g15811
        obtain ⟨j1582, x1583, g1584, h⟩ := un2 h
        obtain ⟨g15841, g15842⟩ := geti_in g1584
        have g15843 := ac_Bool g15842
        try simp only [wn] at g15841
        by_cases c1585 : (x1580 == x1583) = true
        · rw [if_pos c1585] at h
          have c1585d := c1585
          cases h
          refine ⟨0, fun n hn => ?_⟩
          simp (maxSteps := 2000000) only [W, reduceIte, Nat.reduceEqDiff, Nat.reduceAdd, Nat.reduceSub, Nat.reduceLT, Nat.reduceLeDiff, Nat.reduceMul, h137l1_0, q137l1_0, a137l1b, rc_WaterConduit, c1573d, c1574d, g15771, g15773, c1578d, g15811, g15813, g15841, g15843, c1585d, wd]
        · rw [if_neg c1585] at h
          have c1585d := bf c1585
          by_cases c1586 : x1583 = true
          · rw [if_pos c1586] at h
            have c1586d := c1586
            have d1587 : x1580 = false := beq_val2 c1585d c1586d
            obtain ⟨g1588, h⟩ := un_roomd h
            obtain ⟨g1589, h⟩ := un_roomd h
            cases h
            refine ⟨0, fun n hn => ?_⟩
            simp (maxSteps := 2000000) only [W, reduceIte, Nat.reduceEqDiff, Nat.reduceAdd, Nat.reduceSub, Nat.reduceLT, Nat.reduceLeDiff, Nat.reduceMul, h137l1_0, q137l1_0, a137l1b, rc_WaterConduit, c1573d, c1574d, g15771, g15773, c1578d, g15811, g15813, g15841, g15843, c1585d, c1586d, d1587, g1588, g1589, wd]
          · rw [if_neg c1586] at h
            have c1586d := bf c1586
            have d1590 : x1580 = true := beq_val2 c1585d c1586d
            obtain ⟨g1591, h⟩ := un_roomd h
            obtain ⟨g1592, h⟩ := un_roomd h
            cases h
            refine ⟨0, fun n hn => ?_⟩
            simp (maxSteps := 2000000) only [W, reduceIte, Nat.reduceEqDiff, Nat.reduceAdd, Nat.reduceSub, Nat.reduceLT, Nat.reduceLeDiff, Nat.reduceMul, h137l1_0, q137l1_0, a137l1b, rc_WaterConduit, c1573d, c1574d, g15771, g15773, c1578d, g15811, g15813, g15841, g15843, c1585d, c1586d, d1590, g1591, g1592, wd]
      · rw [if_neg c1578] at h
        have c1578d := bf c1578
        cases h
        refine ⟨0, fun n hn => ?_⟩
        simp (maxSteps := 2000000) only [W, reduceIte, Nat.reduceEqDiff, Nat.reduceAdd, Nat.reduceSub, Nat.reduceLT, Nat.reduceLeDiff, Nat.reduceMul, h137l1_0, q137l1_0, a137l1b, rc_WaterConduit, c1573d, c1574d, g15771, g15773, c1578d, wd]
noncomputable def h137l2_0 (z0 : Bool) (z1 : Bool) (v1557 : Int) (v1559 : List WaterNode) (v1560 : List WaterConduit) : (Bool × (List Bool) × (List Int) × (List Int)) → Env × Heap
  | (v1558, v1561, v1562, v1563) => ([(1, .ptr 2 0), (5, .slice 3 0 v1561.length v1561.length 1 false), (6, .int .i64 v1557), (8, .slice 4 0 v1562.length v1562.length 1 false), (9, .slice 5 0 v1563.length v1563.length 1 false), (10, .bool v1558)], [.row z0 true (rowC v1559), .row z1 true (rowC v1560), .row true false [.slice 0 0 v1559.length v1559.length 4 false, .slice 1 0 v1560.length v1560.length 6 false], .row true true (rowC v1561), .row true true (rowC v1562), .row true true (rowC v1563)])
noncomputable def q137l2_0 (z0 : Bool) (z1 : Bool) (v1557 : Int) (v1559 : List WaterNode) (v1560 : List WaterConduit) : ((List Int) × (List Int)) → AExit × Env × Heap
  | (r1603, r1604) => (.exit 2, [(2, .undef), (3, .undef), (4, .undef), (6, .int .i64 v1557), (8, .slice 2 0 r1603.length r1603.length 1 false), (9, .slice 3 0 r1604.length r1604.length 1 false)], [.row z0 true (rowC v1559), .row z1 true (rowC v1560), .row true true (rowC r1603), .row true true (rowC r1604)])
theorem k137l2_0 (z0 : Bool) (z1 : Bool) (v1557 : Int) (v1559 : List WaterNode) (v1560 : List WaterConduit) (s : Bool × (List Bool) × (List Int) × (List Int)) (o : (List Int) × (List Int)) (h : L137l2_0 v1557 v1559 v1560 s = some o) : Ev fun n => loopAt [1, 5, 6, 8, 9, 10] [2, 3, 4, 6, 8, 9] a137l2b (ex tab n) 2 (h137l2_0 z0 z1 v1557 v1559 v1560 s) = some (q137l2_0 z0 z1 v1557 v1559 v1560 o) := by
  refine iter_sound (S137l2_0 v1557 v1559 v1560) [1, 5, 6, 8, 9, 10] [2, 3, 4, 6, 8, 9] a137l2b 2 (h137l2_0 z0 z1 v1557 v1559 v1560) (q137l2_0 z0 z1 v1557 v1559 v1560) ?_ _ _ _ h
  rintro ⟨v1558, v1561, v1562, v1563⟩ z h
  simp only [S137l2_0] at h
  by_cases c1564 : v1558 = true
  · rw [if_pos c1564] at h
    have c1564d := c1564
    obtain ⟨r1599, r1600, r1601, r1602, g1597, h⟩ := un4 h
    have kN1598 := k137l1_0 z0 z1 v1557 v1559 v1560 (false, 0, v1561, v1562, v1563) _ g1597
    obtain ⟨N1598, kN1598⟩ := kN1598
    cases h
    refine ⟨N1598, fun n hn => ?_⟩
    have kN1598 := kN1598 n (by omega)
    simp (maxSteps := 2000000) only [h137l1_0, q137l1_0, wn, rc_WaterConduit] at kN1598
    simp (maxSteps := 2000000) only [W, reduceIte, Nat.reduceEqDiff, Nat.reduceAdd, Nat.reduceSub, Nat.reduceLT, Nat.reduceLeDiff, Nat.reduceMul, h137l2_0, q137l2_0, a137l1, a137l2b, rc_WaterConduit, c1564d, kN1598, @x_loopAt]
  · rw [if_neg c1564] at h
    have c1564d := bf c1564
    cases h
    refine ⟨0, fun n hn => ?_⟩
    simp (maxSteps := 2000000) only [W, reduceIte, Nat.reduceEqDiff, Nat.reduceAdd, Nat.reduceSub, Nat.reduceLT, Nat.reduceLeDiff, Nat.reduceMul, h137l2_0, q137l2_0, a137l1, a137l2b, rc_WaterConduit, c1564d, @x_loopAt]
theorem c137_0 (z0 : Bool) (z1 : Bool) (v1531 : List WaterNode) (v1532 : List WaterConduit) (r1609 : Bool) (r1610 : List Int) (r1611 : List Int) (h : F137_0 v1531 v1532 = some (r1609, r1610, r1611)) : Ev fun n => (ex tab n).call 137 [.agg [.slice 0 0 v1531.length v1531.length 4 false, .slice 1 0 v1532.length v1532.length 6 false]] [.row z0 true (rowC v1531), .row z1 true (rowC v1532)] = some (.tup [.slice 2 0 r1610.length r1610.length 1 false, .slice 3 0 r1611.length r1611.length 1 false, .bool r1609], [.row z0 true (rowC v1531), .row z1 true (rowC v1532), .row true true (rowC r1610), .row true true (rowC r1611)]) := by
  unfold F137_0 at h
  obtain ⟨n1533, g1534, h⟩ := un1 h
  try simp only [wn] at g1534
  obtain ⟨g1535, h⟩ := un_roomd h
  try simp only [Nat.reduceLeDiff] at g1535
  obtain ⟨r1555, r1556, g1553, h⟩ := un2 h
  have kN1554 := k137l0_0 z0 z1 v1531 v1532 (0, 0, (List.replicate n1533 false)) _ g1553
  obtain ⟨N1554, kN1554⟩ := kN1554
  obtain ⟨r1607, r1608, g1605, h⟩ := un2 h
  have kN1606 := k137l2_0 z0 z1 r1555 v1531 v1532 (true, r1556, ([] : List Int), ([] : List Int)) _ g1605
  obtain ⟨N1606, kN1606⟩ := kN1606
  cases h
  refine ev_call (fn := a137) rfl ⟨N1554 + N1606, fun n hn => ?_⟩
  have kN1554 := kN1554 n (by omega)
  simp (maxSteps := 2000000) only [h137l0_0, q137l0_0, wn, rc_WaterNode] at kN1554
  have kN1606 := kN1606 n (by omega)
  simp (maxSteps := 2000000) only [h137l2_0, q137l2_0, wn, rc_WaterConduit, rc_WaterNode] at kN1606
  simp (maxSteps := 2000000) only [W, reduceIte, Nat.reduceEqDiff, Nat.reduceAdd, Nat.reduceSub, Nat.reduceLT, Nat.reduceLeDiff, Nat.reduceMul, a137, a137l0, a137l2, rc_WaterConduit, rc_WaterNode, g1534, g1535, kN1554, kN1606, @x_loopAt]
noncomputable def h68l0_0 (z0 : Bool) (v1630 : Int) (v1632 : List Int) : (Int) → Env × Heap
  | v1631 => ([(0, .slice 0 0 v1632.length v1632.length 1 false), (1, .int .i64 v1630), (5, .int .i64 v1631)], [.row z0 true (rowC v1632)])
noncomputable def q68l0_0 (z0 : Bool) (v1630 : Int) (v1632 : List Int) : ((Unit) ⊕ (Unit)) → AExit × Env × Heap
  | .inl (_) => (.exit 0, [(4, .undef)], [.row z0 true (rowC v1632)])
  | .inr (_) => (.ret, [(4, .bool true)], [.row z0 true (rowC v1632)])
theorem k68l0_0 (z0 : Bool) (v1630 : Int) (v1632 : List Int) (s : Int) (o : (Unit) ⊕ (Unit)) (h : L68l0_0 v1630 v1632 s = some o) : Ev fun n => loopAt [0, 1, 5] [4] a68l0b (ex tab n) 1 (h68l0_0 z0 v1630 v1632 s) = some (q68l0_0 z0 v1630 v1632 o) := by
  refine iter_sound (S68l0_0 v1630 v1632) [0, 1, 5] [4] a68l0b 1 (h68l0_0 z0 v1630 v1632) (q68l0_0 z0 v1630 v1632) ?_ _ _ _ h
  rintro v1631 z h
  simp only [S68l0_0] at h
  by_cases c1633 : (v1632.length : Int) ≤ v1631
  · rw [if_pos c1633] at h
    have c1633d := dt c1633
    cases h
    refine ⟨0, fun n hn => ?_⟩
    simp (maxSteps := 2000000) only [W, reduceIte, Nat.reduceEqDiff, Nat.reduceAdd, Nat.reduceSub, Nat.reduceLT, Nat.reduceLeDiff, Nat.reduceMul, h68l0_0, q68l0_0, a68l0b, c1633d]
  · rw [if_neg c1633] at h
    have c1633d := df c1633
    obtain ⟨j1634, x1635, g1636, h⟩ := un2 h
    obtain ⟨g16361, g16362⟩ := geti_in g1636
    have g16363 := ac_Int g16362
    try simp only [wn] at g16361
    by_cases c1637 : x1635 = v1630
    · rw [if_pos c1637] at h
      have c1637d := dt c1637
      cases h
      refine ⟨0, fun n hn => ?_⟩
      simp (maxSteps := 2000000) only [W, reduceIte, Nat.reduceEqDiff, Nat.reduceAdd, Nat.reduceSub, Nat.reduceLT, Nat.reduceLeDiff, Nat.reduceMul, h68l0_0, q68l0_0, a68l0b, c1633d, g16361, g16363, c1637d]
    · rw [if_neg c1637] at h
      have c1637d := df c1637
      cases h
      refine ⟨0, fun n hn => ?_⟩
      simp (maxSteps := 2000000) only [W, reduceIte, Nat.reduceEqDiff, Nat.reduceAdd, Nat.reduceSub, Nat.reduceLT, Nat.reduceLeDiff, Nat.reduceMul, h68l0_0, q68l0_0, a68l0b, c1633d, g16361, g16363, c1637d]
theorem c68_0 (z0 : Bool) (v1628 : Int) (v1629 : List Int) (r1640 : Bool) (h : F68_0 v1628 v1629 = some r1640) : Ev fun n => (ex tab n).call 68 [.slice 0 0 v1629.length v1629.length 1 false, .int .i64 v1628] [.row z0 true (rowC v1629)] = some (.bool r1640, [.row z0 true (rowC v1629)]) := by
  unfold F68_0 at h
  obtain ⟨g1638_, g1638, h⟩ := un1 h
  rcases g1638_ with _ | _
  · dsimp only at h
    have kN1639 := k68l0_0 z0 v1628 v1629 0 _ g1638
    obtain ⟨N1639, kN1639⟩ := kN1639
    cases h
    refine ev_call (fn := a68) rfl ⟨N1639, fun n hn => ?_⟩
    have kN1639 := kN1639 n (by omega)
    simp (maxSteps := 2000000) only [h68l0_0, q68l0_0, wn] at kN1639
    simp (maxSteps := 2000000) only [W, reduceIte, Nat.reduceEqDiff, Nat.reduceAdd, Nat.reduceSub, Nat.reduceLT, Nat.reduceLeDiff, Nat.reduceMul, a68, a68l0, kN1639, @x_loopAt]
  · dsimp only at h
    have kN1639 := k68l0_0 z0 v1628 v1629 0 _ g1638
    obtain ⟨N1639, kN1639⟩ := kN1639
    cases h
    refine ev_call (fn := a68) rfl ⟨N1639, fun n hn => ?_⟩
    have kN1639 := kN1639 n (by omega)
    simp (maxSteps := 2000000) only [h68l0_0, q68l0_0, wn] at kN1639
    simp (maxSteps := 2000000) only [W, reduceIte, Nat.reduceEqDiff, Nat.reduceAdd, Nat.reduceSub, Nat.reduceLT, Nat.reduceLeDiff, Nat.reduceMul, a68, a68l0, kN1639, @x_loopAt]
noncomputable def h97l0_0 (z0 : Bool) (z1 : Bool) (v1620 : List WaterNode) (v1621 : List WaterConduit) (v1622 : List Int) : (Int × Int) → Env × Heap
  | (v1618, v1619) => ([(1, .ptr 2 0), (4, .slice 3 0 v1622.length v1622.length 1 false), (7, .int .i64 v1618), (8, .int .i64 v1619)], [.row z0 true (rowC v1620), .row z1 true (rowC v1621), .row true false [.slice 0 0 v1620.length v1620.length 4 false, .slice 1 0 v1621.length v1621.length 6 false], .row true true (rowC v1622)])
noncomputable def q97l0_0 (z0 : Bool) (z1 : Bool) (v1620 : List WaterNode) (v1621 : List WaterConduit) (v1622 : List Int) : ((Int) ⊕ (Int)) → AExit × Env × Heap
  | .inl (r1646) => (.exit 0, [(2, .undef), (3, .undef), (7, .int .i64 r1646)], [.row z0 true (rowC v1620), .row z1 true (rowC v1621)])
  | .inr (r1647) => (.ret, [(2, .int .i64 (-1)), (3, .int .i64 8), (7, .int .i64 r1647)], [.row z0 true (rowC v1620), .row z1 true (rowC v1621)])
theorem k97l0_0 (z0 : Bool) (z1 : Bool) (v1620 : List WaterNode) (v1621 : List WaterConduit) (v1622 : List Int) (s : Int × Int) (o : (Int) ⊕ (Int)) (h : L97l0_0 v1620 v1621 v1622 s = some o) : Ev fun n => loopAt [1, 4, 7, 8] [2, 3, 7] a97l0b (ex tab n) 2 (h97l0_0 z0 z1 v1620 v1621 v1622 s) = some (q97l0_0 z0 z1 v1620 v1621 v1622 o) := by
  refine iter_sound (S97l0_0 v1620 v1621 v1622) [1, 4, 7, 8] [2, 3, 7] a97l0b 2 (h97l0_0 z0 z1 v1620 v1621 v1622) (q97l0_0 z0 z1 v1620 v1621 v1622) ?_ _ _ _ h
  rintro ⟨v1618, v1619⟩ z h
  simp only [S97l0_0] at h
  by_cases c1623 : (v1621.length : Int) ≤ v1619
  · rw [if_pos c1623] at h
    have c1623d := dt c1623
    cases h
    refine ⟨0, fun n hn => ?_⟩
    simp (maxSteps := 2000000) only [W, reduceIte, Nat.reduceEqDiff, Nat.reduceAdd, Nat.reduceSub, Nat.reduceLT, Nat.reduceLeDiff, Nat.reduceMul, h97l0_0, q97l0_0, a97l0b, rc_WaterConduit, c1623d]
  · rw [if_neg c1623] at h
    have c1623d := df c1623
    obtain ⟨j1624, x1625, g1626, h⟩ := un2 h
    obtain ⟨g16261, g16262⟩ := geti_in g1626
    have g16263 := ac_WaterConduit g16262
    try simp only [wn] at g16261
    by_cases c1627 : x1625.fOpen = true
    · rw [if_pos c1627] at h
      have c1627d := c1627
      obtain ⟨r1643, g1641, h⟩ := un1 h
      obtain ⟨N1642, kN1642⟩ := c68_0 true v1619 v1622 _ g1641
      by_cases c1644 : r1643 = true
      · rw [if_pos c1644] at h
        have c1644d := c1644
        cases h
        refine ⟨N1642, fun n hn => ?_⟩
        have kN1642 := kN1642 n (by omega)
        try simp (maxSteps := 2000000) only [wn, rc_WaterConduit, c1627d] at kN1642
        simp (maxSteps := 2000000) only [W, reduceIte, Nat.reduceEqDiff, Nat.reduceAdd, Nat.reduceSub, Nat.reduceLT, Nat.reduceLeDiff, Nat.reduceMul, h97l0_0, q97l0_0, a97l0b, rc_WaterConduit, c1623d, g16261, g16263, c1627d, kN1642, c1644d]
      · rw [if_neg c1644] at h
        have c1644d := bf c1644
        by_cases c1645 : 0 ≤ v1618
        · rw [if_pos c1645] at h
          have c1645d := dt c1645
          cases h
          refine ⟨N1642, fun n hn => ?_⟩
          have kN1642 := kN1642 n (by omega)
          try simp (maxSteps := 2000000) only [wn, rc_WaterConduit, c1627d] at kN1642
          simp (maxSteps := 2000000) only [W, reduceIte, Nat.reduceEqDiff, Nat.reduceAdd, Nat.reduceSub, Nat.reduceLT, Nat.reduceLeDiff, Nat.reduceMul, h97l0_0, q97l0_0, a97l0b, rc_WaterConduit, c1623d, g16261, g16263, c1627d, kN1642, c1644d, c1645d]
        · rw [if_neg c1645] at h
          have c1645d := df c1645
          cases h
          refine ⟨N1642, fun n hn => ?_⟩
          have kN1642 := kN1642 n (by omega)
          try simp (maxSteps := 2000000) only [wn, rc_WaterConduit, c1627d] at kN1642
          simp (maxSteps := 2000000) only [W, reduceIte, Nat.reduceEqDiff, Nat.reduceAdd, Nat.reduceSub, Nat.reduceLT, Nat.reduceLeDiff, Nat.reduceMul, h97l0_0, q97l0_0, a97l0b, rc_WaterConduit, c1623d, g16261, g16263, c1627d, kN1642, c1644d, c1645d]
    · rw [if_neg c1627] at h
      have c1627d := bf c1627
      cases h
      refine ⟨0, fun n hn => ?_⟩
      simp (maxSteps := 2000000) only [W, reduceIte, Nat.reduceEqDiff, Nat.reduceAdd, Nat.reduceSub, Nat.reduceLT, Nat.reduceLeDiff, Nat.reduceMul, h97l0_0, q97l0_0, a97l0b, rc_WaterConduit, c1623d, g16261, g16263, c1627d]
theorem c97_0 (z0 : Bool) (z1 : Bool) (v1529 : List WaterNode) (v1530 : List WaterConduit) (r1652 : Int) (r1653 : Int) (h : F97_0 v1529 v1530 = some (r1652, r1653)) : Ev fun n => (ex tab n).call 97 [.agg [.slice 0 0 v1529.length v1529.length 4 false, .slice 1 0 v1530.length v1530.length 6 false]] [.row z0 true (rowC v1529), .row z1 true (rowC v1530)] = some (.tup [.int .i64 r1652, .int .i64 r1653], [.row z0 true (rowC v1529), .row z1 true (rowC v1530)]) := by
  unfold F97_0 at h
  obtain ⟨r1614, r1615, r1616, g1612, h⟩ := un3 h
  obtain ⟨N1613, kN1613⟩ := c137_0 z0 z1 v1529 v1530 _ _ _ g1612
  by_cases c1617 : r1614 = true
  · rw [if_pos c1617] at h
    have c1617d := c1617
    obtain ⟨g1648_, g1648, h⟩ := un1 h
    rcases g1648_ with r1650 | r1651
    · dsimp only at h
      have kN1649 := k97l0_0 z0 z1 v1529 v1530 r1615 ((-1), 0) _ g1648
      obtain ⟨N1649, kN1649⟩ := kN1649
      cases h
      refine ev_call (fn := a97) rfl ⟨N1613 + N1649, fun n hn => ?_⟩
      have kN1613 := kN1613 n (by omega)
      try simp (maxSteps := 2000000) only [wn] at kN1613
      have kN1649 := kN1649 n (by omega)
      simp (maxSteps := 2000000) only [h97l0_0, q97l0_0, wn, rc_WaterConduit] at kN1649
      simp (maxSteps := 2000000) only [W, reduceIte, Nat.reduceEqDiff, Nat.reduceAdd, Nat.reduceSub, Nat.reduceLT, Nat.reduceLeDiff, Nat.reduceMul, a97, a97l0, rc_WaterConduit, kN1613, c1617d, kN1649, @x_loopAt]
    · dsimp only at h
      have kN1649 := k97l0_0 z0 z1 v1529 v1530 r1615 ((-1), 0) _ g1648
      obtain ⟨N1649, kN1649⟩ := kN1649
      cases h
      refine ev_call (fn := a97) rfl ⟨N1613 + N1649, fun n hn => ?_⟩
      have kN1613 := kN1613 n (by omega)
      try simp (maxSteps := 2000000) only [wn] at kN1613
      have kN1649 := kN1649 n (by omega)
      simp (maxSteps := 2000000) only [h97l0_0, q97l0_0, wn, rc_WaterConduit] at kN1649
      simp (maxSteps := 2000000) only [W, reduceIte, Nat.reduceEqDiff, Nat.reduceAdd, Nat.reduceSub, Nat.reduceLT, Nat.reduceLeDiff, Nat.reduceMul, a97, a97l0, rc_WaterConduit, kN1613, c1617d, kN1649, @x_loopAt]
  · rw [if_neg c1617] at h
    have c1617d := bf c1617
    cases h
    refine ev_call (fn := a97) rfl ⟨N1613, fun n hn => ?_⟩
    have kN1613 := kN1613 n (by omega)
    try simp (maxSteps := 2000000) only [wn] at kN1613
    simp (maxSteps := 2000000) only [W, reduceIte, Nat.reduceEqDiff, Nat.reduceAdd, Nat.reduceSub, Nat.reduceLT, Nat.reduceLeDiff, Nat.reduceMul, a97, a97l0, rc_WaterConduit, kN1613, c1617d, @x_loopAt]
theorem c38_0 (z0 : Bool) (z1 : Bool) (v1523 : List WaterNode) (v1524 : List WaterConduit) (r1658 : Int) (h : F38_0 v1523 v1524 = some r1658) : Ev fun n => (ex tab n).call 38 [.agg [.slice 0 0 v1523.length v1523.length 4 false, .slice 1 0 v1524.length v1524.length 6 false]] [.row z0 true (rowC v1523), .row z1 true (rowC v1524)] = some (.int .i64 r1658, [.row z0 true (rowC v1523), .row z1 true (rowC v1524)]) := by
  unfold F38_0 at h
  obtain ⟨r1527, g1525, h⟩ := un1 h
  obtain ⟨N1526, kN1526⟩ := c32_0 z0 z1 v1523 v1524 _ g1525
  by_cases c1528 : r1527 = 0
  · rw [if_pos c1528] at h
    have c1528d := dt c1528
    obtain ⟨r1656, r1657, g1654, h⟩ := un2 h
    obtain ⟨N1655, kN1655⟩ := c97_0 z0 z1 v1523 v1524 _ _ g1654
    cases h
    refine ev_call (fn := a38) rfl ⟨N1526 + N1655, fun n hn => ?_⟩
    have kN1526 := kN1526 n (by omega)
    try simp (maxSteps := 2000000) only [wn] at kN1526
    have kN1655 := kN1655 n (by omega)
    try simp (maxSteps := 2000000) only [wn] at kN1655
    simp (maxSteps := 2000000) only [W, reduceIte, Nat.reduceEqDiff, Nat.reduceAdd, Nat.reduceSub, Nat.reduceLT, Nat.reduceLeDiff, Nat.reduceMul, a38, kN1526, c1528d, kN1655]
  · rw [if_neg c1528] at h
    have c1528d := df c1528
    cases h
    refine ev_call (fn := a38) rfl ⟨N1526, fun n hn => ?_⟩
    have kN1526 := kN1526 n (by omega)
    try simp (maxSteps := 2000000) only [wn] at kN1526
    simp (maxSteps := 2000000) only [W, reduceIte, Nat.reduceEqDiff, Nat.reduceAdd, Nat.reduceSub, Nat.reduceLT, Nat.reduceLeDiff, Nat.reduceMul, a38, kN1526, c1528d]
noncomputable def h151l0_0 (z0 : Bool) (z1 : Bool) (v1717 : Int) (v1719 : List WaterNode) (v1720 : List WaterConduit) (v1722 : List WaterNode) (v1723 : List WaterConduit) (v1724 : List Branch) (v1726 : List Branch) (v1728 : List Int) : (Int × (List Bool)) → Env × Heap
  | (v1718, v1727) => ([(1, .ptr 2 0), (2, .ptr 3 0), (4, .ptr 7 0), (5, .ptr 9 0), (19, .slice 11 0 v1728.length v1728.length 1 false), (20, .int .i64 v1717), (21, .int .i64 v1718)], [.row z0 true (rowC v1719), .row z1 true (rowC v1720), .row true false [.slice 0 0 v1719.length v1719.length 4 false, .slice 1 0 v1720.length v1720.length 6 false], .row true false [.slice 4 0 v1722.length v1722.length 4 false, .slice 5 0 v1723.length v1723.length 6 false, .slice 6 0 v1724.length v1724.length 2 false, .int .i64 0], .row true true (rowC v1722), .row true true (rowC v1723), .row true true (rowC v1724), .row true false [.slice 0 0 v1719.length v1719.length 4 false, .slice 1 0 v1720.length v1720.length 6 false, .slice 8 0 v1726.length v1726.length 2 false, .int .i64 (-1)], .row true true (rowC v1726), .row true false [.slice 10 0 v1727.length v1727.length 1 true], .row true true (rowC v1727), .row true true (rowC v1728)])
noncomputable def q151l0_0 (z0 : Bool) (z1 : Bool) (v1717 : Int) (v1719 : List WaterNode) (v1720 : List WaterConduit) (v1722 : List WaterNode) (v1723 : List WaterConduit) (v1724 : List Branch) (v1726 : List Branch) (v1728 : List Int) : ((List Bool)) → AExit × Env × Heap
  | r1736 => (.exit 0, [(1, .ptr 2 0), (2, .ptr 3 0), (3, .undef), (4, .ptr 7 0), (5, .ptr 9 0)], [.row z0 true (rowC v1719), .row z1 true (rowC v1720), .row true false [.slice 0 0 v1719.length v1719.length 4 false, .slice 1 0 v1720.length v1720.length 6 false], .row true false [.slice 4 0 v1722.length v1722.length 4 false, .slice 5 0 v1723.length v1723.length 6 false, .slice 6 0 v1724.length v1724.length 2 false, .int .i64 0], .row true true (rowC v1722), .row true true (rowC v1723), .row true true (rowC v1724), .row true false [.slice 0 0 v1719.length v1719.length 4 false, .slice 1 0 v1720.length v1720.length 6 false, .slice 8 0 v1726.length v1726.length 2 false, .int .i64 (-1)], .row true true (rowC v1726), .row true false [.slice 10 0 r1736.length r1736.length 1 true], .row true true (rowC r1736)])
theorem k151l0_0 (z0 : Bool) (z1 : Bool) (v1717 : Int) (v1719 : List WaterNode) (v1720 : List WaterConduit) (v1722 : List WaterNode) (v1723 : List WaterConduit) (v1724 : List Branch) (v1726 : List Branch) (v1728 : List Int) (s : Int × (List Bool)) (o : (List Bool)) (h : L151l0_0 v1717 v1719 v1720 v1722 v1723 v1724 v1726 v1728 s = some o) : Ev fun n => loopAt [1, 2, 4, 5, 19, 20, 21] [1, 2, 3, 4, 5] a151l0b (ex tab n) 2 (h151l0_0 z0 z1 v1717 v1719 v1720 v1722 v1723 v1724 v1726 v1728 s) = some (q151l0_0 z0 z1 v1717 v1719 v1720 v1722 v1723 v1724 v1726 v1728 o) := by
  refine iter_sound (S151l0_0 v1717 v1719 v1720 v1722 v1723 v1724 v1726 v1728) [1, 2, 4, 5, 19, 20, 21] [1, 2, 3, 4, 5] a151l0b 2 (h151l0_0 z0 z1 v1717 v1719 v1720 v1722 v1723 v1724 v1726 v1728) (q151l0_0 z0 z1 v1717 v1719 v1720 v1722 v1723 v1724 v1726 v1728) ?_ _ _ _ h
  rintro ⟨v1718, v1727⟩ z h
  simp only [S151l0_0] at h
  by_cases c1729 : v1717 ≤ v1718
  · rw [if_pos c1729] at h
    have c1729d := dt c1729
    cases h
    refine ⟨0, fun n hn => ?_⟩
    simp (maxSteps := 2000000) only [W, reduceIte, Nat.reduceEqDiff, Nat.reduceAdd, Nat.reduceSub, Nat.reduceLT, Nat.reduceLeDiff, Nat.reduceMul, h151l0_0, q151l0_0, a151l0b, c1729d]
  · rw [if_neg c1729] at h
    have c1729d := df c1729
    obtain ⟨j1730, x1731, g1732, h⟩ := un2 h
    obtain ⟨g17321, g17322⟩ := geti_in g1732
    have g17323 := ac_Int g17322
    try simp only [wn] at g17321
    obtain ⟨j1733, x1734, g1735, h⟩ := un2 h
    obtain ⟨g17351, g17352⟩ := geti_in g1735
    have g17353 := ac_Bool g17352
    try simp only [wn] at g17351
    cases h
    refine ⟨0, fun n hn => ?_⟩
    simp (maxSteps := 2000000) only [W, reduceIte, Nat.reduceEqDiff, Nat.reduceAdd, Nat.reduceSub, Nat.reduceLT, Nat.reduceLeDiff, Nat.reduceMul, h151l0_0, q151l0_0, a151l0b, c1729d, g17321, g17323, g17351, g17353]
end Go.AI
end
section
/-
  Functions, walked through: water.net).grow$1, api.WaterConduit], slices.Index[[]bool,bool], slices.Contains[[]bool,bool], water.net).grow, water.net).closed$1, water.branch], water.branch].
-/
set_option linter.unusedVariables false
set_option linter.unusedSimpArgs false
set_option maxRecDepth 100000
set_option maxHeartbeats 4000000
namespace Go.AI
theorem c159_0 (z0 : Bool) (z1 : Bool) (v1759 : ByteArray) (v1760 : Int) (v1761 : Int) (v1762 : Int) (v1763 : Bool) (v1764 : Bool) (v1765 : List Bool) (r1773 : Bool) (h : F159_0 v1759 v1760 v1761 v1762 v1763 v1764 v1765 = some r1773) : Ev fun n => (ex tab n).call 159 [.agg [.str v1759, .int .i64 v1760, .int .i64 v1761, .int .i64 v1762, .bool v1763, .bool v1764], .ptr 0 0] [.row z0 false [.slice 1 0 v1765.length v1765.length 1 true], .row z1 true (rowC v1765)] = some (.bool r1773, [.row z0 false [.slice 1 0 v1765.length v1765.length 1 true], .row z1 true (rowC v1765)]) := by
  unfold F159_0 at h
  by_cases c1766 : v1764 = true
  · rw [if_pos c1766] at h
    have c1766d := c1766
    obtain ⟨j1767, x1768, g1769, h⟩ := un2 h
    obtain ⟨g17691, g17692⟩ := geti_in g1769
    have g17693 := ac_Bool g17692
    try simp only [wn] at g17691
    obtain ⟨j1770, x1771, g1772, h⟩ := un2 h
    obtain ⟨g17721, g17722⟩ := geti_in g1772
    have g17723 := ac_Bool g17722
    try simp only [wn] at g17721
    cases h
    refine ev_call (fn := a159) rfl ⟨0, fun n hn => ?_⟩
    simp (maxSteps := 2000000) only [W, reduceIte, Nat.reduceEqDiff, Nat.reduceAdd, Nat.reduceSub, Nat.reduceLT, Nat.reduceLeDiff, Nat.reduceMul, a159, c1766d, g17691, g17693, g17721, g17723, wd]
  · rw [if_neg c1766] at h
    have c1766d := bf c1766
    cases h
    refine ev_call (fn := a159) rfl ⟨0, fun n hn => ?_⟩
    simp (maxSteps := 2000000) only [W, reduceIte, Nat.reduceEqDiff, Nat.reduceAdd, Nat.reduceSub, Nat.reduceLT, Nat.reduceLeDiff, Nat.reduceMul, a159, c1766d, wd]
noncomputable def h158l0_0 (z0 : Bool) (z1 : Bool) (z2 : Bool) (v1751 : Int) (v1753 : List WaterConduit) (v1754 : List Bool) : (Int) → Env × Heap
  | v1752 => ([(0, .slice 0 0 v1753.length v1753.length 6 false), (1, .func 159 [] [.ptr 1 0]), (7, .int .i64 v1751), (8, .int .i64 v1752)], [.row z0 true (rowC v1753), .row z1 false [.slice 2 0 v1754.length v1754.length 1 true], .row z2 true (rowC v1754)])
noncomputable def q158l0_0 (z0 : Bool) (z1 : Bool) (z2 : Bool) (v1751 : Int) (v1753 : List WaterConduit) (v1754 : List Bool) : ((Unit) ⊕ (Int)) → AExit × Env × Heap
  | .inl (_) => (.exit 0, [(4, .undef)], [.row z0 true (rowC v1753), .row z1 false [.slice 2 0 v1754.length v1754.length 1 true], .row z2 true (rowC v1754)])
  | .inr (r1778) => (.ret, [(4, .int .i64 r1778)], [.row z0 true (rowC v1753), .row z1 false [.slice 2 0 v1754.length v1754.length 1 true], .row z2 true (rowC v1754)])
theorem k158l0_0 (z0 : Bool) (z1 : Bool) (z2 : Bool) (v1751 : Int) (v1753 : List WaterConduit) (v1754 : List Bool) (s : Int) (o : (Unit) ⊕ (Int)) (h : L158l0_0 v1751 v1753 v1754 s = some o) : Ev fun n => loopAt [0, 1, 7, 8] [4] a158l0b (ex tab n) 3 (h158l0_0 z0 z1 z2 v1751 v1753 v1754 s) = some (q158l0_0 z0 z1 z2 v1751 v1753 v1754 o) := by
  refine iter_sound (S158l0_0 v1751 v1753 v1754) [0, 1, 7, 8] [4] a158l0b 3 (h158l0_0 z0 z1 z2 v1751 v1753 v1754) (q158l0_0 z0 z1 z2 v1751 v1753 v1754) ?_ _ _ _ h
  rintro v1752 z h
  simp only [S158l0_0] at h
  by_cases c1755 : v1751 ≤ v1752
  · rw [if_pos c1755] at h
    have c1755d := dt c1755
    cases h
    refine ⟨0, fun n hn => ?_⟩
    simp (maxSteps := 2000000) only [W, reduceIte, Nat.reduceEqDiff, Nat.reduceAdd, Nat.reduceSub, Nat.reduceLT, Nat.reduceLeDiff, Nat.reduceMul, h158l0_0, q158l0_0, a158l0b, rc_WaterConduit, c1755d]
  · rw [if_neg c1755] at h
    have c1755d := df c1755
    obtain ⟨j1756, x1757, g1758, h⟩ := un2 h
    obtain ⟨g17581, g17582⟩ := geti_in g1758
    have g17583 := ac_WaterConduit g17582
    try simp only [wn] at g17581
    obtain ⟨r1776, g1774, h⟩ := un1 h
    obtain ⟨N1775, kN1775⟩ := c159_0 z1 z2 x1757.fName x1757.fFrom x1757.fTo x1757.fResist x1757.fValve x1757.fOpen v1754 _ g1774
    by_cases c1777 : r1776 = true
    · rw [if_pos c1777] at h
      have c1777d := c1777
      cases h
      refine ⟨N1775, fun n hn => ?_⟩
      have kN1775 := kN1775 n (by omega)
      try simp (maxSteps := 2000000) only [wn, rc_WaterConduit] at kN1775
      simp (maxSteps := 2000000) only [W, reduceIte, Nat.reduceEqDiff, Nat.reduceAdd, Nat.reduceSub, Nat.reduceLT, Nat.reduceLeDiff, Nat.reduceMul, h158l0_0, q158l0_0, a158l0b, rc_WaterConduit, c1755d, g17581, g17583, kN1775, c1777d]
    · rw [if_neg c1777] at h
      have c1777d := bf c1777
      cases h
      refine ⟨N1775, fun n hn => ?_⟩
      have kN1775 := kN1775 n (by omega)
      try simp (maxSteps := 2000000) only [wn, rc_WaterConduit] at kN1775
      simp (maxSteps := 2000000) only [W, reduceIte, Nat.reduceEqDiff, Nat.reduceAdd, Nat.reduceSub, Nat.reduceLT, Nat.reduceLeDiff, Nat.reduceMul, h158l0_0, q158l0_0, a158l0b, rc_WaterConduit, c1755d, g17581, g17583, kN1775, c1777d]
theorem c158_0 (z0 : Bool) (z1 : Bool) (z2 : Bool) (v1749 : List WaterConduit) (v1750 : List Bool) (r1782 : Int) (h : F158_0 v1749 v1750 = some r1782) : Ev fun n => (ex tab n).call 158 [.slice 0 0 v1749.length v1749.length 6 false, .func 159 [] [.ptr 1 0]] [.row z0 true (rowC v1749), .row z1 false [.slice 2 0 v1750.length v1750.length 1 true], .row z2 true (rowC v1750)] = some (.int .i64 r1782, [.row z0 true (rowC v1749), .row z1 false [.slice 2 0 v1750.length v1750.length 1 true], .row z2 true (rowC v1750)]) := by
  unfold F158_0 at h
  obtain ⟨g1779_, g1779, h⟩ := un1 h
  rcases g1779_ with _ | r1781
  · dsimp only at h
    have kN1780 := k158l0_0 z0 z1 z2 (v1749.length : Int) v1749 v1750 0 _ g1779
    obtain ⟨N1780, kN1780⟩ := kN1780
    cases h
    refine ev_call (fn := a158) rfl ⟨N1780, fun n hn => ?_⟩
    have kN1780 := kN1780 n (by omega)
    simp (maxSteps := 2000000) only [h158l0_0, q158l0_0, wn, rc_WaterConduit] at kN1780
    simp (maxSteps := 2000000) only [W, reduceIte, Nat.reduceEqDiff, Nat.reduceAdd, Nat.reduceSub, Nat.reduceLT, Nat.reduceLeDiff, Nat.reduceMul, a158, a158l0, rc_WaterConduit, kN1780, @x_loopAt]
  · dsimp only at h
    have kN1780 := k158l0_0 z0 z1 z2 (v1749.length : Int) v1749 v1750 0 _ g1779
    obtain ⟨N1780, kN1780⟩ := kN1780
    cases h
    refine ev_call (fn := a158) rfl ⟨N1780, fun n hn => ?_⟩
    have kN1780 := kN1780 n (by omega)
    simp (maxSteps := 2000000) only [h158l0_0, q158l0_0, wn, rc_WaterConduit] at kN1780
    simp (maxSteps := 2000000) only [W, reduceIte, Nat.reduceEqDiff, Nat.reduceAdd, Nat.reduceSub, Nat.reduceLT, Nat.reduceLeDiff, Nat.reduceMul, a158, a158l0, rc_WaterConduit, kN1780, @x_loopAt]
noncomputable def h162l0_0 (z0 : Bool) (v1803 : Bool) (v1804 : Int) (v1806 : List Bool) : (Int) → Env × Heap
  | v1805 => ([(0, .slice 0 0 v1806.length v1806.length 1 false), (1, .bool v1803), (7, .int .i64 v1804), (8, .int .i64 v1805)], [.row z0 true (rowC v1806)])
noncomputable def q162l0_0 (z0 : Bool) (v1803 : Bool) (v1804 : Int) (v1806 : List Bool) : ((Unit) ⊕ (Int)) → AExit × Env × Heap
  | .inl (_) => (.exit 0, [(4, .undef)], [.row z0 true (rowC v1806)])
  | .inr (r1812) => (.ret, [(4, .int .i64 r1812)], [.row z0 true (rowC v1806)])
theorem k162l0_0 (z0 : Bool) (v1803 : Bool) (v1804 : Int) (v1806 : List Bool) (s : Int) (o : (Unit) ⊕ (Int)) (h : L162l0_0 v1803 v1804 v1806 s = some o) : Ev fun n => loopAt [0, 1, 7, 8] [4] a162l0b (ex tab n) 1 (h162l0_0 z0 v1803 v1804 v1806 s) = some (q162l0_0 z0 v1803 v1804 v1806 o) := by
  refine iter_sound (S162l0_0 v1803 v1804 v1806) [0, 1, 7, 8] [4] a162l0b 1 (h162l0_0 z0 v1803 v1804 v1806) (q162l0_0 z0 v1803 v1804 v1806) ?_ _ _ _ h
  rintro v1805 z h
  simp only [S162l0_0] at h
  by_cases c1807 : v1804 ≤ v1805
  · rw [if_pos c1807] at h
    have c1807d := dt c1807
    cases h
    refine ⟨0, fun n hn => ?_⟩
    simp (maxSteps := 2000000) only [W, reduceIte, Nat.reduceEqDiff, Nat.reduceAdd, Nat.reduceSub, Nat.reduceLT, Nat.reduceLeDiff, Nat.reduceMul, h162l0_0, q162l0_0, a162l0b, c1807d]
  · rw [if_neg c1807] at h
    have c1807d := df c1807
    obtain ⟨j1808, x1809, g1810, h⟩ := un2 h
    obtain ⟨g18101, g18102⟩ := geti_in g1810
    have g18103 := ac_Bool g18102
    try simp only [wn] at g18101
    by_cases c1811 : (v1803 == x1809) = true
    · rw [if_pos c1811] at h
      have c1811d := c1811
      cases h
      refine ⟨0, fun n hn => ?_⟩
      simp (maxSteps := 2000000) only [W, reduceIte, Nat.reduceEqDiff, Nat.reduceAdd, Nat.reduceSub, Nat.reduceLT, Nat.reduceLeDiff, Nat.reduceMul, h162l0_0, q162l0_0, a162l0b, c1807d, g18101, g18103, c1811d]
    · rw [if_neg c1811] at h
      have c1811d := bf c1811
      cases h
      refine ⟨0, fun n hn => ?_⟩
      simp (maxSteps := 2000000) only [W, reduceIte, Nat.reduceEqDiff, Nat.reduceAdd, Nat.reduceSub, Nat.reduceLT, Nat.reduceLeDiff, Nat.reduceMul, h162l0_0, q162l0_0, a162l0b, c1807d, g18101, g18103, c1811d]
theorem c162_0 (z0 : Bool) (v1801 : Bool) (v1802 : List Bool) (r1816 : Int) (h : F162_0 v1801 v1802 = some r1816) : Ev fun n => (ex tab n).call 162 [.slice 0 0 v1802.length v1802.length 1 false, .bool v1801] [.row z0 true (rowC v1802)] = some (.int .i64 r1816, [.row z0 true (rowC v1802)]) := by
  unfold F162_0 at h
  obtain ⟨g1813_, g1813, h⟩ := un1 h
  rcases g1813_ with _ | r1815
  · dsimp only at h
    have kN1814 := k162l0_0 z0 v1801 (v1802.length : Int) v1802 0 _ g1813
    obtain ⟨N1814, kN1814⟩ := kN1814
    cases h
    refine ev_call (fn := a162) rfl ⟨N1814, fun n hn => ?_⟩
    have kN1814 := kN1814 n (by omega)
    simp (maxSteps := 2000000) only [h162l0_0, q162l0_0, wn] at kN1814
    simp (maxSteps := 2000000) only [W, reduceIte, Nat.reduceEqDiff, Nat.reduceAdd, Nat.reduceSub, Nat.reduceLT, Nat.reduceLeDiff, Nat.reduceMul, a162, a162l0, kN1814, @x_loopAt]
  · dsimp only at h
    have kN1814 := k162l0_0 z0 v1801 (v1802.length : Int) v1802 0 _ g1813
    obtain ⟨N1814, kN1814⟩ := kN1814
    cases h
    refine ev_call (fn := a162) rfl ⟨N1814, fun n hn => ?_⟩
    have kN1814 := kN1814 n (by omega)
    simp (maxSteps := 2000000) only [h162l0_0, q162l0_0, wn] at kN1814
    simp (maxSteps := 2000000) only [W, reduceIte, Nat.reduceEqDiff, Nat.reduceAdd, Nat.reduceSub, Nat.reduceLT, Nat.reduceLeDiff, Nat.reduceMul, a162, a162l0, kN1814, @x_loopAt]
theorem c160_0 (z0 : Bool) (v1799 : Bool) (v1800 : List Bool) (r1820 : Bool) (h : F160_0 v1799 v1800 = some r1820) : Ev fun n => (ex tab n).call 160 [.slice 0 0 v1800.length v1800.length 1 false, .bool v1799] [.row z0 true (rowC v1800)] = some (.bool r1820, [.row z0 true (rowC v1800)]) := by
  unfold F160_0 at h
  obtain ⟨r1819, g1817, h⟩ := un1 h
  obtain ⟨N1818, kN1818⟩ := c162_0 z0 v1799 v1800 _ g1817
  cases h
  refine ev_call (fn := a160) rfl ⟨N1818, fun n hn => ?_⟩
  have kN1818 := kN1818 n (by omega)
  try simp (maxSteps := 2000000) only [wn] at kN1818
  simp (maxSteps := 2000000) only [W, reduceIte, Nat.reduceEqDiff, Nat.reduceAdd, Nat.reduceSub, Nat.reduceLT, Nat.reduceLeDiff, Nat.reduceMul, a160, kN1818]
noncomputable def h151l1_0 (z0 : Bool) (z1 : Bool) (v1827 : List WaterNode) (v1828 : List WaterConduit) (v1830 : List WaterNode) (v1831 : List WaterConduit) (v1832 : List Branch) : ((List Branch) × (List Bool)) → Env × Heap
  | (v1834, v1835) => ([(1, .ptr 2 0), (2, .ptr 3 0), (4, .ptr 7 0), (5, .ptr 9 0)], [.row z0 true (rowC v1827), .row z1 true (rowC v1828), .row true false [.slice 0 0 v1827.length v1827.length 4 false, .slice 1 0 v1828.length v1828.length 6 false], .row true false [.slice 4 0 v1830.length v1830.length 4 false, .slice 5 0 v1831.length v1831.length 6 false, .slice 6 0 v1832.length v1832.length 2 false, .int .i64 0], .row true true (rowC v1830), .row true true (rowC v1831), .row true true (rowC v1832), .row true false [.slice 0 0 v1827.length v1827.length 4 false, .slice 1 0 v1828.length v1828.length 6 false, .slice 8 0 v1834.length v1834.length 2 false, .int .i64 (-1)], .row true true (rowC v1834), .row true false [.slice 10 0 v1835.length v1835.length 1 true], .row true true (rowC v1835)])
noncomputable def q151l1_0 (z0 : Bool) (z1 : Bool) (v1827 : List WaterNode) (v1828 : List WaterConduit) (v1830 : List WaterNode) (v1831 : List WaterConduit) (v1832 : List Branch) : (Int × (List Branch)) → AExit × Env × Heap
  | (r1858, r1859) => (.ret, [(2, .ptr 2 0), (3, .int .i64 r1858)], [.row z0 true (rowC v1827), .row z1 true (rowC v1828), .row true false [.slice 0 0 v1827.length v1827.length 4 false, .slice 1 0 v1828.length v1828.length 6 false, .slice 3 0 r1859.length r1859.length 2 false, .int .i64 (-1)], .row true true (rowC r1859)])
theorem k151l1_0 (z0 : Bool) (z1 : Bool) (v1827 : List WaterNode) (v1828 : List WaterConduit) (v1830 : List WaterNode) (v1831 : List WaterConduit) (v1832 : List Branch) (s : (List Branch) × (List Bool)) (o : Int × (List Branch)) (h : L151l1_0 v1827 v1828 v1830 v1831 v1832 s = some o) : Ev fun n => loopAt [1, 2, 4, 5] [2, 3] a151l1b (ex tab n) 2 (h151l1_0 z0 z1 v1827 v1828 v1830 v1831 v1832 s) = some (q151l1_0 z0 z1 v1827 v1828 v1830 v1831 v1832 o) := by
  refine iter_sound (S151l1_0 v1827 v1828 v1830 v1831 v1832) [1, 2, 4, 5] [2, 3] a151l1b 2 (h151l1_0 z0 z1 v1827 v1828 v1830 v1831 v1832) (q151l1_0 z0 z1 v1827 v1828 v1830 v1831 v1832) ?_ _ _ _ h
  rintro ⟨v1834, v1835⟩ z h
  simp only [S151l1_0] at h
  obtain ⟨r1838, g1836, h⟩ := un1 h
  obtain ⟨N1837, kN1837⟩ := c158_0 z1 true true v1828 v1835 _ g1836
  by_cases c1839 : 0 ≤ r1838
  · rw [if_pos c1839] at h
    have c1839d := dt c1839
    obtain ⟨j1840, x1841, g1842, h⟩ := un2 h
    obtain ⟨g18421, g18422⟩ := geti_in g1842
    have g18423 := ac_WaterConduit g18422
    try simp only [wn] at g18421
    obtain ⟨j1843, x1844, g1845, h⟩ := un2 h
    obtain ⟨g18451, g18452⟩ := geti_in g1845
    have g18453 := ac_Bool g18452
    try simp only [wn] at g18451
    by_cases c1846 : x1844 = true
    · rw [if_pos c1846] at h
      have c1846d := c1846
      obtain ⟨j1847, x1848, g1849, h⟩ := un2 h
      obtain ⟨g18491, g18492⟩ := geti_in g1849
      have g18493 := ac_Bool g18492
      try simp only [wn] at g18491
      obtain ⟨g1850, h⟩ := un_roomd h
      cases h
      refine ⟨N1837, fun n hn => ?_⟩
      have kN1837 := kN1837 n (by omega)
      try simp (maxSteps := 2000000) only [wn] at kN1837
      simp (maxSteps := 2000000) only [W, reduceIte, Nat.reduceEqDiff, Nat.reduceAdd, Nat.reduceSub, Nat.reduceLT, Nat.reduceLeDiff, Nat.reduceMul, h151l1_0, q151l1_0, a151l1b, rc_Branch, rc_WaterConduit, kN1837, c1839d, g18421, g18423, g18451, g18453, c1846d, g18491, g18493, g1850, wd]
    · rw [if_neg c1846] at h
      have c1846d := bf c1846
      obtain ⟨g1851, h⟩ := un_roomd h
      cases h
      refine ⟨N1837, fun n hn => ?_⟩
      have kN1837 := kN1837 n (by omega)
      try simp (maxSteps := 2000000) only [wn] at kN1837
      simp (maxSteps := 2000000) only [W, reduceIte, Nat.reduceEqDiff, Nat.reduceAdd, Nat.reduceSub, Nat.reduceLT, Nat.reduceLeDiff, Nat.reduceMul, h151l1_0, q151l1_0, a151l1b, rc_Branch, rc_WaterConduit, kN1837, c1839d, g18421, g18423, g18451, g18453, c1846d, g1851, wd]
  · rw [if_neg c1839] at h
    have c1839d := df c1839
    obtain ⟨r1854, g1852, h⟩ := un1 h
    obtain ⟨N1853, kN1853⟩ := c160_0 false false v1835 _ g1852
    obtain ⟨r1857, g1855, h⟩ := un1 h
    obtain ⟨N1856, kN1856⟩ := c72_0 (!r1854) 14 _ g1855
    cases h
    refine ⟨N1837 + N1853 + N1856, fun n hn => ?_⟩
    have kN1837 := kN1837 n (by omega)
    try simp (maxSteps := 2000000) only [wn] at kN1837
    have kN1853 := kN1853 n (by omega)
    try simp (maxSteps := 2000000) only [wn, rc_Branch, rc_WaterConduit] at kN1853
    have kN1856 := kN1856 n (by omega)
    try simp (maxSteps := 2000000) only [wn, rc_Branch, rc_WaterConduit] at kN1856
    simp (maxSteps := 2000000) only [W, reduceIte, Nat.reduceEqDiff, Nat.reduceAdd, Nat.reduceSub, Nat.reduceLT, Nat.reduceLeDiff, Nat.reduceMul, h151l1_0, q151l1_0, a151l1b, rc_Branch, rc_WaterConduit, kN1837, c1839d, kN1853, kN1856, wd]
theorem c151_0 (z0 : Bool) (z1 : Bool) (v1690 : List WaterNode) (v1691 : List WaterConduit) (r1864 : Int) (r1865 : List Branch) (h : F151_0 v1690 v1691 = some (r1864, r1865)) : Ev fun n => (ex tab n).call 151 [.agg [.slice 0 0 v1690.length v1690.length 4 false, .slice 1 0 v1691.length v1691.length 6 false]] [.row z0 true (rowC v1690), .row z1 true (rowC v1691)] = some (.tup [.agg [.slice 0 0 v1690.length v1690.length 4 false, .slice 1 0 v1691.length v1691.length 6 false, .slice 2 0 r1865.length r1865.length 2 false, .int .i64 (-1)], .int .i64 r1864], [.row z0 true (rowC v1690), .row z1 true (rowC v1691), .row true true (rowC r1865)]) := by
  unfold F151_0 at h
  obtain ⟨n1692, g1693, h⟩ := un1 h
  try simp only [wn] at g1693
  obtain ⟨g1694, h⟩ := un_roomd h
  try simp only [Nat.reduceLeDiff] at g1694
  obtain ⟨r1697, g1695, h⟩ := un1 h
  obtain ⟨N1696, kN1696⟩ := c135_0 z0 z1 v1690 v1691 _ g1695
  obtain ⟨r1739, g1737, h⟩ := un1 h
  have kN1738 := k151l0_0 z0 z1 (r1697.length : Int) v1690 v1691 ([] : List WaterNode) ([] : List WaterConduit) ([] : List Branch) ([] : List Branch) r1697 (0, (List.replicate n1692 false)) _ g1737
  obtain ⟨N1738, kN1738⟩ := kN1738
  obtain ⟨r1862, r1863, g1860, h⟩ := un2 h
  have kN1861 := k151l1_0 z0 z1 v1690 v1691 ([] : List WaterNode) ([] : List WaterConduit) ([] : List Branch) (([] : List Branch), r1739) _ g1860
  obtain ⟨N1861, kN1861⟩ := kN1861
  cases h
  refine ev_call (fn := a151) rfl ⟨N1696 + N1738 + N1861, fun n hn => ?_⟩
  have kN1696 := kN1696 n (by omega)
  try simp (maxSteps := 2000000) only [wn, rc_Branch, rc_WaterConduit, rc_WaterNode] at kN1696
  have kN1738 := kN1738 n (by omega)
  simp (maxSteps := 2000000) only [h151l0_0, q151l0_0, wn, rc_Branch, rc_WaterConduit, rc_WaterNode] at kN1738
  have kN1861 := kN1861 n (by omega)
  simp (maxSteps := 2000000) only [h151l1_0, q151l1_0, wn, rc_Branch, rc_WaterConduit, rc_WaterNode] at kN1861
  simp (maxSteps := 2000000) only [W, reduceIte, Nat.reduceEqDiff, Nat.reduceAdd, Nat.reduceSub, Nat.reduceLT, Nat.reduceLeDiff, Nat.reduceMul, a151, a151l0, a151l1, rc_Branch, rc_WaterConduit, rc_WaterNode, g1693, g1694, kN1696, kN1738, kN1861, @x_loopAt]
theorem c153_0 (z0 : Bool) (v1897 : Int) (v1898 : Int) (v1899 : Int) (r1900 : Bool) (h : F153_0 v1897 v1898 v1899 = some r1900) : Ev fun n => (ex tab n).call 153 [.agg [.int .i64 v1897, .int .i64 v1898], .ptr 0 0] [.row z0 true [.int .i64 v1899]] = some (.bool r1900, [.row z0 true [.int .i64 v1899]]) := by
  unfold F153_0 at h
  cases h
  refine ev_call (fn := a153) rfl ⟨0, fun n hn => ?_⟩
  simp (maxSteps := 2000000) only [W, reduceIte, Nat.reduceEqDiff, Nat.reduceAdd, Nat.reduceSub, Nat.reduceLT, Nat.reduceLeDiff, Nat.reduceMul, a153]
noncomputable def h161l0_0 (z0 : Bool) (z1 : Bool) (v1889 : Int) (v1891 : List Branch) (v1892 : Int) : (Int) → Env × Heap
  | v1890 => ([(0, .slice 0 0 v1891.length v1891.length 2 false), (1, .func 153 [] [.ptr 1 0]), (7, .int .i64 v1889), (8, .int .i64 v1890)], [.row z0 true (rowC v1891), .row z1 true [.int .i64 v1892]])
noncomputable def q161l0_0 (z0 : Bool) (z1 : Bool) (v1889 : Int) (v1891 : List Branch) (v1892 : Int) : ((Unit) ⊕ (Int)) → AExit × Env × Heap
  | .inl (_) => (.exit 0, [(4, .undef)], [.row z0 true (rowC v1891), .row z1 true [.int .i64 v1892]])
  | .inr (r1905) => (.ret, [(4, .int .i64 r1905)], [.row z0 true (rowC v1891), .row z1 true [.int .i64 v1892]])
theorem k161l0_0 (z0 : Bool) (z1 : Bool) (v1889 : Int) (v1891 : List Branch) (v1892 : Int) (s : Int) (o : (Unit) ⊕ (Int)) (h : L161l0_0 v1889 v1891 v1892 s = some o) : Ev fun n => loopAt [0, 1, 7, 8] [4] a161l0b (ex tab n) 2 (h161l0_0 z0 z1 v1889 v1891 v1892 s) = some (q161l0_0 z0 z1 v1889 v1891 v1892 o) := by
  refine iter_sound (S161l0_0 v1889 v1891 v1892) [0, 1, 7, 8] [4] a161l0b 2 (h161l0_0 z0 z1 v1889 v1891 v1892) (q161l0_0 z0 z1 v1889 v1891 v1892) ?_ _ _ _ h
  rintro v1890 z h
  simp only [S161l0_0] at h
  by_cases c1893 : v1889 ≤ v1890
  · rw [if_pos c1893] at h
    have c1893d := dt c1893
    cases h
    refine ⟨0, fun n hn => ?_⟩
    simp (maxSteps := 2000000) only [W, reduceIte, Nat.reduceEqDiff, Nat.reduceAdd, Nat.reduceSub, Nat.reduceLT, Nat.reduceLeDiff, Nat.reduceMul, h161l0_0, q161l0_0, a161l0b, rc_Branch, c1893d]
  · rw [if_neg c1893] at h
    have c1893d := df c1893
    obtain ⟨j1894, x1895, g1896, h⟩ := un2 h
    obtain ⟨g18961, g18962⟩ := geti_in g1896
    have g18963 := ac_Branch g18962
    try simp only [wn] at g18961
    obtain ⟨r1903, g1901, h⟩ := un1 h
    obtain ⟨N1902, kN1902⟩ := c153_0 z1 x1895.fconduit x1895.fnode v1892 _ g1901
    by_cases c1904 : r1903 = true
    · rw [if_pos c1904] at h
      have c1904d := c1904
      cases h
      refine ⟨N1902, fun n hn => ?_⟩
      have kN1902 := kN1902 n (by omega)
      try simp (maxSteps := 2000000) only [wn, rc_Branch] at kN1902
      simp (maxSteps := 2000000) only [W, reduceIte, Nat.reduceEqDiff, Nat.reduceAdd, Nat.reduceSub, Nat.reduceLT, Nat.reduceLeDiff, Nat.reduceMul, h161l0_0, q161l0_0, a161l0b, rc_Branch, c1893d, g18961, g18963, kN1902, c1904d]
    · rw [if_neg c1904] at h
      have c1904d := bf c1904
      cases h
      refine ⟨N1902, fun n hn => ?_⟩
      have kN1902 := kN1902 n (by omega)
      try simp (maxSteps := 2000000) only [wn, rc_Branch] at kN1902
      simp (maxSteps := 2000000) only [W, reduceIte, Nat.reduceEqDiff, Nat.reduceAdd, Nat.reduceSub, Nat.reduceLT, Nat.reduceLeDiff, Nat.reduceMul, h161l0_0, q161l0_0, a161l0b, rc_Branch, c1893d, g18961, g18963, kN1902, c1904d]
theorem c161_0 (z0 : Bool) (z1 : Bool) (v1887 : List Branch) (v1888 : Int) (r1909 : Int) (h : F161_0 v1887 v1888 = some r1909) : Ev fun n => (ex tab n).call 161 [.slice 0 0 v1887.length v1887.length 2 false, .func 153 [] [.ptr 1 0]] [.row z0 true (rowC v1887), .row z1 true [.int .i64 v1888]] = some (.int .i64 r1909, [.row z0 true (rowC v1887), .row z1 true [.int .i64 v1888]]) := by
  unfold F161_0 at h
  obtain ⟨g1906_, g1906, h⟩ := un1 h
  rcases g1906_ with _ | r1908
  · dsimp only at h
    have kN1907 := k161l0_0 z0 z1 (v1887.length : Int) v1887 v1888 0 _ g1906
    obtain ⟨N1907, kN1907⟩ := kN1907
    cases h
    refine ev_call (fn := a161) rfl ⟨N1907, fun n hn => ?_⟩
    have kN1907 := kN1907 n (by omega)
    simp (maxSteps := 2000000) only [h161l0_0, q161l0_0, wn, rc_Branch] at kN1907
    simp (maxSteps := 2000000) only [W, reduceIte, Nat.reduceEqDiff, Nat.reduceAdd, Nat.reduceSub, Nat.reduceLT, Nat.reduceLeDiff, Nat.reduceMul, a161, a161l0, rc_Branch, kN1907, @x_loopAt]
  · dsimp only at h
    have kN1907 := k161l0_0 z0 z1 (v1887.length : Int) v1887 v1888 0 _ g1906
    obtain ⟨N1907, kN1907⟩ := kN1907
    cases h
    refine ev_call (fn := a161) rfl ⟨N1907, fun n hn => ?_⟩
    have kN1907 := kN1907 n (by omega)
    simp (maxSteps := 2000000) only [h161l0_0, q161l0_0, wn, rc_Branch] at kN1907
    simp (maxSteps := 2000000) only [W, reduceIte, Nat.reduceEqDiff, Nat.reduceAdd, Nat.reduceSub, Nat.reduceLT, Nat.reduceLeDiff, Nat.reduceMul, a161, a161l0, rc_Branch, kN1907, @x_loopAt]
theorem c152_0 (z0 : Bool) (z1 : Bool) (v1885 : List Branch) (v1886 : Int) (r1913 : Bool) (h : F152_0 v1885 v1886 = some r1913) : Ev fun n => (ex tab n).call 152 [.slice 0 0 v1885.length v1885.length 2 false, .func 153 [] [.ptr 1 0]] [.row z0 true (rowC v1885), .row z1 true [.int .i64 v1886]] = some (.bool r1913, [.row z0 true (rowC v1885), .row z1 true [.int .i64 v1886]]) := by
  unfold F152_0 at h
  obtain ⟨r1912, g1910, h⟩ := un1 h
  obtain ⟨N1911, kN1911⟩ := c161_0 z0 z1 v1885 v1886 _ g1910
  cases h
  refine ev_call (fn := a152) rfl ⟨N1911, fun n hn => ?_⟩
  have kN1911 := kN1911 n (by omega)
  try simp (maxSteps := 2000000) only [wn] at kN1911
  simp (maxSteps := 2000000) only [W, reduceIte, Nat.reduceEqDiff, Nat.reduceAdd, Nat.reduceSub, Nat.reduceLT, Nat.reduceLeDiff, Nat.reduceMul, a152, kN1911]
noncomputable def h138l0_0 (z0 : Bool) (z1 : Bool) (v1920 : Int) (v1922 : List WaterNode) (v1923 : List WaterConduit) (v1925 : List WaterNode) (v1926 : List WaterConduit) (v1927 : List Branch) (v1929 : List Branch) : (Int × Int) → Env × Heap
  | (v1921, v1928) => ([(2, .ptr 2 0), (4, .ptr 6 0), (20, .slice 1 0 v1923.length v1923.length 6 false), (21, .int .i64 v1920), (22, .int .i64 v1921)], [.row z0 true (rowC v1922), .row z1 true (rowC v1923), .row true false [.slice 3 0 v1925.length v1925.length 4 false, .slice 4 0 v1926.length v1926.length 6 false, .slice 5 0 v1927.length v1927.length 2 false, .int .i64 0], .row true true (rowC v1925), .row true true (rowC v1926), .row true true (rowC v1927), .row true false [.slice 0 0 v1922.length v1922.length 4 false, .slice 1 0 v1923.length v1923.length 6 false, .slice 7 0 v1929.length v1929.length 2 false, .int .i64 v1928], .row true true (rowC v1929)])
noncomputable def q138l0_0 (z0 : Bool) (z1 : Bool) (v1920 : Int) (v1922 : List WaterNode) (v1923 : List WaterConduit) (v1925 : List WaterNode) (v1926 : List WaterConduit) (v1927 : List Branch) (v1929 : List Branch) : ((Int) ⊕ (Int × Int)) → AExit × Env × Heap
  | .inl (r1940) => (.exit 0, [(2, .ptr 2 0), (3, .undef), (4, .ptr 6 0)], [.row z0 true (rowC v1922), .row z1 true (rowC v1923), .row true false [.slice 3 0 v1925.length v1925.length 4 false, .slice 4 0 v1926.length v1926.length 6 false, .slice 5 0 v1927.length v1927.length 2 false, .int .i64 0], .row true true (rowC v1925), .row true true (rowC v1926), .row true true (rowC v1927), .row true false [.slice 0 0 v1922.length v1922.length 4 false, .slice 1 0 v1923.length v1923.length 6 false, .slice 7 0 v1929.length v1929.length 2 false, .int .i64 r1940], .row true true (rowC v1929)])
  | .inr (r1941, r1942) => (.ret, [(2, .ptr 2 0), (3, .int .i64 8), (4, .ptr 4 0)], [.row z0 true (rowC v1922), .row z1 true (rowC v1923), .row true false [.slice 0 0 v1922.length v1922.length 4 false, .slice 1 0 v1923.length v1923.length 6 false, .slice 3 0 v1929.length v1929.length 2 false, .int .i64 r1941], .row true true (rowC v1929), .row true false [.slice 0 0 v1922.length v1922.length 4 false, .slice 1 0 v1923.length v1923.length 6 false, .slice 3 0 v1929.length v1929.length 2 false, .int .i64 r1942]])
theorem k138l0_0 (z0 : Bool) (z1 : Bool) (v1920 : Int) (v1922 : List WaterNode) (v1923 : List WaterConduit) (v1925 : List WaterNode) (v1926 : List WaterConduit) (v1927 : List Branch) (v1929 : List Branch) (s : Int × Int) (o : (Int) ⊕ (Int × Int)) (h : L138l0_0 v1920 v1922 v1923 v1925 v1926 v1927 v1929 s = some o) : Ev fun n => loopAt [2, 4, 20, 21, 22] [2, 3, 4] a138l0b (ex tab n) 2 (h138l0_0 z0 z1 v1920 v1922 v1923 v1925 v1926 v1927 v1929 s) = some (q138l0_0 z0 z1 v1920 v1922 v1923 v1925 v1926 v1927 v1929 o) := by
  refine iter_sound (S138l0_0 v1920 v1922 v1923 v1925 v1926 v1927 v1929) [2, 4, 20, 21, 22] [2, 3, 4] a138l0b 2 (h138l0_0 z0 z1 v1920 v1922 v1923 v1925 v1926 v1927 v1929) (q138l0_0 z0 z1 v1920 v1922 v1923 v1925 v1926 v1927 v1929) ?_ _ _ _ h
  rintro ⟨v1921, v1928⟩ z h
  simp only [S138l0_0] at h
  by_cases c1930 : v1920 ≤ v1921
  · rw [if_pos c1930] at h
    have c1930d := dt c1930
    cases h
    refine ⟨0, fun n hn => ?_⟩
    simp (maxSteps := 2000000) only [W, reduceIte, Nat.reduceEqDiff, Nat.reduceAdd, Nat.reduceSub, Nat.reduceLT, Nat.reduceLeDiff, Nat.reduceMul, h138l0_0, q138l0_0, a138l0b, rc_WaterConduit, c1930d]
  · rw [if_neg c1930] at h
    have c1930d := df c1930
    obtain ⟨j1931, x1932, g1933, h⟩ := un2 h
    obtain ⟨g19331, g19332⟩ := geti_in g1933
    have g19333 := ac_WaterConduit g19332
    try simp only [wn] at g19331
    obtain ⟨r1936, g1934, h⟩ := un1 h
    obtain ⟨N1935, kN1935⟩ := c152_0 true true v1929 v1921 _ g1934
    by_cases c1937 : x1932.fOpen = true
    · rw [if_pos c1937] at h
      have c1937d := c1937
      by_cases c1938 : r1936 = true
      · rw [if_pos c1938] at h
        have c1938d := c1938
        cases h
        refine ⟨N1935, fun n hn => ?_⟩
        have kN1935 := kN1935 n (by omega)
        try simp (maxSteps := 2000000) only [wn, rc_WaterConduit, c1937d] at kN1935
        simp (maxSteps := 2000000) only [W, reduceIte, Nat.reduceEqDiff, Nat.reduceAdd, Nat.reduceSub, Nat.reduceLT, Nat.reduceLeDiff, Nat.reduceMul, h138l0_0, q138l0_0, a138l0b, rc_WaterConduit, c1930d, g19331, g19333, kN1935, c1937d, c1938d]
      · rw [if_neg c1938] at h
        have c1938d := bf c1938
        by_cases c1939 : 0 ≤ v1928
        · rw [if_pos c1939] at h
          have c1939d := dt c1939
          cases h
          refine ⟨N1935, fun n hn => ?_⟩
          have kN1935 := kN1935 n (by omega)
          try simp (maxSteps := 2000000) only [wn, rc_WaterConduit, c1937d] at kN1935
          simp (maxSteps := 2000000) only [W, reduceIte, Nat.reduceEqDiff, Nat.reduceAdd, Nat.reduceSub, Nat.reduceLT, Nat.reduceLeDiff, Nat.reduceMul, h138l0_0, q138l0_0, a138l0b, rc_WaterConduit, c1930d, g19331, g19333, kN1935, c1937d, c1938d, c1939d]
        · rw [if_neg c1939] at h
          have c1939d := df c1939
          cases h
          refine ⟨N1935, fun n hn => ?_⟩
          have kN1935 := kN1935 n (by omega)
          try simp (maxSteps := 2000000) only [wn, rc_WaterConduit, c1937d] at kN1935
          simp (maxSteps := 2000000) only [W, reduceIte, Nat.reduceEqDiff, Nat.reduceAdd, Nat.reduceSub, Nat.reduceLT, Nat.reduceLeDiff, Nat.reduceMul, h138l0_0, q138l0_0, a138l0b, rc_WaterConduit, c1930d, g19331, g19333, kN1935, c1937d, c1938d, c1939d]
    · rw [if_neg c1937] at h
      have c1937d := bf c1937
      cases h
      refine ⟨N1935, fun n hn => ?_⟩
      have kN1935 := kN1935 n (by omega)
      try simp (maxSteps := 2000000) only [wn, rc_WaterConduit, c1937d] at kN1935
      simp (maxSteps := 2000000) only [W, reduceIte, Nat.reduceEqDiff, Nat.reduceAdd, Nat.reduceSub, Nat.reduceLT, Nat.reduceLeDiff, Nat.reduceMul, h138l0_0, q138l0_0, a138l0b, rc_WaterConduit, c1930d, g19331, g19333, kN1935, c1937d]
end Go.AI
end
section
/-
  Functions, walked through: water.net).closed, water.openTree, water.openClosing, water.ClosingOf, water.circulationErr, water.branch], water.tree).other, water.branch]$1.
-/
set_option linter.unusedVariables false
set_option linter.unusedSimpArgs false
set_option maxRecDepth 100000
set_option maxHeartbeats 4000000
namespace Go.AI
theorem c138_0 (z0 : Bool) (z1 : Bool) (v1688 : List WaterNode) (v1689 : List WaterConduit) (r1948 : Int) (r1949 : Int) (r1950 : List Branch) (h : F138_0 v1688 v1689 = some (r1948, r1949, r1950)) : Ev fun n => (ex tab n).call 138 [.agg [.slice 0 0 v1688.length v1688.length 4 false, .slice 1 0 v1689.length v1689.length 6 false]] [.row z0 true (rowC v1688), .row z1 true (rowC v1689)] = some (.tup [.agg [.slice 0 0 v1688.length v1688.length 4 false, .slice 1 0 v1689.length v1689.length 6 false, .slice 2 0 r1950.length r1950.length 2 false, .int .i64 r1948], .int .i64 r1949], [.row z0 true (rowC v1688), .row z1 true (rowC v1689), .row true true (rowC r1950)]) := by
  unfold F138_0 at h
  obtain ⟨r1868, r1869, g1866, h⟩ := un2 h
  obtain ⟨N1867, kN1867⟩ := c151_0 z0 z1 v1688 v1689 _ _ g1866
  by_cases c1870 : r1868 = 0
  · rw [if_pos c1870] at h
    have c1870d := dt c1870
    obtain ⟨g1943_, g1943, h⟩ := un1 h
    rcases g1943_ with r1945 | ⟨r1946, r1947⟩
    · dsimp only at h
      have kN1944 := k138l0_0 z0 z1 (v1689.length : Int) v1688 v1689 ([] : List WaterNode) ([] : List WaterConduit) ([] : List Branch) r1869 (0, (-1)) _ g1943
      obtain ⟨N1944, kN1944⟩ := kN1944
      cases h
      refine ev_call (fn := a138) rfl ⟨N1867 + N1944, fun n hn => ?_⟩
      have kN1867 := kN1867 n (by omega)
      try simp (maxSteps := 2000000) only [wn, rc_Branch, rc_WaterConduit, rc_WaterNode] at kN1867
      have kN1944 := kN1944 n (by omega)
      simp (maxSteps := 2000000) only [h138l0_0, q138l0_0, wn, rc_Branch, rc_WaterConduit, rc_WaterNode] at kN1944
      simp (maxSteps := 2000000) only [W, reduceIte, Nat.reduceEqDiff, Nat.reduceAdd, Nat.reduceSub, Nat.reduceLT, Nat.reduceLeDiff, Nat.reduceMul, a138, a138l0, rc_Branch, rc_WaterConduit, rc_WaterNode, kN1867, c1870d, kN1944, @x_loopAt]
    · dsimp only at h
      have kN1944 := k138l0_0 z0 z1 (v1689.length : Int) v1688 v1689 ([] : List WaterNode) ([] : List WaterConduit) ([] : List Branch) r1869 (0, (-1)) _ g1943
      obtain ⟨N1944, kN1944⟩ := kN1944
      cases h
      refine ev_call (fn := a138) rfl ⟨N1867 + N1944, fun n hn => ?_⟩
      have kN1867 := kN1867 n (by omega)
      try simp (maxSteps := 2000000) only [wn, rc_Branch, rc_WaterConduit, rc_WaterNode] at kN1867
      have kN1944 := kN1944 n (by omega)
      simp (maxSteps := 2000000) only [h138l0_0, q138l0_0, wn, rc_Branch, rc_WaterConduit, rc_WaterNode] at kN1944
      simp (maxSteps := 2000000) only [W, reduceIte, Nat.reduceEqDiff, Nat.reduceAdd, Nat.reduceSub, Nat.reduceLT, Nat.reduceLeDiff, Nat.reduceMul, a138, a138l0, rc_Branch, rc_WaterConduit, rc_WaterNode, kN1867, c1870d, kN1944, @x_loopAt]
  · rw [if_neg c1870] at h
    have c1870d := df c1870
    cases h
    refine ev_call (fn := a138) rfl ⟨N1867, fun n hn => ?_⟩
    have kN1867 := kN1867 n (by omega)
    try simp (maxSteps := 2000000) only [wn, rc_Branch, rc_WaterConduit, rc_WaterNode] at kN1867
    simp (maxSteps := 2000000) only [W, reduceIte, Nat.reduceEqDiff, Nat.reduceAdd, Nat.reduceSub, Nat.reduceLT, Nat.reduceLeDiff, Nat.reduceMul, a138, a138l0, rc_Branch, rc_WaterConduit, rc_WaterNode, kN1867, c1870d, @x_loopAt]
theorem c99_0 (z0 : Bool) (z1 : Bool) (v1682 : List WaterNode) (v1683 : List WaterConduit) (r : (Int × Int × (List Branch)) ⊕ (Int)) (h : F99_0 v1682 v1683 = some r) : match r with
    | .inl (r1956, r1957, r1958) => Ev fun n => (ex tab n).call 99 [.agg [.slice 0 0 v1682.length v1682.length 4 false, .slice 1 0 v1683.length v1683.length 6 false]] [.row z0 true (rowC v1682), .row z1 true (rowC v1683)] = some (.tup [.agg [.slice 0 0 v1682.length v1682.length 4 false, .slice 1 0 v1683.length v1683.length 6 false, .slice 2 0 r1958.length r1958.length 2 false, .int .i64 r1956], .int .i64 r1957], [.row z0 true (rowC v1682), .row z1 true (rowC v1683), .row true true (rowC r1958)])
    | .inr (r1959) => Ev fun n => (ex tab n).call 99 [.agg [.slice 0 0 v1682.length v1682.length 4 false, .slice 1 0 v1683.length v1683.length 6 false]] [.row z0 true (rowC v1682), .row z1 true (rowC v1683)] = some (.tup [.agg [.slice 2 0 0 0 4 false, .slice 3 0 0 0 6 false, .slice 4 0 0 0 2 false, .int .i64 0], .int .i64 r1959], [.row z0 true (rowC v1682), .row z1 true (rowC v1683), .row true true [], .row true true [], .row true true []]) := by
  unfold F99_0 at h
  obtain ⟨r1686, g1684, h⟩ := un1 h
  obtain ⟨N1685, kN1685⟩ := c87_0 z0 z1 v1682 v1683 _ g1684
  by_cases c1687 : r1686 = 0
  · rw [if_pos c1687] at h
    have c1687d := dt c1687
    obtain ⟨r1953, r1954, r1955, g1951, h⟩ := un3 h
    obtain ⟨N1952, kN1952⟩ := c138_0 z0 z1 v1682 v1683 _ _ _ g1951
    cases h
    refine ev_call (fn := a99) rfl ⟨N1685 + N1952, fun n hn => ?_⟩
    have kN1685 := kN1685 n (by omega)
    try simp (maxSteps := 2000000) only [wn, rc_Branch, rc_WaterConduit, rc_WaterNode] at kN1685
    have kN1952 := kN1952 n (by omega)
    try simp (maxSteps := 2000000) only [wn, rc_Branch, rc_WaterConduit, rc_WaterNode] at kN1952
    simp (maxSteps := 2000000) only [W, reduceIte, Nat.reduceEqDiff, Nat.reduceAdd, Nat.reduceSub, Nat.reduceLT, Nat.reduceLeDiff, Nat.reduceMul, a99, rc_Branch, rc_WaterConduit, rc_WaterNode, kN1685, c1687d, kN1952]
  · rw [if_neg c1687] at h
    have c1687d := df c1687
    cases h
    refine ev_call (fn := a99) rfl ⟨N1685, fun n hn => ?_⟩
    have kN1685 := kN1685 n (by omega)
    try simp (maxSteps := 2000000) only [wn, rc_Branch, rc_WaterConduit, rc_WaterNode] at kN1685
    simp (maxSteps := 2000000) only [W, reduceIte, Nat.reduceEqDiff, Nat.reduceAdd, Nat.reduceSub, Nat.reduceLT, Nat.reduceLeDiff, Nat.reduceMul, a99, rc_Branch, rc_WaterConduit, rc_WaterNode, kN1685, c1687d]
noncomputable def h101l0_0 (z0 : Bool) (z1 : Bool) (z2 : Bool) (v2040 : Int) (v2041 : Int) (v2043 : List WaterNode) (v2044 : List WaterConduit) (v2045 : List Branch) (v2046 : Int) (v2047 : List Int) (v2048 : List Int) (v2049 : List Int) : (Int × (List Int) × (List Int)) → Env × Heap
  | (v2042, v2050, v2051) => ([(1, .int .i64 v2040), (2, .ptr 3 0), (4, .ptr 4 0), (5, .ptr 7 0), (6, .ptr 10 0), (40, .slice 0 0 v2043.length v2043.length 4 false), (41, .int .i64 v2041), (42, .int .i64 v2042)], [.row z0 true (rowC v2043), .row z1 true (rowC v2044), .row z2 true (rowC v2045), .row true false [.slice 0 0 v2043.length v2043.length 4 false, .slice 1 0 v2044.length v2044.length 6 false, .slice 2 0 v2045.length v2045.length 2 false, .int .i64 v2046], .row true false [.slice 5 0 v2047.length v2047.length 1 false, .slice 6 0 v2048.length v2048.length 1 false], .row true true (rowC v2047), .row true true (rowC v2048), .row true false [.slice 8 0 v2049.length v2049.length 1 true, .slice 9 0 v2050.length v2050.length 1 true], .row true true (rowC v2049), .row true true (rowC v2050), .row true false [.slice 11 0 v2051.length v2051.length 1 true], .row true true (rowC v2051)])
noncomputable def q101l0_0 (z0 : Bool) (z1 : Bool) (z2 : Bool) (v2040 : Int) (v2041 : Int) (v2043 : List WaterNode) (v2044 : List WaterConduit) (v2045 : List Branch) (v2046 : Int) (v2047 : List Int) (v2048 : List Int) (v2049 : List Int) : ((List Int) × (List Int)) → AExit × Env × Heap
  | (r2062, r2063) => (.exit 0, [(1, .int .i64 v2040), (2, .ptr 3 0), (4, .ptr 4 0), (5, .ptr 7 0), (6, .ptr 10 0)], [.row z0 true (rowC v2043), .row z1 true (rowC v2044), .row z2 true (rowC v2045), .row true false [.slice 0 0 v2043.length v2043.length 4 false, .slice 1 0 v2044.length v2044.length 6 false, .slice 2 0 v2045.length v2045.length 2 false, .int .i64 v2046], .row true false [.slice 5 0 v2047.length v2047.length 1 false, .slice 6 0 v2048.length v2048.length 1 false], .row true true (rowC v2047), .row true true (rowC v2048), .row true false [.slice 8 0 v2049.length v2049.length 1 true, .slice 9 0 r2062.length r2062.length 1 true], .row true true (rowC v2049), .row true true (rowC r2062), .row true false [.slice 11 0 r2063.length r2063.length 1 true], .row true true (rowC r2063)])
theorem k101l0_0 (z0 : Bool) (z1 : Bool) (z2 : Bool) (v2040 : Int) (v2041 : Int) (v2043 : List WaterNode) (v2044 : List WaterConduit) (v2045 : List Branch) (v2046 : Int) (v2047 : List Int) (v2048 : List Int) (v2049 : List Int) (s : Int × (List Int) × (List Int)) (o : (List Int) × (List Int)) (h : L101l0_0 v2040 v2041 v2043 v2044 v2045 v2046 v2047 v2048 v2049 s = some o) : Ev fun n => loopAt [1, 2, 4, 5, 6, 40, 41, 42] [1, 2, 4, 5, 6] a101l0b (ex tab n) 3 (h101l0_0 z0 z1 z2 v2040 v2041 v2043 v2044 v2045 v2046 v2047 v2048 v2049 s) = some (q101l0_0 z0 z1 z2 v2040 v2041 v2043 v2044 v2045 v2046 v2047 v2048 v2049 o) := by
  refine iter_sound (S101l0_0 v2040 v2041 v2043 v2044 v2045 v2046 v2047 v2048 v2049) [1, 2, 4, 5, 6, 40, 41, 42] [1, 2, 4, 5, 6] a101l0b 3 (h101l0_0 z0 z1 z2 v2040 v2041 v2043 v2044 v2045 v2046 v2047 v2048 v2049) (q101l0_0 z0 z1 z2 v2040 v2041 v2043 v2044 v2045 v2046 v2047 v2048 v2049) ?_ _ _ _ h
  rintro ⟨v2042, v2050, v2051⟩ z h
  simp only [S101l0_0] at h
  by_cases c2052 : v2041 ≤ v2042
  · rw [if_pos c2052] at h
    have c2052d := dt c2052
    cases h
    refine ⟨0, fun n hn => ?_⟩
    simp (maxSteps := 2000000) only [W, reduceIte, Nat.reduceEqDiff, Nat.reduceAdd, Nat.reduceSub, Nat.reduceLT, Nat.reduceLeDiff, Nat.reduceMul, h101l0_0, q101l0_0, a101l0b, rc_WaterNode, c2052d]
  · rw [if_neg c2052] at h
    have c2052d := df c2052
    obtain ⟨j2053, x2054, g2055, h⟩ := un2 h
    obtain ⟨g20551, g20552⟩ := geti_in g2055
    have g20553 := ac_WaterNode g20552
    try simp only [wn] at g20551
    obtain ⟨j2056, x2057, g2058, h⟩ := un2 h
    obtain ⟨g20581, g20582⟩ := geti_in g2058
    have g20583 := ac_Int g20582
    try simp only [wn] at g20581
    obtain ⟨j2059, x2060, g2061, h⟩ := un2 h
    obtain ⟨g20611, g20612⟩ := geti_in g2061
    have g20613 := ac_Int g20612
    try simp only [wn] at g20611
    cases h
    refine ⟨0, fun n hn => ?_⟩
    simp (maxSteps := 2000000) only [W, reduceIte, Nat.reduceEqDiff, Nat.reduceAdd, Nat.reduceSub, Nat.reduceLT, Nat.reduceLeDiff, Nat.reduceMul, h101l0_0, q101l0_0, a101l0b, rc_WaterNode, c2052d, g20551, g20553, g20581, g20583, g20611, g20613]
theorem c139_0 (z0 : Bool) (v2081 : List Branch) (h : F139_0 v2081 = some ()) : Ev fun n => (ex tab n).call 139 [.slice 0 0 v2081.length v2081.length 2 false] [.row z0 true (rowC v2081)] = some (.func 154 [] [.ptr 1 0], [.row z0 true (rowC v2081), .row true false [.slice 0 0 v2081.length v2081.length 2 false]]) := by
  unfold F139_0 at h
  cases h
  refine ev_call (fn := a139) rfl ⟨0, fun n hn => ?_⟩
  simp (maxSteps := 2000000) only [W, reduceIte, Nat.reduceEqDiff, Nat.reduceAdd, Nat.reduceSub, Nat.reduceLT, Nat.reduceLeDiff, Nat.reduceMul, a139]
theorem c140_0 (z0 : Bool) (z1 : Bool) (z2 : Bool) (v2107 : Int) (v2108 : Int) (v2109 : Int) (v2110 : List WaterNode) (v2111 : List WaterConduit) (v2112 : List Branch) (r2117 : Int) (r2118 : Int) (h : F140_0 v2107 v2108 v2109 v2110 v2111 v2112 = some (r2117, r2118)) : Ev fun n => (ex tab n).call 140 [.agg [.slice 0 0 v2110.length v2110.length 4 false, .slice 1 0 v2111.length v2111.length 6 false, .slice 2 0 v2112.length v2112.length 2 false, .int .i64 v2107], .agg [.int .i64 v2108, .int .i64 v2109]] [.row z0 true (rowC v2110), .row z1 true (rowC v2111), .row z2 true (rowC v2112)] = some (.tup [.int .i64 r2117, .int .i64 r2118], [.row z0 true (rowC v2110), .row z1 true (rowC v2111), .row z2 true (rowC v2112)]) := by
  unfold F140_0 at h
  obtain ⟨j2113, x2114, g2115, h⟩ := un2 h
  obtain ⟨g21151, g21152⟩ := geti_in g2115
  have g21153 := ac_WaterConduit g21152
  try simp only [wn] at g21151
  by_cases c2116 : x2114.fTo = v2109
  · rw [if_pos c2116] at h
    have c2116d := dt c2116
    cases h
    refine ev_call (fn := a140) rfl ⟨0, fun n hn => ?_⟩
    simp (maxSteps := 2000000) only [W, reduceIte, Nat.reduceEqDiff, Nat.reduceAdd, Nat.reduceSub, Nat.reduceLT, Nat.reduceLeDiff, Nat.reduceMul, a140, rc_WaterConduit, g21151, g21153, c2116d]
  · rw [if_neg c2116] at h
    have c2116d := df c2116
    cases h
    refine ev_call (fn := a140) rfl ⟨0, fun n hn => ?_⟩
    simp (maxSteps := 2000000) only [W, reduceIte, Nat.reduceEqDiff, Nat.reduceAdd, Nat.reduceSub, Nat.reduceLT, Nat.reduceLeDiff, Nat.reduceMul, a140, rc_WaterConduit, g21151, g21153, c2116d]
noncomputable def h154l0_0 (z1 : Bool) (z2 : Bool) (z3 : Bool) (z4 : Bool) (z5 : Bool) (z6 : Bool) (z7 : Bool) (z8 : Bool) (z10 : Bool) (z11 : Bool) (z13 : Bool) (v2175 : Int) (v2176 : List WaterNode) (v2177 : List WaterConduit) (v2178 : List Branch) (v2179 : List Int) (v2180 : List Int) (v2182 : List Int) : (Int × (List Int) × (List Int)) → Env × Heap
  | (v2174, v2181, v2183) => ([(0, .yield 0), (1, .ptr 13 0), (3, .int .i64 v2174)], [.loop true .ready [(2, .ptr 1 0), (4, .ptr 5 0), (5, .ptr 8 0), (6, .ptr 11 0)] [96, 97] a101r1a a101r1b .normal, .row z1 false [.slice 2 0 v2176.length v2176.length 4 false, .slice 3 0 v2177.length v2177.length 6 false, .slice 4 0 v2178.length v2178.length 2 false, .int .i64 v2175], .row z2 true (rowC v2176), .row z3 true (rowC v2177), .row z4 true (rowC v2178), .row z5 false [.slice 6 0 v2179.length v2179.length 1 false, .slice 7 0 v2180.length v2180.length 1 false], .row z6 true (rowC v2179), .row z7 true (rowC v2180), .row z8 false [.slice 9 0 v2181.length v2181.length 1 true, .slice 10 0 v2182.length v2182.length 1 true], .row true true (rowC v2181), .row z10 true (rowC v2182), .row z11 false [.slice 12 0 v2183.length v2183.length 1 true], .row true true (rowC v2183), .row z13 false [.slice 4 0 v2178.length v2178.length 2 false]])
noncomputable def q154l0_0 (z1 : Bool) (z2 : Bool) (z3 : Bool) (z4 : Bool) (z5 : Bool) (z6 : Bool) (z7 : Bool) (z8 : Bool) (z10 : Bool) (z11 : Bool) (z13 : Bool) (v2175 : Int) (v2176 : List WaterNode) (v2177 : List WaterConduit) (v2178 : List Branch) (v2179 : List Int) (v2180 : List Int) (v2182 : List Int) : ((List Int) × (List Int)) → AExit × Env × Heap
  | (r2201, r2202) => (.exit 0, [], [.loop true .ready [(2, .ptr 1 0), (4, .ptr 5 0), (5, .ptr 8 0), (6, .ptr 11 0)] [96, 97] a101r1a a101r1b .normal, .row z1 false [.slice 2 0 v2176.length v2176.length 4 false, .slice 3 0 v2177.length v2177.length 6 false, .slice 4 0 v2178.length v2178.length 2 false, .int .i64 v2175], .row z2 true (rowC v2176), .row z3 true (rowC v2177), .row z4 true (rowC v2178), .row z5 false [.slice 6 0 v2179.length v2179.length 1 false, .slice 7 0 v2180.length v2180.length 1 false], .row z6 true (rowC v2179), .row z7 true (rowC v2180), .row z8 false [.slice 9 0 r2201.length r2201.length 1 true, .slice 10 0 v2182.length v2182.length 1 true], .row true true (rowC r2201), .row z10 true (rowC v2182), .row z11 false [.slice 12 0 r2202.length r2202.length 1 true], .row true true (rowC r2202), .row z13 false [.slice 4 0 v2178.length v2178.length 2 false]])
theorem k154l0_0 (z1 : Bool) (z2 : Bool) (z3 : Bool) (z4 : Bool) (z5 : Bool) (z6 : Bool) (z7 : Bool) (z8 : Bool) (z10 : Bool) (z11 : Bool) (z13 : Bool) (v2175 : Int) (v2176 : List WaterNode) (v2177 : List WaterConduit) (v2178 : List Branch) (v2179 : List Int) (v2180 : List Int) (v2182 : List Int) (s : Int × (List Int) × (List Int)) (o : (List Int) × (List Int)) (h : L154l0_0 v2175 v2176 v2177 v2178 v2179 v2180 v2182 s = some o) : Ev fun n => loopAt [0, 1, 3] [] a154l0b (ex tab n) 14 (h154l0_0 z1 z2 z3 z4 z5 z6 z7 z8 z10 z11 z13 v2175 v2176 v2177 v2178 v2179 v2180 v2182 s) = some (q154l0_0 z1 z2 z3 z4 z5 z6 z7 z8 z10 z11 z13 v2175 v2176 v2177 v2178 v2179 v2180 v2182 o) := by
  refine iter_sound (S154l0_0 v2175 v2176 v2177 v2178 v2179 v2180 v2182) [0, 1, 3] [] a154l0b 14 (h154l0_0 z1 z2 z3 z4 z5 z6 z7 z8 z10 z11 z13 v2175 v2176 v2177 v2178 v2179 v2180 v2182) (q154l0_0 z1 z2 z3 z4 z5 z6 z7 z8 z10 z11 z13 v2175 v2176 v2177 v2178 v2179 v2180 v2182) ?_ _ _ _ h
  rintro ⟨v2174, v2181, v2183⟩ z h
  simp only [S154l0_0] at h
  by_cases c2184 : 0 ≤ v2174
  · rw [if_pos c2184] at h
    have c2184d := dt c2184
    obtain ⟨j2185, x2186, g2187, h⟩ := un2 h
    obtain ⟨g21871, g21872⟩ := geti_in g2187
    have g21873 := ac_Branch g21872
    try simp only [wn] at g21871
    obtain ⟨r2190, r2191, g2188, h⟩ := un2 h
    obtain ⟨N2189, kN2189⟩ := c140_0 z2 z3 z4 v2175 x2186.fconduit x2186.fnode v2176 v2177 v2178 _ _ g2188
    obtain ⟨j2192, x2193, g2194, h⟩ := un2 h
    obtain ⟨g21941, g21942⟩ := geti_in g2194
    have g21943 := ac_Int g21942
    try simp only [wn] at g21941
    obtain ⟨j2195, x2196, g2197, h⟩ := un2 h
    obtain ⟨g21971, g21972⟩ := geti_in g2197
    have g21973 := ac_Int g21972
    try simp only [wn] at g21971
    obtain ⟨j2198, x2199, g2200, h⟩ := un2 h
    obtain ⟨g22001, g22002⟩ := geti_in g2200
    have g22003 := ac_Int g22002
    try simp only [wn] at g22001
    cases h
    refine ⟨N2189 + 1, fun n hn => ?_⟩
    obtain ⟨m, rfl⟩ := Nat.exists_eq_add_of_le' (show 1 ≤ n by omega)
    have kN2189y1 := kN2189 (m) (by omega)
    try simp (maxSteps := 2000000) only [wn, rc_Branch] at kN2189y1
    have kN2189 := kN2189 (m + 1) (by omega)
    try simp (maxSteps := 2000000) only [wn, rc_Branch] at kN2189
    simp (maxSteps := 2000000) only [W, reduceIte, Nat.reduceEqDiff, Nat.reduceAdd, Nat.reduceSub, Nat.reduceLT, Nat.reduceLeDiff, Nat.reduceMul, h154l0_0, q154l0_0, a101r1A, a101r1B, a154l0b, rc_Branch, c2184d, g21871, g21873, kN2189, g21941, g21943, g21971, g21973, g22001, g22003, kN2189y1, wd, wg, show ∀ p b e H, exec1 a101r1a p b e H = exec1 a101r1A p b e H from fun _ _ _ _ => rfl, show ∀ p b e H, exec1 a101r1b p b e H = exec1 a101r1B p b e H from fun _ _ _ _ => rfl]
  · rw [if_neg c2184] at h
    have c2184d := df c2184
    cases h
    refine ⟨0 + 1, fun n hn => ?_⟩
    obtain ⟨m, rfl⟩ := Nat.exists_eq_add_of_le' (show 1 ≤ n by omega)
    simp (maxSteps := 2000000) only [W, reduceIte, Nat.reduceEqDiff, Nat.reduceAdd, Nat.reduceSub, Nat.reduceLT, Nat.reduceLeDiff, Nat.reduceMul, h154l0_0, q154l0_0, a101r1A, a101r1B, a154l0b, rc_Branch, c2184d, wd, wg, show ∀ p b e H, exec1 a101r1a p b e H = exec1 a101r1A p b e H from fun _ _ _ _ => rfl, show ∀ p b e H, exec1 a101r1b p b e H = exec1 a101r1B p b e H from fun _ _ _ _ => rfl]
theorem c154_2 (z1 : Bool) (z2 : Bool) (z3 : Bool) (z4 : Bool) (z5 : Bool) (z6 : Bool) (z7 : Bool) (z8 : Bool) (z10 : Bool) (z11 : Bool) (z13 : Bool) (v2165 : Int) (v2166 : List WaterNode) (v2167 : List WaterConduit) (v2168 : List Branch) (v2169 : List Int) (v2170 : List Int) (v2171 : List Int) (v2172 : List Int) (v2173 : List Int) (r2207 : List Int) (r2208 : List Int) (h : F154_2 v2165 v2166 v2167 v2168 v2169 v2170 v2171 v2172 v2173 = some (r2207, r2208)) : Ev fun n => (ex tab n).call 154 [.yield 0, .ptr 13 0] [.loop true .ready [(2, .ptr 1 0), (4, .ptr 5 0), (5, .ptr 8 0), (6, .ptr 11 0)] [96, 97] a101r1a a101r1b .normal, .row z1 false [.slice 2 0 v2166.length v2166.length 4 false, .slice 3 0 v2167.length v2167.length 6 false, .slice 4 0 v2168.length v2168.length 2 false, .int .i64 v2165], .row z2 true (rowC v2166), .row z3 true (rowC v2167), .row z4 true (rowC v2168), .row z5 false [.slice 6 0 v2169.length v2169.length 1 false, .slice 7 0 v2170.length v2170.length 1 false], .row z6 true (rowC v2169), .row z7 true (rowC v2170), .row z8 false [.slice 9 0 v2171.length v2171.length 1 true, .slice 10 0 v2172.length v2172.length 1 true], .row true true (rowC v2171), .row z10 true (rowC v2172), .row z11 false [.slice 12 0 v2173.length v2173.length 1 true], .row true true (rowC v2173), .row z13 false [.slice 4 0 v2168.length v2168.length 2 false]] = some (.tup [], [.loop true .ready [(2, .ptr 1 0), (4, .ptr 5 0), (5, .ptr 8 0), (6, .ptr 11 0)] [96, 97] a101r1a a101r1b .normal, .row z1 false [.slice 2 0 v2166.length v2166.length 4 false, .slice 3 0 v2167.length v2167.length 6 false, .slice 4 0 v2168.length v2168.length 2 false, .int .i64 v2165], .row z2 true (rowC v2166), .row z3 true (rowC v2167), .row z4 true (rowC v2168), .row z5 false [.slice 6 0 v2169.length v2169.length 1 false, .slice 7 0 v2170.length v2170.length 1 false], .row z6 true (rowC v2169), .row z7 true (rowC v2170), .row z8 false [.slice 9 0 r2207.length r2207.length 1 true, .slice 10 0 v2172.length v2172.length 1 true], .row true true (rowC r2207), .row z10 true (rowC v2172), .row z11 false [.slice 12 0 r2208.length r2208.length 1 true], .row true true (rowC r2208), .row z13 false [.slice 4 0 v2168.length v2168.length 2 false]]) := by
  unfold F154_2 at h
  obtain ⟨r2205, r2206, g2203, h⟩ := un2 h
  have kN2204 := k154l0_0 z1 z2 z3 z4 z5 z6 z7 z8 z10 z11 z13 v2165 v2166 v2167 v2168 v2169 v2170 v2172 ((aw .i64 ((v2168.length : Int) - 1)), v2171, v2173) _ g2203
  obtain ⟨N2204, kN2204⟩ := kN2204
  cases h
  refine ev_call (fn := a154) rfl ⟨N2204, fun n hn => ?_⟩
  have kN2204 := kN2204 n (by omega)
  simp (maxSteps := 2000000) only [h154l0_0, q154l0_0, wn, rc_Branch] at kN2204
  simp (maxSteps := 2000000) only [W, reduceIte, Nat.reduceEqDiff, Nat.reduceAdd, Nat.reduceSub, Nat.reduceLT, Nat.reduceLeDiff, Nat.reduceMul, a154, a154l0, rc_Branch, kN2204, @x_loopAt, wg]
end Go.AI
end
