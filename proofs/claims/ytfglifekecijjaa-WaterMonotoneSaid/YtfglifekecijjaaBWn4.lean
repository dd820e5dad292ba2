/-
  Functions, walked through: guidevaneref02.conduitErr, guidevaneref02.CheckNet, guidevaneref02.FlowErr, guidevanebase.Size, guidevaneref02.Loss, guidevanelaw02.WaterNets, guidevaneref02.ResistErr.
-/
import Derived.Test.YtfglifekecijjaaBAiY
import Derived.Test.YtfglifekecijjaaBAiTab
import Derived.Test.YtfglifekecijjaaBAiAwake
import Derived.Test.YtfglifekecijjaaBWnF
import Derived.Test.YtfglifekecijjaaBWn0
import Derived.Test.YtfglifekecijjaaBWn2
import Derived.Test.YtfglifekecijjaaBWn3
set_option linter.unusedVariables false
set_option linter.unusedSimpArgs false
set_option maxRecDepth 100000
set_option maxHeartbeats 4000000
namespace Go.AI
theorem c79_0 (z0 : Bool) (z1 : Bool) (z2 : Bool) (v451 : ByteArray) (v452 : Int) (v453 : Int) (v454 : Int) (v455 : Bool) (v456 : Bool) (v457 : List WaterNode) (v458 : List WaterConduit) (v459 : List ByteArray) (r483 : Int) (h : F79_0 v451 v452 v453 v454 v455 v456 v457 v458 v459 = some r483) : Ev fun n => (ex tab n).call 79 [.agg [.slice 0 0 v457.length v457.length 4 false, .slice 1 0 v458.length v458.length 6 false], .agg [.str v451, .int .i64 v452, .int .i64 v453, .int .i64 v454, .bool v455, .bool v456], .slice 2 0 v459.length v459.length 1 false] [.row z0 true (rowC v457), .row z1 true (rowC v458), .row z2 true (rowC v459)] = some (.int .i64 r483, [.row z0 true (rowC v457), .row z1 true (rowC v458), .row z2 true (rowC v459)]) := by
  unfold F79_0 at h
  obtain ⟨r462, g460, h⟩ := un1 h
  obtain ⟨N461, kN461⟩ := c131_0 v451 _ g460
  by_cases c482 : r462 = true
  · rw [if_pos c482] at h
    have c482d := c482
    obtain ⟨r465, g463, h⟩ := un1 h
    obtain ⟨N464, kN464⟩ := c132_0 z2 v451 v459 _ g463
    by_cases c481 : r465 = true
    · rw [if_pos c481] at h
      have c481d := c481
      cases h
      refine ev_call (fn := a79) rfl ⟨N461 + N464, fun n hn => ?_⟩
      have kN461 := kN461 n (by omega)
      try simp only [wn] at kN461
      have kN464 := kN464 n (by omega)
      try simp only [wn] at kN464
      simp only [W, reduceIte, Nat.reduceEqDiff, Nat.reduceAdd, Nat.reduceSub, Nat.reduceLT, Nat.reduceLeDiff, Nat.reduceMul, a79, kN461, c482d, kN464, c481d]
    · rw [if_neg c481] at h
      have c481d := bf c481
      obtain ⟨r468, g466, h⟩ := un1 h
      obtain ⟨N467, kN467⟩ := c20_0 v452 0 (aw .i64 ((v457.length : Int) - 1)) _ g466
      by_cases c480 : r468 = true
      · rw [if_pos c480] at h
        have c480d := c480
        obtain ⟨r471, g469, h⟩ := un1 h
        obtain ⟨N470, kN470⟩ := c20_0 v453 0 (aw .i64 ((v457.length : Int) - 1)) _ g469
        by_cases c479 : r471 = true
        · rw [if_pos c479] at h
          have c479d := c479
          by_cases c478 : v452 = v453
          · rw [if_pos c478] at h
            have c478d := dt c478
            cases h
            refine ev_call (fn := a79) rfl ⟨N461 + N464 + N467 + N470, fun n hn => ?_⟩
            have kN461 := kN461 n (by omega)
            try simp only [wn] at kN461
            have kN464 := kN464 n (by omega)
            try simp only [wn] at kN464
            have kN467 := kN467 n (by omega)
            try simp only [wn] at kN467
            have kN470 := kN470 n (by omega)
            try simp only [wn] at kN470
            simp only [W, reduceIte, Nat.reduceEqDiff, Nat.reduceAdd, Nat.reduceSub, Nat.reduceLT, Nat.reduceLeDiff, Nat.reduceMul, a79, kN461, c482d, kN464, c481d, kN467, c480d, kN470, c479d, c478d]
          · rw [if_neg c478] at h
            have c478d := df c478
            obtain ⟨r474, g472, h⟩ := un1 h
            obtain ⟨N473, kN473⟩ := c20_0 v454 0 1000 _ g472
            by_cases c477 : r474 = true
            · rw [if_pos c477] at h
              have c477d := c477
              by_cases c476 : v455 = true
              · rw [if_pos c476] at h
                have c476d := c476
                cases h
                refine ev_call (fn := a79) rfl ⟨N461 + N464 + N467 + N470 + N473, fun n hn => ?_⟩
                have kN461 := kN461 n (by omega)
                try simp only [wn] at kN461
                have kN464 := kN464 n (by omega)
                try simp only [wn] at kN464
                have kN467 := kN467 n (by omega)
                try simp only [wn] at kN467
                have kN470 := kN470 n (by omega)
                try simp only [wn] at kN470
                have kN473 := kN473 n (by omega)
                try simp only [wn] at kN473
                simp only [W, reduceIte, Nat.reduceEqDiff, Nat.reduceAdd, Nat.reduceSub, Nat.reduceLT, Nat.reduceLeDiff, Nat.reduceMul, a79, kN461, c482d, kN464, c481d, kN467, c480d, kN470, c479d, c478d, kN473, c477d, c476d]
              · rw [if_neg c476] at h
                have c476d := bf c476
                by_cases c475 : v456 = true
                · rw [if_pos c475] at h
                  have c475d := c475
                  cases h
                  refine ev_call (fn := a79) rfl ⟨N461 + N464 + N467 + N470 + N473, fun n hn => ?_⟩
                  have kN461 := kN461 n (by omega)
                  try simp only [wn] at kN461
                  have kN464 := kN464 n (by omega)
                  try simp only [wn] at kN464
                  have kN467 := kN467 n (by omega)
                  try simp only [wn] at kN467
                  have kN470 := kN470 n (by omega)
                  try simp only [wn] at kN470
                  have kN473 := kN473 n (by omega)
                  try simp only [wn] at kN473
                  simp only [W, reduceIte, Nat.reduceEqDiff, Nat.reduceAdd, Nat.reduceSub, Nat.reduceLT, Nat.reduceLeDiff, Nat.reduceMul, a79, kN461, c482d, kN464, c481d, kN467, c480d, kN470, c479d, c478d, kN473, c477d, c476d, c475d]
                · rw [if_neg c475] at h
                  have c475d := bf c475
                  cases h
                  refine ev_call (fn := a79) rfl ⟨N461 + N464 + N467 + N470 + N473, fun n hn => ?_⟩
                  have kN461 := kN461 n (by omega)
                  try simp only [wn] at kN461
                  have kN464 := kN464 n (by omega)
                  try simp only [wn] at kN464
                  have kN467 := kN467 n (by omega)
                  try simp only [wn] at kN467
                  have kN470 := kN470 n (by omega)
                  try simp only [wn] at kN470
                  have kN473 := kN473 n (by omega)
                  try simp only [wn] at kN473
                  simp only [W, reduceIte, Nat.reduceEqDiff, Nat.reduceAdd, Nat.reduceSub, Nat.reduceLT, Nat.reduceLeDiff, Nat.reduceMul, a79, kN461, c482d, kN464, c481d, kN467, c480d, kN470, c479d, c478d, kN473, c477d, c476d, c475d]
            · rw [if_neg c477] at h
              have c477d := bf c477
              cases h
              refine ev_call (fn := a79) rfl ⟨N461 + N464 + N467 + N470 + N473, fun n hn => ?_⟩
              have kN461 := kN461 n (by omega)
              try simp only [wn] at kN461
              have kN464 := kN464 n (by omega)
              try simp only [wn] at kN464
              have kN467 := kN467 n (by omega)
              try simp only [wn] at kN467
              have kN470 := kN470 n (by omega)
              try simp only [wn] at kN470
              have kN473 := kN473 n (by omega)
              try simp only [wn] at kN473
              simp only [W, reduceIte, Nat.reduceEqDiff, Nat.reduceAdd, Nat.reduceSub, Nat.reduceLT, Nat.reduceLeDiff, Nat.reduceMul, a79, kN461, c482d, kN464, c481d, kN467, c480d, kN470, c479d, c478d, kN473, c477d]
        · rw [if_neg c479] at h
          have c479d := bf c479
          cases h
          refine ev_call (fn := a79) rfl ⟨N461 + N464 + N467 + N470, fun n hn => ?_⟩
          have kN461 := kN461 n (by omega)
          try simp only [wn] at kN461
          have kN464 := kN464 n (by omega)
          try simp only [wn] at kN464
          have kN467 := kN467 n (by omega)
          try simp only [wn] at kN467
          have kN470 := kN470 n (by omega)
          try simp only [wn] at kN470
          simp only [W, reduceIte, Nat.reduceEqDiff, Nat.reduceAdd, Nat.reduceSub, Nat.reduceLT, Nat.reduceLeDiff, Nat.reduceMul, a79, kN461, c482d, kN464, c481d, kN467, c480d, kN470, c479d]
      · rw [if_neg c480] at h
        have c480d := bf c480
        cases h
        refine ev_call (fn := a79) rfl ⟨N461 + N464 + N467, fun n hn => ?_⟩
        have kN461 := kN461 n (by omega)
        try simp only [wn] at kN461
        have kN464 := kN464 n (by omega)
        try simp only [wn] at kN464
        have kN467 := kN467 n (by omega)
        try simp only [wn] at kN467
        simp only [W, reduceIte, Nat.reduceEqDiff, Nat.reduceAdd, Nat.reduceSub, Nat.reduceLT, Nat.reduceLeDiff, Nat.reduceMul, a79, kN461, c482d, kN464, c481d, kN467, c480d]
  · rw [if_neg c482] at h
    have c482d := bf c482
    cases h
    refine ev_call (fn := a79) rfl ⟨N461, fun n hn => ?_⟩
    have kN461 := kN461 n (by omega)
    try simp only [wn] at kN461
    simp only [W, reduceIte, Nat.reduceEqDiff, Nat.reduceAdd, Nat.reduceSub, Nat.reduceLT, Nat.reduceLeDiff, Nat.reduceMul, a79, kN461, c482d]
noncomputable def h19l1_0 (z0 : Bool) (z1 : Bool) (v445 : List WaterNode) (v446 : List WaterConduit) : (Int × (List ByteArray)) → Env × Heap
  | (v444, v447) => ([(1, .ptr 2 0), (4, .slice 3 0 v447.length v447.length 1 false), (7, .int .i64 v444)], [.row z0 true (rowC v445), .row z1 true (rowC v446), .row true false [.slice 0 0 v445.length v445.length 4 false, .slice 1 0 v446.length v446.length 6 false], .row true true (rowC v447)])
noncomputable def q19l1_0 (z0 : Bool) (z1 : Bool) (v445 : List WaterNode) (v446 : List WaterConduit) : ((Unit) ⊕ (Int × Int)) → AExit × Env × Heap
  | .inl (_) => (.exit 2, [(2, .undef), (3, .undef)], [.row z0 true (rowC v445), .row z1 true (rowC v446)])
  | .inr (r490, r491) => (.ret, [(2, .int .i64 r490), (3, .int .i64 r491)], [.row z0 true (rowC v445), .row z1 true (rowC v446)])
theorem k19l1_0 (z0 : Bool) (z1 : Bool) (v445 : List WaterNode) (v446 : List WaterConduit) (s : Int × (List ByteArray)) (o : (Unit) ⊕ (Int × Int)) (h : L19l1_0 v445 v446 s = some o) : Ev fun n => loopAt [1, 4, 7] [2, 3] a19l1b (ex tab n) 2 (h19l1_0 z0 z1 v445 v446 s) = some (q19l1_0 z0 z1 v445 v446 o) := by
  refine iter_sound (S19l1_0 v445 v446) [1, 4, 7] [2, 3] a19l1b 2 (h19l1_0 z0 z1 v445 v446) (q19l1_0 z0 z1 v445 v446) ?_ _ _ _ h
  rintro ⟨v444, v447⟩ z h
  simp only [S19l1_0] at h
  by_cases c489 : (v446.length : Int) ≤ v444
  · rw [if_pos c489] at h
    have c489d := dt c489
    cases h
    refine ⟨0, fun n hn => ?_⟩
    simp only [W, reduceIte, Nat.reduceEqDiff, Nat.reduceAdd, Nat.reduceSub, Nat.reduceLT, Nat.reduceLeDiff, Nat.reduceMul, h19l1_0, q19l1_0, a19l1b, rc_WaterConduit, c489d, wd]
  · rw [if_neg c489] at h
    have c489d := df c489
    obtain ⟨j448, x449, g450, h⟩ := un2 h
    obtain ⟨g4501, g4502⟩ := geti_in g450
    have g4503 := ac_WaterConduit g4502
    try simp only [wn] at g4501
    obtain ⟨r486, g484, h⟩ := un1 h
    obtain ⟨N485, kN485⟩ := c79_0 z0 z1 true x449.fName x449.fFrom x449.fTo x449.fResist x449.fValve x449.fOpen v445 v446 v447 _ g484
    by_cases c488 : r486 = 0
    · rw [if_pos c488] at h
      have c488d := dt c488
      obtain ⟨g487, h⟩ := un_roomd h
      cases h
      refine ⟨N485, fun n hn => ?_⟩
      have kN485 := kN485 n (by omega)
      try simp only [wn, rc_WaterConduit] at kN485
      simp only [W, reduceIte, Nat.reduceEqDiff, Nat.reduceAdd, Nat.reduceSub, Nat.reduceLT, Nat.reduceLeDiff, Nat.reduceMul, h19l1_0, q19l1_0, a19l1b, rc_WaterConduit, c489d, g4501, g4503, kN485, c488d, g487, wd]
    · rw [if_neg c488] at h
      have c488d := df c488
      cases h
      refine ⟨N485, fun n hn => ?_⟩
      have kN485 := kN485 n (by omega)
      try simp only [wn, rc_WaterConduit] at kN485
      simp only [W, reduceIte, Nat.reduceEqDiff, Nat.reduceAdd, Nat.reduceSub, Nat.reduceLT, Nat.reduceLeDiff, Nat.reduceMul, h19l1_0, q19l1_0, a19l1b, rc_WaterConduit, c489d, g4501, g4503, kN485, c488d, wd]
theorem c19_0 (z0 : Bool) (z1 : Bool) (v348 : List WaterNode) (v349 : List WaterConduit) (r502 : Int) (r503 : Int) (h : F19_0 v348 v349 = some (r502, r503)) : Ev fun n => (ex tab n).call 19 [.agg [.slice 0 0 v348.length v348.length 4 false, .slice 1 0 v349.length v349.length 6 false]] [.row z0 true (rowC v348), .row z1 true (rowC v349)] = some (.tup [.int .i64 r502, .int .i64 r503], [.row z0 true (rowC v348), .row z1 true (rowC v349)]) := by
  unfold F19_0 at h
  by_cases c501 : (v348.length : Int) = 0
  · rw [if_pos c501] at h
    have c501d := dt c501
    cases h
    refine ev_call (fn := a19) rfl ⟨0, fun n hn => ?_⟩
    simp only [W, reduceIte, Nat.reduceEqDiff, Nat.reduceAdd, Nat.reduceSub, Nat.reduceLT, Nat.reduceLeDiff, Nat.reduceMul, a19, a19l0, a19l1, rc_WaterConduit, rc_WaterNode, c501d, @x_loopAt]
  · rw [if_neg c501] at h
    have c501d := df c501
    by_cases c500 : (v349.length : Int) = 0
    · rw [if_pos c500] at h
      have c500d := dt c500
      cases h
      refine ev_call (fn := a19) rfl ⟨0, fun n hn => ?_⟩
      simp only [W, reduceIte, Nat.reduceEqDiff, Nat.reduceAdd, Nat.reduceSub, Nat.reduceLT, Nat.reduceLeDiff, Nat.reduceMul, a19, a19l0, a19l1, rc_WaterConduit, rc_WaterNode, c501d, c500d, @x_loopAt]
    · rw [if_neg c500] at h
      have c500d := df c500
      by_cases c499 : (v348.length : Int) ≤ 10
      · rw [if_pos c499] at h
        have c499d := dt c499
        by_cases c498 : (v349.length : Int) ≤ 14
        · rw [if_pos c498] at h
          have c498d := dt c498
          obtain ⟨g442_, g442, h⟩ := un1 h
          rcases g442_ with _ | ⟨r496, r497⟩
          · dsimp only at h
            have kN443 := k19l0_0 z0 z1 v348 v349 (0, ([] : List ByteArray)) _ g442
            obtain ⟨N443, kN443⟩ := kN443
            obtain ⟨g492_, g492, h⟩ := un1 h
            rcases g492_ with _ | ⟨r494, r495⟩
            · dsimp only at h
              have kN493 := k19l1_0 z0 z1 v348 v349 (0, ([] : List ByteArray)) _ g492
              obtain ⟨N493, kN493⟩ := kN493
              cases h
              refine ev_call (fn := a19) rfl ⟨N443 + N493, fun n hn => ?_⟩
              have kN443 := kN443 n (by omega)
              simp only [h19l0_0, q19l0_0, wn, rc_WaterNode] at kN443
              have kN493 := kN493 n (by omega)
              simp only [h19l1_0, q19l1_0, wn, rc_WaterConduit, rc_WaterNode] at kN493
              simp only [W, reduceIte, Nat.reduceEqDiff, Nat.reduceAdd, Nat.reduceSub, Nat.reduceLT, Nat.reduceLeDiff, Nat.reduceMul, a19, a19l0, a19l1, rc_WaterConduit, rc_WaterNode, c501d, c500d, c499d, c498d, kN443, kN493, @x_loopAt]
            · dsimp only at h
              have kN493 := k19l1_0 z0 z1 v348 v349 (0, ([] : List ByteArray)) _ g492
              obtain ⟨N493, kN493⟩ := kN493
              cases h
              refine ev_call (fn := a19) rfl ⟨N443 + N493, fun n hn => ?_⟩
              have kN443 := kN443 n (by omega)
              simp only [h19l0_0, q19l0_0, wn, rc_WaterNode] at kN443
              have kN493 := kN493 n (by omega)
              simp only [h19l1_0, q19l1_0, wn, rc_WaterConduit, rc_WaterNode] at kN493
              simp only [W, reduceIte, Nat.reduceEqDiff, Nat.reduceAdd, Nat.reduceSub, Nat.reduceLT, Nat.reduceLeDiff, Nat.reduceMul, a19, a19l0, a19l1, rc_WaterConduit, rc_WaterNode, c501d, c500d, c499d, c498d, kN443, kN493, @x_loopAt]
          · dsimp only at h
            have kN443 := k19l0_0 z0 z1 v348 v349 (0, ([] : List ByteArray)) _ g442
            obtain ⟨N443, kN443⟩ := kN443
            cases h
            refine ev_call (fn := a19) rfl ⟨N443, fun n hn => ?_⟩
            have kN443 := kN443 n (by omega)
            simp only [h19l0_0, q19l0_0, wn, rc_WaterConduit, rc_WaterNode] at kN443
            simp only [W, reduceIte, Nat.reduceEqDiff, Nat.reduceAdd, Nat.reduceSub, Nat.reduceLT, Nat.reduceLeDiff, Nat.reduceMul, a19, a19l0, a19l1, rc_WaterConduit, rc_WaterNode, c501d, c500d, c499d, c498d, kN443, @x_loopAt]
        · rw [if_neg c498] at h
          have c498d := df c498
          cases h
          refine ev_call (fn := a19) rfl ⟨0, fun n hn => ?_⟩
          simp only [W, reduceIte, Nat.reduceEqDiff, Nat.reduceAdd, Nat.reduceSub, Nat.reduceLT, Nat.reduceLeDiff, Nat.reduceMul, a19, a19l0, a19l1, rc_WaterConduit, rc_WaterNode, c501d, c500d, c499d, c498d, @x_loopAt]
      · rw [if_neg c499] at h
        have c499d := df c499
        cases h
        refine ev_call (fn := a19) rfl ⟨0, fun n hn => ?_⟩
        simp only [W, reduceIte, Nat.reduceEqDiff, Nat.reduceAdd, Nat.reduceSub, Nat.reduceLT, Nat.reduceLeDiff, Nat.reduceMul, a19, a19l0, a19l1, rc_WaterConduit, rc_WaterNode, c501d, c500d, c499d, @x_loopAt]
theorem c21_0 (v511 : Int) (r516 : Int) (h : F21_0 v511 = some r516) : Ev fun n => (ex tab n).call 21 [.int .i64 v511] [] = some (.int .i64 r516, []) := by
  unfold F21_0 at h
  obtain ⟨r514, g512, h⟩ := un1 h
  obtain ⟨N513, kN513⟩ := c20_0 v511 (-200000) 200000 _ g512
  by_cases c515 : r514 = true
  · rw [if_pos c515] at h
    have c515d := c515
    cases h
    refine ev_call (fn := a21) rfl ⟨N513, fun n hn => ?_⟩
    have kN513 := kN513 n (by omega)
    try simp only [wn] at kN513
    simp only [W, reduceIte, Nat.reduceEqDiff, Nat.reduceAdd, Nat.reduceSub, Nat.reduceLT, Nat.reduceLeDiff, Nat.reduceMul, a21, kN513, c515d]
  · rw [if_neg c515] at h
    have c515d := bf c515
    cases h
    refine ev_call (fn := a21) rfl ⟨N513, fun n hn => ?_⟩
    have kN513 := kN513 n (by omega)
    try simp only [wn] at kN513
    simp only [W, reduceIte, Nat.reduceEqDiff, Nat.reduceAdd, Nat.reduceSub, Nat.reduceLT, Nat.reduceLeDiff, Nat.reduceMul, a21, kN513, c515d]
theorem c41_0 (v522 : Int) (r523 : Int) (h : F41_0 v522 = some r523) : Ev fun n => (ex tab n).call 41 [.int .i64 v522] [] = some (.int .i64 r523, []) := by
  unfold F41_0 at h
  cases h
  refine ev_call (fn := a41) rfl ⟨0, fun n hn => ?_⟩
  simp only [W, reduceIte, Nat.reduceEqDiff, Nat.reduceAdd, Nat.reduceSub, Nat.reduceLT, Nat.reduceLeDiff, Nat.reduceMul, a41]
theorem c22_0 (v520 : Int) (v521 : Int) (r527 : Int) (h : F22_0 v520 v521 = some r527) : Ev fun n => (ex tab n).call 22 [.int .i64 v520, .int .i64 v521] [] = some (.int .i64 r527, []) := by
  unfold F22_0 at h
  obtain ⟨r526, g524, h⟩ := un1 h
  obtain ⟨N525, kN525⟩ := c41_0 v521 _ g524
  cases h
  refine ev_call (fn := a22) rfl ⟨N525, fun n hn => ?_⟩
  have kN525 := kN525 n (by omega)
  try simp only [wn] at kN525
  simp only [W, reduceIte, Nat.reduceEqDiff, Nat.reduceAdd, Nat.reduceSub, Nat.reduceLT, Nat.reduceLeDiff, Nat.reduceMul, a22, kN525]
theorem c3_0 (z0 : Bool) (z1 : Bool) (v1 : Int) (v2 : Int) (v3 : List WaterNode) (v4 : List WaterConduit) (r539 : Bool) (h : F3_0 v1 v2 v3 v4 = some r539) : Ev fun n => (ex tab n).call 3 [.agg [.slice 0 0 v3.length v3.length 4 false, .slice 1 0 v4.length v4.length 6 false], .int .i64 v1, .int .i64 v2] [.row z0 true (rowC v3), .row z1 true (rowC v4)] = some (.bool r539, [.row z0 true (rowC v3), .row z1 true (rowC v4)]) := by
  unfold F3_0 at h
  obtain ⟨N5, kN5⟩ := awake_ev
  obtain ⟨r33, g31, h⟩ := un1 h
  obtain ⟨N32, kN32⟩ := c15_0 z0 z1 v3 v4 _ g31
  by_cases c538 : r33 = true
  · rw [if_pos c538] at h
    have c538d := c538
    obtain ⟨_, g38, h⟩ := un1 h
    obtain ⟨N39, kN39⟩ := c17_0 z0 z1 v3 v4 g38
    obtain ⟨r324, r325, g322, h⟩ := un2 h
    obtain ⟨N323, kN323⟩ := c16_0 true true v3 v4 _ _ g322
    obtain ⟨r346, r347, g344, h⟩ := un2 h
    obtain ⟨N345, kN345⟩ := c18_0 v1 v2 _ _ g344
    obtain ⟨r506, r507, g504, h⟩ := un2 h
    obtain ⟨N505, kN505⟩ := c19_0 z0 z1 v3 v4 _ _ g504
    by_cases c537 : r325 = r507
    · rw [if_pos c537] at h
      have c537d := dt c537
      by_cases c536 : r324 = r506
      · rw [if_pos c536] at h
        have c536d := dt c536
        obtain ⟨r510, g508, h⟩ := un1 h
        obtain ⟨N509, kN509⟩ := c20_0 v1 0 1000 _ g508
        by_cases c535 : r510 = true
        · rw [if_pos c535] at h
          have c535d := c535
          obtain ⟨r519, g517, h⟩ := un1 h
          obtain ⟨N518, kN518⟩ := c21_0 v2 _ g517
          by_cases c533 : r519 = 0
          · rw [if_pos c533] at h
            have c533d := dt c533
            by_cases c531 : r347 = 0
            · rw [if_pos c531] at h
              have c531d := dt c531
              obtain ⟨r530, g528, h⟩ := un1 h
              obtain ⟨N529, kN529⟩ := c22_0 v1 v2 _ g528
              cases h
              refine ev_call (fn := a3) rfl ⟨N5 + N32 + N39 + N323 + N345 + N505 + N509 + N518 + N529, fun n hn => ?_⟩
              have kN5 := kN5 n (by omega)
              have kN32 := kN32 n (by omega)
              try simp only [wn] at kN32
              have kN39 := kN39 n (by omega)
              try simp only [wn] at kN39
              have kN323 := kN323 n (by omega)
              try simp only [wn] at kN323
              have kN345 := kN345 n (by omega)
              try simp only [wn] at kN345
              have kN505 := kN505 n (by omega)
              try simp only [wn] at kN505
              have kN509 := kN509 n (by omega)
              try simp only [wn] at kN509
              have kN518 := kN518 n (by omega)
              try simp only [wn] at kN518
              have kN529 := kN529 n (by omega)
              try simp only [wn] at kN529
              simp only [W, reduceIte, Nat.reduceEqDiff, Nat.reduceAdd, Nat.reduceSub, Nat.reduceLT, Nat.reduceLeDiff, Nat.reduceMul, a3, kN5, kN32, c538d, kN39, kN323, kN345, kN505, c537d, c536d, kN509, c535d, kN518, c533d, c531d, kN529]
            · rw [if_neg c531] at h
              have c531d := df c531
              cases h
              refine ev_call (fn := a3) rfl ⟨N5 + N32 + N39 + N323 + N345 + N505 + N509 + N518, fun n hn => ?_⟩
              have kN5 := kN5 n (by omega)
              have kN32 := kN32 n (by omega)
              try simp only [wn] at kN32
              have kN39 := kN39 n (by omega)
              try simp only [wn] at kN39
              have kN323 := kN323 n (by omega)
              try simp only [wn] at kN323
              have kN345 := kN345 n (by omega)
              try simp only [wn] at kN345
              have kN505 := kN505 n (by omega)
              try simp only [wn] at kN505
              have kN509 := kN509 n (by omega)
              try simp only [wn] at kN509
              have kN518 := kN518 n (by omega)
              try simp only [wn] at kN518
              simp only [W, reduceIte, Nat.reduceEqDiff, Nat.reduceAdd, Nat.reduceSub, Nat.reduceLT, Nat.reduceLeDiff, Nat.reduceMul, a3, kN5, kN32, c538d, kN39, kN323, kN345, kN505, c537d, c536d, kN509, c535d, kN518, c533d, c531d]
          · rw [if_neg c533] at h
            have c533d := df c533
            by_cases c532 : r347 = 2
            · rw [if_pos c532] at h
              have c532d := dt c532
              cases h
              refine ev_call (fn := a3) rfl ⟨N5 + N32 + N39 + N323 + N345 + N505 + N509 + N518, fun n hn => ?_⟩
              have kN5 := kN5 n (by omega)
              have kN32 := kN32 n (by omega)
              try simp only [wn] at kN32
              have kN39 := kN39 n (by omega)
              try simp only [wn] at kN39
              have kN323 := kN323 n (by omega)
              try simp only [wn] at kN323
              have kN345 := kN345 n (by omega)
              try simp only [wn] at kN345
              have kN505 := kN505 n (by omega)
              try simp only [wn] at kN505
              have kN509 := kN509 n (by omega)
              try simp only [wn] at kN509
              have kN518 := kN518 n (by omega)
              try simp only [wn] at kN518
              simp only [W, reduceIte, Nat.reduceEqDiff, Nat.reduceAdd, Nat.reduceSub, Nat.reduceLT, Nat.reduceLeDiff, Nat.reduceMul, a3, kN5, kN32, c538d, kN39, kN323, kN345, kN505, c537d, c536d, kN509, c535d, kN518, c533d, c532d]
            · rw [if_neg c532] at h
              have c532d := df c532
              cases h
              refine ev_call (fn := a3) rfl ⟨N5 + N32 + N39 + N323 + N345 + N505 + N509 + N518, fun n hn => ?_⟩
              have kN5 := kN5 n (by omega)
              have kN32 := kN32 n (by omega)
              try simp only [wn] at kN32
              have kN39 := kN39 n (by omega)
              try simp only [wn] at kN39
              have kN323 := kN323 n (by omega)
              try simp only [wn] at kN323
              have kN345 := kN345 n (by omega)
              try simp only [wn] at kN345
              have kN505 := kN505 n (by omega)
              try simp only [wn] at kN505
              have kN509 := kN509 n (by omega)
              try simp only [wn] at kN509
              have kN518 := kN518 n (by omega)
              try simp only [wn] at kN518
              simp only [W, reduceIte, Nat.reduceEqDiff, Nat.reduceAdd, Nat.reduceSub, Nat.reduceLT, Nat.reduceLeDiff, Nat.reduceMul, a3, kN5, kN32, c538d, kN39, kN323, kN345, kN505, c537d, c536d, kN509, c535d, kN518, c533d, c532d]
        · rw [if_neg c535] at h
          have c535d := bf c535
          by_cases c534 : r347 = 2
          · rw [if_pos c534] at h
            have c534d := dt c534
            cases h
            refine ev_call (fn := a3) rfl ⟨N5 + N32 + N39 + N323 + N345 + N505 + N509, fun n hn => ?_⟩
            have kN5 := kN5 n (by omega)
            have kN32 := kN32 n (by omega)
            try simp only [wn] at kN32
            have kN39 := kN39 n (by omega)
            try simp only [wn] at kN39
            have kN323 := kN323 n (by omega)
            try simp only [wn] at kN323
            have kN345 := kN345 n (by omega)
            try simp only [wn] at kN345
            have kN505 := kN505 n (by omega)
            try simp only [wn] at kN505
            have kN509 := kN509 n (by omega)
            try simp only [wn] at kN509
            simp only [W, reduceIte, Nat.reduceEqDiff, Nat.reduceAdd, Nat.reduceSub, Nat.reduceLT, Nat.reduceLeDiff, Nat.reduceMul, a3, kN5, kN32, c538d, kN39, kN323, kN345, kN505, c537d, c536d, kN509, c535d, c534d]
          · rw [if_neg c534] at h
            have c534d := df c534
            cases h
            refine ev_call (fn := a3) rfl ⟨N5 + N32 + N39 + N323 + N345 + N505 + N509, fun n hn => ?_⟩
            have kN5 := kN5 n (by omega)
            have kN32 := kN32 n (by omega)
            try simp only [wn] at kN32
            have kN39 := kN39 n (by omega)
            try simp only [wn] at kN39
            have kN323 := kN323 n (by omega)
            try simp only [wn] at kN323
            have kN345 := kN345 n (by omega)
            try simp only [wn] at kN345
            have kN505 := kN505 n (by omega)
            try simp only [wn] at kN505
            have kN509 := kN509 n (by omega)
            try simp only [wn] at kN509
            simp only [W, reduceIte, Nat.reduceEqDiff, Nat.reduceAdd, Nat.reduceSub, Nat.reduceLT, Nat.reduceLeDiff, Nat.reduceMul, a3, kN5, kN32, c538d, kN39, kN323, kN345, kN505, c537d, c536d, kN509, c535d, c534d]
      · rw [if_neg c536] at h
        have c536d := df c536
        cases h
        refine ev_call (fn := a3) rfl ⟨N5 + N32 + N39 + N323 + N345 + N505, fun n hn => ?_⟩
        have kN5 := kN5 n (by omega)
        have kN32 := kN32 n (by omega)
        try simp only [wn] at kN32
        have kN39 := kN39 n (by omega)
        try simp only [wn] at kN39
        have kN323 := kN323 n (by omega)
        try simp only [wn] at kN323
        have kN345 := kN345 n (by omega)
        try simp only [wn] at kN345
        have kN505 := kN505 n (by omega)
        try simp only [wn] at kN505
        simp only [W, reduceIte, Nat.reduceEqDiff, Nat.reduceAdd, Nat.reduceSub, Nat.reduceLT, Nat.reduceLeDiff, Nat.reduceMul, a3, kN5, kN32, c538d, kN39, kN323, kN345, kN505, c537d, c536d]
    · rw [if_neg c537] at h
      have c537d := df c537
      cases h
      refine ev_call (fn := a3) rfl ⟨N5 + N32 + N39 + N323 + N345 + N505, fun n hn => ?_⟩
      have kN5 := kN5 n (by omega)
      have kN32 := kN32 n (by omega)
      try simp only [wn] at kN32
      have kN39 := kN39 n (by omega)
      try simp only [wn] at kN39
      have kN323 := kN323 n (by omega)
      try simp only [wn] at kN323
      have kN345 := kN345 n (by omega)
      try simp only [wn] at kN345
      have kN505 := kN505 n (by omega)
      try simp only [wn] at kN505
      simp only [W, reduceIte, Nat.reduceEqDiff, Nat.reduceAdd, Nat.reduceSub, Nat.reduceLT, Nat.reduceLeDiff, Nat.reduceMul, a3, kN5, kN32, c538d, kN39, kN323, kN345, kN505, c537d]
  · rw [if_neg c538] at h
    have c538d := bf c538
    cases h
    refine ev_call (fn := a3) rfl ⟨N5 + N32, fun n hn => ?_⟩
    have kN5 := kN5 n (by omega)
    have kN32 := kN32 n (by omega)
    try simp only [wn] at kN32
    simp only [W, reduceIte, Nat.reduceEqDiff, Nat.reduceAdd, Nat.reduceSub, Nat.reduceLT, Nat.reduceLeDiff, Nat.reduceMul, a3, kN5, kN32, c538d]
theorem c44_0 (v551 : Int) (r556 : Int) (h : F44_0 v551 = some r556) : Ev fun n => (ex tab n).call 44 [.int .i64 v551] [] = some (.int .i64 r556, []) := by
  unfold F44_0 at h
  obtain ⟨r554, g552, h⟩ := un1 h
  obtain ⟨N553, kN553⟩ := c20_0 v551 1 1000 _ g552
  by_cases c555 : r554 = true
  · rw [if_pos c555] at h
    have c555d := c555
    cases h
    refine ev_call (fn := a44) rfl ⟨N553, fun n hn => ?_⟩
    have kN553 := kN553 n (by omega)
    try simp only [wn] at kN553
    simp only [W, reduceIte, Nat.reduceEqDiff, Nat.reduceAdd, Nat.reduceSub, Nat.reduceLT, Nat.reduceLeDiff, Nat.reduceMul, a44, kN553, c555d]
  · rw [if_neg c555] at h
    have c555d := bf c555
    cases h
    refine ev_call (fn := a44) rfl ⟨N553, fun n hn => ?_⟩
    have kN553 := kN553 n (by omega)
    try simp only [wn] at kN553
    simp only [W, reduceIte, Nat.reduceEqDiff, Nat.reduceAdd, Nat.reduceSub, Nat.reduceLT, Nat.reduceLeDiff, Nat.reduceMul, a44, kN553, c555d]
end Go.AI
