import Derived.Test.YtcghmpalmedkiaaGreatKAiY
import Derived.Test.YtcghmpalmedkiaaGreatKAiTab
import Derived.Test.YtcghmpalmedkiaaGreatKAiAwake
import Derived.Test.YtcghmpalmedkiaaGreatKWnF
import Derived.Test.YtcghmpalmedkiaaGreatKWn2
section
/-
  Functions, walked through: dispatch.work).volumes, dispatch.openPlan, dispatch.work).given, dispatch.ReserveOf, dispatch.PromisedIn, guidevanebase.Within.
-/
set_option linter.unusedVariables false
set_option linter.unusedSimpArgs false
set_option maxRecDepth 100000
set_option maxHeartbeats 4000000
namespace Go.AI
noncomputable def h121l0_0 (z0 : Bool) (z1 : Bool) (z2 : Bool) (v526 : Int) (v528 : List DispatchMode) (v529 : List DispatchHour) (v530 : List Int) (v531 : Int) (v532 : Int) (v533 : Int) (v534 : Int) (v535 : Int) : (Int × (List Int)) → Env × Heap
  | (v527, v536) => ([(2, .ptr (.p 3) 0), (6, .slice (.p 4) 0 v536.length v536.length 1 false), (14, .slice (.p 2) 0 v530.length v530.length 1 false), (15, .int .i64 v526), (16, .int .i64 v527)], [.row z0 true (rowC v528), .row z1 true (rowC v529), .row z2 true (rowC v530), .row true false [.int .i64 v531, .int .i64 v532, .slice (.p 0) 0 v528.length v528.length 4 false, .int .i64 v533, .int .i64 v534, .int .i64 v535, .slice (.p 1) 0 v529.length v529.length 3 false], .row true true (rowC v536)])
noncomputable def q121l0_0 (z0 : Bool) (z1 : Bool) (z2 : Bool) (v526 : Int) (v528 : List DispatchMode) (v529 : List DispatchHour) (v530 : List Int) (v531 : Int) (v532 : Int) (v533 : Int) (v534 : Int) (v535 : Int) : (((List Int)) ⊕ ((List Int))) → AExit × Env × Heap
  | .inl (r581) => (.exit 0, [(4, .undef), (5, .undef), (6, .slice (.p 3) 0 r581.length r581.length 1 false)], [.row z0 true (rowC v528), .row z1 true (rowC v529), .row z2 true (rowC v530), .row true true (rowC r581)])
  | .inr (r582) => (.ret, [(4, .slice (.p 3) 0 0 0 1 false), (5, .bool false), (6, .slice (.p 4) 0 r582.length r582.length 1 false)], [.row z0 true (rowC v528), .row z1 true (rowC v529), .row z2 true (rowC v530), .row true true [], .row true true (rowC r582)])
theorem k121l0_0 (z0 : Bool) (z1 : Bool) (z2 : Bool) (v526 : Int) (v528 : List DispatchMode) (v529 : List DispatchHour) (v530 : List Int) (v531 : Int) (v532 : Int) (v533 : Int) (v534 : Int) (v535 : Int) (s : Int × (List Int)) (o : ((List Int)) ⊕ ((List Int))) (h : L121l0_0 v526 v528 v529 v530 v531 v532 v533 v534 v535 s = some o) : Ev fun n => loopAt [2, 6, 14, 15, 16] [4, 5, 6] a121l0b (ex tab n) 3 (h121l0_0 z0 z1 z2 v526 v528 v529 v530 v531 v532 v533 v534 v535 s) = some (q121l0_0 z0 z1 z2 v526 v528 v529 v530 v531 v532 v533 v534 v535 o) := by
  refine iter_sound (S121l0_0 v526 v528 v529 v530 v531 v532 v533 v534 v535) [2, 6, 14, 15, 16] [4, 5, 6] a121l0b 3 (h121l0_0 z0 z1 z2 v526 v528 v529 v530 v531 v532 v533 v534 v535) (q121l0_0 z0 z1 z2 v526 v528 v529 v530 v531 v532 v533 v534 v535) ?_ _ _ _ h
  rintro ⟨v527, v536⟩ z h
  simp only [S121l0_0] at h
  by_cases c537 : v526 ≤ v527
  · rw [if_pos c537] at h
    have c537d := dt c537
    cases h
    refine ⟨0, fun n hn => ?_⟩
    simp (maxSteps := 2000000) only [W, reduceIte, Nat.reduceEqDiff, Nat.reduceAdd, Nat.reduceSub, Nat.reduceLT, Nat.reduceLeDiff, Nat.reduceMul, h121l0_0, q121l0_0, a121l0b, c537d, wd]
  · rw [if_neg c537] at h
    have c537d := df c537
    obtain ⟨j538, x539, g540, h⟩ := un2 h
    obtain ⟨g5401, g5402⟩ := geti_in g540
    have g5403 := ac_Int g5402
    try simp only [wn] at g5401
    obtain ⟨j541, x542, g543, h⟩ := un2 h
    obtain ⟨g5431, g5432⟩ := geti_in g543
    have g5433 := ac_Int g5432
    try simp only [wn] at g5431
    obtain ⟨r563, g561, h⟩ := un1 h
    obtain ⟨N562, kN562⟩ := c122_0 z0 z1 v531 v532 v533 v534 v535 x542 v527 x539 v528 v529 _ g561
    obtain ⟨r578, g576, h⟩ := un1 h
    obtain ⟨N577, kN577⟩ := c123_0 z0 z1 v531 v532 v533 v534 v535 r563 v528 v529 _ g576
    by_cases c579 : r578 = true
    · rw [if_pos c579] at h
      have c579d := c579
      obtain ⟨g580, h⟩ := un_roomd h
      cases h
      refine ⟨N562 + N577, fun n hn => ?_⟩
      have kN562 := kN562 n (by omega)
      try simp (maxSteps := 2000000) only [wn] at kN562
      have kN577 := kN577 n (by omega)
      try simp (maxSteps := 2000000) only [wn] at kN577
      simp (maxSteps := 2000000) only [W, reduceIte, Nat.reduceEqDiff, Nat.reduceAdd, Nat.reduceSub, Nat.reduceLT, Nat.reduceLeDiff, Nat.reduceMul, h121l0_0, q121l0_0, a121l0b, c537d, g5401, g5403, g5431, g5433, kN562, kN577, c579d, g580, wd]
    · rw [if_neg c579] at h
      have c579d := bf c579
      cases h
      refine ⟨N562 + N577, fun n hn => ?_⟩
      have kN562 := kN562 n (by omega)
      try simp (maxSteps := 2000000) only [wn] at kN562
      have kN577 := kN577 n (by omega)
      try simp (maxSteps := 2000000) only [wn] at kN577
      simp (maxSteps := 2000000) only [W, reduceIte, Nat.reduceEqDiff, Nat.reduceAdd, Nat.reduceSub, Nat.reduceLT, Nat.reduceLeDiff, Nat.reduceMul, h121l0_0, q121l0_0, a121l0b, c537d, g5401, g5403, g5431, g5433, kN562, kN577, c579d, wd]
theorem c121_0 (z0 : Bool) (z1 : Bool) (z2 : Bool) (v518 : Int) (v519 : Int) (v520 : Int) (v521 : Int) (v522 : Int) (v523 : List DispatchMode) (v524 : List DispatchHour) (v525 : List Int) (r587 : Bool) (r588 : List Int) (h : F121_0 v518 v519 v520 v521 v522 v523 v524 v525 = some (r587, r588)) : Ev fun n => (ex tab n).call 121 [.agg [.int .i64 v518, .int .i64 v519, .slice (.p 0) 0 v523.length v523.length 4 false, .int .i64 v520, .int .i64 v521, .int .i64 v522, .slice (.p 1) 0 v524.length v524.length 3 false], .slice (.p 2) 0 v525.length v525.length 1 false] [.row z0 true (rowC v523), .row z1 true (rowC v524), .row z2 true (rowC v525)] = some (.tup [.slice (.p 3) 0 r588.length r588.length 1 false, .bool r587], [.row z0 true (rowC v523), .row z1 true (rowC v524), .row z2 true (rowC v525), .row true true (rowC r588)]) := by
  unfold F121_0 at h
  obtain ⟨g583_, g583, h⟩ := un1 h
  rcases g583_ with r585 | r586
  · dsimp only at h
    have kN584 := k121l0_0 z0 z1 z2 (v525.length : Int) v523 v524 v525 v518 v519 v520 v521 v522 (0, ([v520] : List Int)) _ g583
    obtain ⟨N584, kN584⟩ := kN584
    cases h
    refine ev_call (fn := a121) rfl ⟨N584, fun n hn => ?_⟩
    have kN584 := kN584 n (by omega)
    simp (maxSteps := 2000000) only [h121l0_0, q121l0_0, wn] at kN584
    simp (maxSteps := 2000000) only [W, reduceIte, Nat.reduceEqDiff, Nat.reduceAdd, Nat.reduceSub, Nat.reduceLT, Nat.reduceLeDiff, Nat.reduceMul, a121, a121l0, kN584, @x_loopAt]
  · dsimp only at h
    have kN584 := k121l0_0 z0 z1 z2 (v525.length : Int) v523 v524 v525 v518 v519 v520 v521 v522 (0, ([v520] : List Int)) _ g583
    obtain ⟨N584, kN584⟩ := kN584
    cases h
    refine ev_call (fn := a121) rfl ⟨N584, fun n hn => ?_⟩
    have kN584 := kN584 n (by omega)
    simp (maxSteps := 2000000) only [h121l0_0, q121l0_0, wn] at kN584
    simp (maxSteps := 2000000) only [W, reduceIte, Nat.reduceEqDiff, Nat.reduceAdd, Nat.reduceSub, Nat.reduceLT, Nat.reduceLeDiff, Nat.reduceMul, a121, a121l0, kN584, @x_loopAt]
theorem c68_0 (z0 : Bool) (z1 : Bool) (z2 : Bool) (v71 : Int) (v72 : Int) (v73 : Int) (v74 : Int) (v75 : Int) (v76 : List DispatchMode) (v77 : List DispatchHour) (v78 : List Int) (r596 : Int) (r597 : List Int) (h : F68_0 v71 v72 v73 v74 v75 v76 v77 v78 = some (r596, r597)) : Ev fun n => (ex tab n).call 68 [.agg [.int .i64 v71, .int .i64 v72, .slice (.p 0) 0 v76.length v76.length 4 false], .agg [.int .i64 v73, .int .i64 v74, .int .i64 v75, .slice (.p 1) 0 v77.length v77.length 3 false], .slice (.p 2) 0 v78.length v78.length 1 false] [.row z0 true (rowC v76), .row z1 true (rowC v77), .row z2 true (rowC v78)] = some (.tup [.agg [.int .i64 v71, .int .i64 v72, .slice (.p 0) 0 v76.length v76.length 4 false, .int .i64 v73, .int .i64 v74, .int .i64 v75, .slice (.p 1) 0 v77.length v77.length 3 false], .slice (.p 3) 0 r597.length r597.length 1 false, .int .i64 r596], [.row z0 true (rowC v76), .row z1 true (rowC v77), .row z2 true (rowC v78), .row true true (rowC r597)]) := by
  unfold F68_0 at h
  obtain ⟨r437, g435, h⟩ := un1 h
  obtain ⟨N436, kN436⟩ := c74_0 z0 z1 v71 v72 v73 v74 v75 v76 v77 _ g435
  obtain ⟨r507, g505, h⟩ := un1 h
  obtain ⟨N506, kN506⟩ := c99_0 z2 true z0 z1 v78 v71 v72 v73 v74 v75 v76 v77 _ g505
  obtain ⟨r510, g508, h⟩ := un1 h
  obtain ⟨N509, kN509⟩ := c70_0 (decide ((v78.length : Int) = (v77.length : Int))) 10 _ g508
  obtain ⟨r513, g511, h⟩ := un1 h
  obtain ⟨N512, kN512⟩ := c70_0 (!r507) 6 _ g511
  obtain ⟨r516, g514, h⟩ := un1 h
  obtain ⟨N515, kN515⟩ := c69_0 true ([r437, r510, r513] : List Int) _ g514
  by_cases c517 : r516 = 0
  · rw [if_pos c517] at h
    have c517d := dt c517
    obtain ⟨r591, r592, g589, h⟩ := un2 h
    obtain ⟨N590, kN590⟩ := c121_0 z0 z1 z2 v71 v72 v73 v74 v75 v76 v77 v78 _ _ g589
    obtain ⟨r595, g593, h⟩ := un1 h
    obtain ⟨N594, kN594⟩ := c70_0 r591 22 _ g593
    cases h
    refine ev_call (fn := a68) rfl ⟨N436 + N506 + N509 + N512 + N515 + N590 + N594, fun n hn => ?_⟩
    have kN436 := kN436 n (by omega)
    try simp (maxSteps := 2000000) only [wn, rc_DispatchHour, rc_DispatchMode] at kN436
    have kN506 := kN506 n (by omega)
    try simp (maxSteps := 2000000) only [wn, rc_DispatchHour, rc_DispatchMode] at kN506
    have kN509 := kN509 n (by omega)
    try simp (maxSteps := 2000000) only [wn, rc_DispatchHour, rc_DispatchMode] at kN509
    have kN512 := kN512 n (by omega)
    try simp (maxSteps := 2000000) only [wn, rc_DispatchHour, rc_DispatchMode] at kN512
    have kN515 := kN515 n (by omega)
    try simp (maxSteps := 2000000) only [wn, rc_DispatchHour, rc_DispatchMode] at kN515
    have kN590 := kN590 n (by omega)
    try simp (maxSteps := 2000000) only [wn, rc_DispatchHour, rc_DispatchMode] at kN590
    have kN594 := kN594 n (by omega)
    try simp (maxSteps := 2000000) only [wn, rc_DispatchHour, rc_DispatchMode] at kN594
    simp (maxSteps := 2000000) only [W, reduceIte, Nat.reduceEqDiff, Nat.reduceAdd, Nat.reduceSub, Nat.reduceLT, Nat.reduceLeDiff, Nat.reduceMul, a68, rc_DispatchHour, rc_DispatchMode, kN436, kN506, kN509, kN512, kN515, c517d, kN590, kN594, wd]
  · rw [if_neg c517] at h
    have c517d := df c517
    cases h
    refine ev_call (fn := a68) rfl ⟨N436 + N506 + N509 + N512 + N515, fun n hn => ?_⟩
    have kN436 := kN436 n (by omega)
    try simp (maxSteps := 2000000) only [wn, rc_DispatchHour, rc_DispatchMode] at kN436
    have kN506 := kN506 n (by omega)
    try simp (maxSteps := 2000000) only [wn, rc_DispatchHour, rc_DispatchMode] at kN506
    have kN509 := kN509 n (by omega)
    try simp (maxSteps := 2000000) only [wn, rc_DispatchHour, rc_DispatchMode] at kN509
    have kN512 := kN512 n (by omega)
    try simp (maxSteps := 2000000) only [wn, rc_DispatchHour, rc_DispatchMode] at kN512
    have kN515 := kN515 n (by omega)
    try simp (maxSteps := 2000000) only [wn, rc_DispatchHour, rc_DispatchMode] at kN515
    simp (maxSteps := 2000000) only [W, reduceIte, Nat.reduceEqDiff, Nat.reduceAdd, Nat.reduceSub, Nat.reduceLT, Nat.reduceLeDiff, Nat.reduceMul, a68, rc_DispatchHour, rc_DispatchMode, kN436, kN506, kN509, kN512, kN515, c517d, wd]
noncomputable def h72l0_0 (z0 : Bool) (z1 : Bool) (v640 : Int) (v641 : Int) (v643 : List DispatchMode) (v644 : List DispatchHour) (v645 : Int) (v646 : Int) (v647 : Int) (v648 : Int) (v649 : Int) : (Int × Int) → Env × Heap
  | (v639, v642) => ([(1, .int .i64 v639), (2, .int .i64 v640), (3, .int .i64 v641), (4, .ptr (.p 2) 0), (9, .int .i64 v642)], [.row z0 true (rowC v643), .row z1 true (rowC v644), .row true false [.int .i64 v645, .int .i64 v646, .slice (.p 0) 0 v643.length v643.length 4 false, .int .i64 v647, .int .i64 v648, .int .i64 v649, .slice (.p 1) 0 v644.length v644.length 3 false]])
noncomputable def q72l0_0 (z0 : Bool) (z1 : Bool) (v640 : Int) (v641 : Int) (v643 : List DispatchMode) (v644 : List DispatchHour) (v645 : Int) (v646 : Int) (v647 : Int) (v648 : Int) (v649 : Int) : (Int) → AExit × Env × Heap
  | r658 => (.exit 0, [(8, .undef), (9, .int .i64 r658)], [.row z0 true (rowC v643), .row z1 true (rowC v644)])
theorem k72l0_0 (z0 : Bool) (z1 : Bool) (v640 : Int) (v641 : Int) (v643 : List DispatchMode) (v644 : List DispatchHour) (v645 : Int) (v646 : Int) (v647 : Int) (v648 : Int) (v649 : Int) (s : Int × Int) (o : Int) (h : L72l0_0 v640 v641 v643 v644 v645 v646 v647 v648 v649 s = some o) : Ev fun n => loopAt [1, 2, 3, 4, 9] [8, 9] a72l0b (ex tab n) 2 (h72l0_0 z0 z1 v640 v641 v643 v644 v645 v646 v647 v648 v649 s) = some (q72l0_0 z0 z1 v640 v641 v643 v644 v645 v646 v647 v648 v649 o) := by
  refine iter_sound (S72l0_0 v640 v641 v643 v644 v645 v646 v647 v648 v649) [1, 2, 3, 4, 9] [8, 9] a72l0b 2 (h72l0_0 z0 z1 v640 v641 v643 v644 v645 v646 v647 v648 v649) (q72l0_0 z0 z1 v640 v641 v643 v644 v645 v646 v647 v648 v649) ?_ _ _ _ h
  rintro ⟨v639, v642⟩ z h
  simp only [S72l0_0] at h
  by_cases c650 : (v644.length : Int) ≤ (aw .i64 (v640 + v642))
  · rw [if_pos c650] at h
    have c650d := dt c650
    cases h
    refine ⟨0, fun n hn => ?_⟩
    simp (maxSteps := 2000000) only [W, reduceIte, Nat.reduceEqDiff, Nat.reduceAdd, Nat.reduceSub, Nat.reduceLT, Nat.reduceLeDiff, Nat.reduceMul, h72l0_0, q72l0_0, a72l0b, c650d]
  · rw [if_neg c650] at h
    have c650d := df c650
    obtain ⟨r653, g651, h⟩ := un1 h
    obtain ⟨N652, kN652⟩ := c122_0 z0 z1 v645 v646 v647 v648 v649 v639 (aw .i64 (v640 + v642)) v641 v643 v644 _ g651
    obtain ⟨r656, g654, h⟩ := un1 h
    obtain ⟨N655, kN655⟩ := c123_0 z0 z1 v645 v646 v647 v648 v649 r653 v643 v644 _ g654
    by_cases c657 : r656 = true
    · rw [if_pos c657] at h
      have c657d := c657
      cases h
      refine ⟨N652 + N655, fun n hn => ?_⟩
      have kN652 := kN652 n (by omega)
      try simp (maxSteps := 2000000) only [wn] at kN652
      have kN655 := kN655 n (by omega)
      try simp (maxSteps := 2000000) only [wn] at kN655
      simp (maxSteps := 2000000) only [W, reduceIte, Nat.reduceEqDiff, Nat.reduceAdd, Nat.reduceSub, Nat.reduceLT, Nat.reduceLeDiff, Nat.reduceMul, h72l0_0, q72l0_0, a72l0b, c650d, kN652, kN655, c657d]
    · rw [if_neg c657] at h
      have c657d := bf c657
      cases h
      refine ⟨N652 + N655, fun n hn => ?_⟩
      have kN652 := kN652 n (by omega)
      try simp (maxSteps := 2000000) only [wn] at kN652
      have kN655 := kN655 n (by omega)
      try simp (maxSteps := 2000000) only [wn] at kN655
      simp (maxSteps := 2000000) only [W, reduceIte, Nat.reduceEqDiff, Nat.reduceAdd, Nat.reduceSub, Nat.reduceLT, Nat.reduceLeDiff, Nat.reduceMul, h72l0_0, q72l0_0, a72l0b, c650d, kN652, kN655, c657d]
theorem c72_0 (z0 : Bool) (z1 : Bool) (v629 : Int) (v630 : Int) (v631 : Int) (v632 : Int) (v633 : Int) (v634 : Int) (v635 : Int) (v636 : Int) (v637 : List DispatchMode) (v638 : List DispatchHour) (r662 : Int) (h : F72_0 v629 v630 v631 v632 v633 v634 v635 v636 v637 v638 = some r662) : Ev fun n => (ex tab n).call 72 [.agg [.int .i64 v629, .int .i64 v630, .slice (.p 0) 0 v637.length v637.length 4 false, .int .i64 v631, .int .i64 v632, .int .i64 v633, .slice (.p 1) 0 v638.length v638.length 3 false], .int .i64 v634, .int .i64 v635, .int .i64 v636] [.row z0 true (rowC v637), .row z1 true (rowC v638)] = some (.int .i64 r662, [.row z0 true (rowC v637), .row z1 true (rowC v638)]) := by
  unfold F72_0 at h
  obtain ⟨r661, g659, h⟩ := un1 h
  have kN660 := k72l0_0 z0 z1 v635 v636 v637 v638 v629 v630 v631 v632 v633 (v634, 0) _ g659
  obtain ⟨N660, kN660⟩ := kN660
  cases h
  refine ev_call (fn := a72) rfl ⟨N660, fun n hn => ?_⟩
  have kN660 := kN660 n (by omega)
  simp (maxSteps := 2000000) only [h72l0_0, q72l0_0, wn] at kN660
  simp (maxSteps := 2000000) only [W, reduceIte, Nat.reduceEqDiff, Nat.reduceAdd, Nat.reduceSub, Nat.reduceLT, Nat.reduceLeDiff, Nat.reduceMul, a72, a72l0, kN660, @x_loopAt]
noncomputable def h15l0_0 (z0 : Bool) (z1 : Bool) (z2 : Bool) (v612 : Int) (v614 : List DispatchMode) (v615 : List DispatchHour) (v616 : List Int) (v617 : Int) (v618 : Int) (v619 : Int) (v620 : Int) (v621 : Int) (v622 : Int) (v623 : List Int) : (Int × (List Int)) → Env × Heap
  | (v613, v624) => ([(5, .ptr (.p 3) 0), (8, .ptr (.p 4) 0), (9, .slice (.p 5) 0 v623.length v623.length 1 false), (11, .slice (.p 6) 0 v624.length v624.length 1 false), (35, .int .i64 v612), (36, .int .i64 v613)], [.row z0 true (rowC v614), .row z1 true (rowC v615), .row z2 true (rowC v616), .row true false [.slice (.p 2) 0 v616.length v616.length 1 false, .int .i64 v617], .row true false [.int .i64 v618, .int .i64 v619, .slice (.p 0) 0 v614.length v614.length 4 false, .int .i64 v620, .int .i64 v621, .int .i64 v622, .slice (.p 1) 0 v615.length v615.length 3 false], .row true true (rowC v623), .row true true (rowC v624)])
noncomputable def q15l0_0 (z0 : Bool) (z1 : Bool) (z2 : Bool) (v612 : Int) (v614 : List DispatchMode) (v615 : List DispatchHour) (v616 : List Int) (v617 : Int) (v618 : Int) (v619 : Int) (v620 : Int) (v621 : Int) (v622 : Int) (v623 : List Int) : ((List Int)) → AExit × Env × Heap
  | r667 => (.exit 0, [(6, .undef), (7, .undef), (11, .slice (.p 3) 0 r667.length r667.length 1 false)], [.row z0 true (rowC v614), .row z1 true (rowC v615), .row z2 true (rowC v616), .row true true (rowC r667)])
theorem k15l0_0 (z0 : Bool) (z1 : Bool) (z2 : Bool) (v612 : Int) (v614 : List DispatchMode) (v615 : List DispatchHour) (v616 : List Int) (v617 : Int) (v618 : Int) (v619 : Int) (v620 : Int) (v621 : Int) (v622 : Int) (v623 : List Int) (s : Int × (List Int)) (o : (List Int)) (h : L15l0_0 v612 v614 v615 v616 v617 v618 v619 v620 v621 v622 v623 s = some o) : Ev fun n => loopAt [5, 8, 9, 11, 35, 36] [6, 7, 11] a15l0b (ex tab n) 3 (h15l0_0 z0 z1 z2 v612 v614 v615 v616 v617 v618 v619 v620 v621 v622 v623 s) = some (q15l0_0 z0 z1 z2 v612 v614 v615 v616 v617 v618 v619 v620 v621 v622 v623 o) := by
  refine iter_sound (S15l0_0 v612 v614 v615 v616 v617 v618 v619 v620 v621 v622 v623) [5, 8, 9, 11, 35, 36] [6, 7, 11] a15l0b 3 (h15l0_0 z0 z1 z2 v612 v614 v615 v616 v617 v618 v619 v620 v621 v622 v623) (q15l0_0 z0 z1 z2 v612 v614 v615 v616 v617 v618 v619 v620 v621 v622 v623) ?_ _ _ _ h
  rintro ⟨v613, v624⟩ z h
  simp only [S15l0_0] at h
  by_cases c625 : v612 ≤ v613
  · rw [if_pos c625] at h
    have c625d := dt c625
    cases h
    refine ⟨0, fun n hn => ?_⟩
    simp (maxSteps := 2000000) only [W, reduceIte, Nat.reduceEqDiff, Nat.reduceAdd, Nat.reduceSub, Nat.reduceLT, Nat.reduceLeDiff, Nat.reduceMul, h15l0_0, q15l0_0, a15l0b, c625d, wd]
  · rw [if_neg c625] at h
    have c625d := df c625
    obtain ⟨j626, x627, g628, h⟩ := un2 h
    obtain ⟨g6281, g6282⟩ := geti_in g628
    have g6283 := ac_Int g6282
    try simp only [wn] at g6281
    obtain ⟨r665, g663, h⟩ := un1 h
    obtain ⟨N664, kN664⟩ := c72_0 z0 z1 v618 v619 v620 v621 v622 x627 v613 v617 v614 v615 _ g663
    obtain ⟨g666, h⟩ := un_roomd h
    cases h
    refine ⟨N664, fun n hn => ?_⟩
    have kN664 := kN664 n (by omega)
    try simp (maxSteps := 2000000) only [wn] at kN664
    simp (maxSteps := 2000000) only [W, reduceIte, Nat.reduceEqDiff, Nat.reduceAdd, Nat.reduceSub, Nat.reduceLT, Nat.reduceLeDiff, Nat.reduceMul, h15l0_0, q15l0_0, a15l0b, c625d, g6281, g6283, kN664, g666, wd]
theorem c15_0 (z0 : Bool) (z1 : Bool) (z2 : Bool) (v62 : Int) (v63 : Int) (v64 : Int) (v65 : Int) (v66 : Int) (v67 : Int) (v68 : List DispatchMode) (v69 : List DispatchHour) (v70 : List Int) (r671 : Int) (r672 : List Int) (h : F15_0 v62 v63 v64 v65 v66 v67 v68 v69 v70 = some (r671, r672)) : Ev fun n => (ex tab n).call 15 [.agg [.int .i64 v62, .int .i64 v63, .slice (.p 0) 0 v68.length v68.length 4 false], .agg [.int .i64 v64, .int .i64 v65, .int .i64 v66, .slice (.p 1) 0 v69.length v69.length 3 false], .agg [.slice (.p 2) 0 v70.length v70.length 1 false, .int .i64 v67]] [.row z0 true (rowC v68), .row z1 true (rowC v69), .row z2 true (rowC v70)] = some (.tup [.slice (.p 3) 0 r672.length r672.length 1 false, .int .i64 r671], [.row z0 true (rowC v68), .row z1 true (rowC v69), .row z2 true (rowC v70), .row true true (rowC r672)]) := by
  unfold F15_0 at h
  obtain ⟨r600, r601, g598, h⟩ := un2 h
  obtain ⟨N599, kN599⟩ := c68_0 z0 z1 z2 v62 v63 v64 v65 v66 v68 v69 v70 _ _ g598
  obtain ⟨r604, g602, h⟩ := un1 h
  obtain ⟨N603, kN603⟩ := c71_0 z0 z1 v62 v63 v64 v65 v66 v67 v68 v69 _ g602
  obtain ⟨r607, g605, h⟩ := un1 h
  obtain ⟨N606, kN606⟩ := c70_0 r604 6 _ g605
  obtain ⟨r610, g608, h⟩ := un1 h
  obtain ⟨N609, kN609⟩ := c69_0 true ([r600, r607] : List Int) _ g608
  by_cases c611 : r610 = 0
  · rw [if_pos c611] at h
    have c611d := dt c611
    obtain ⟨r670, g668, h⟩ := un1 h
    have kN669 := k15l0_0 z0 z1 z2 (v69.length : Int) v68 v69 v70 v67 v62 v63 v64 v65 v66 r601 (0, ([] : List Int)) _ g668
    obtain ⟨N669, kN669⟩ := kN669
    cases h
    refine ev_call (fn := a15) rfl ⟨N599 + N603 + N606 + N609 + N669, fun n hn => ?_⟩
    have kN599 := kN599 n (by omega)
    try simp (maxSteps := 2000000) only [wn] at kN599
    have kN603 := kN603 n (by omega)
    try simp (maxSteps := 2000000) only [wn, rc_DispatchHour, rc_DispatchMode] at kN603
    have kN606 := kN606 n (by omega)
    try simp (maxSteps := 2000000) only [wn, rc_DispatchHour, rc_DispatchMode] at kN606
    have kN609 := kN609 n (by omega)
    try simp (maxSteps := 2000000) only [wn, rc_DispatchHour, rc_DispatchMode] at kN609
    have kN669 := kN669 n (by omega)
    simp (maxSteps := 2000000) only [h15l0_0, q15l0_0, wn, rc_DispatchHour, rc_DispatchMode] at kN669
    simp (maxSteps := 2000000) only [W, reduceIte, Nat.reduceEqDiff, Nat.reduceAdd, Nat.reduceSub, Nat.reduceLT, Nat.reduceLeDiff, Nat.reduceMul, a15, a15l0, rc_DispatchHour, rc_DispatchMode, kN599, kN603, kN606, kN609, c611d, kN669, @x_loopAt]
  · rw [if_neg c611] at h
    have c611d := df c611
    cases h
    refine ev_call (fn := a15) rfl ⟨N599 + N603 + N606 + N609, fun n hn => ?_⟩
    have kN599 := kN599 n (by omega)
    try simp (maxSteps := 2000000) only [wn] at kN599
    have kN603 := kN603 n (by omega)
    try simp (maxSteps := 2000000) only [wn, rc_DispatchHour, rc_DispatchMode] at kN603
    have kN606 := kN606 n (by omega)
    try simp (maxSteps := 2000000) only [wn, rc_DispatchHour, rc_DispatchMode] at kN606
    have kN609 := kN609 n (by omega)
    try simp (maxSteps := 2000000) only [wn, rc_DispatchHour, rc_DispatchMode] at kN609
    simp (maxSteps := 2000000) only [W, reduceIte, Nat.reduceEqDiff, Nat.reduceAdd, Nat.reduceSub, Nat.reduceLT, Nat.reduceLeDiff, Nat.reduceMul, a15, a15l0, rc_DispatchHour, rc_DispatchMode, kN599, kN603, kN606, kN609, c611d, @x_loopAt]
noncomputable def h19l0_0 (z0 : Bool) (z1 : Bool) (z2 : Bool) (v698 : Int) (v700 : List DispatchMode) (v701 : List DispatchHour) (v702 : List Int) (v703 : List Int) : (Int × Int) → Env × Heap
  | (v697, v699) => ([(8, .slice (.p 3) 0 v703.length v703.length 1 false), (10, .int .i64 v697), (23, .slice (.p 3) 0 v703.length v703.length 1 false), (24, .int .i64 v698), (25, .int .i64 v699)], [.row z0 true (rowC v700), .row z1 true (rowC v701), .row z2 true (rowC v702), .row true true (rowC v703)])
noncomputable def q19l0_0 (z0 : Bool) (z1 : Bool) (z2 : Bool) (v698 : Int) (v700 : List DispatchMode) (v701 : List DispatchHour) (v702 : List Int) (v703 : List Int) : (Int) → AExit × Env × Heap
  | r709 => (.exit 0, [(6, .undef), (7, .undef), (10, .int .i64 r709)], [.row z0 true (rowC v700), .row z1 true (rowC v701), .row z2 true (rowC v702)])
theorem k19l0_0 (z0 : Bool) (z1 : Bool) (z2 : Bool) (v698 : Int) (v700 : List DispatchMode) (v701 : List DispatchHour) (v702 : List Int) (v703 : List Int) (s : Int × Int) (o : Int) (h : L19l0_0 v698 v700 v701 v702 v703 s = some o) : Ev fun n => loopAt [8, 10, 23, 24, 25] [6, 7, 10] a19l0b (ex tab n) 3 (h19l0_0 z0 z1 z2 v698 v700 v701 v702 v703 s) = some (q19l0_0 z0 z1 z2 v698 v700 v701 v702 v703 o) := by
  refine iter_sound (S19l0_0 v698 v700 v701 v702 v703) [8, 10, 23, 24, 25] [6, 7, 10] a19l0b 3 (h19l0_0 z0 z1 z2 v698 v700 v701 v702 v703) (q19l0_0 z0 z1 z2 v698 v700 v701 v702 v703) ?_ _ _ _ h
  rintro ⟨v697, v699⟩ z h
  simp only [S19l0_0] at h
  by_cases c704 : v698 ≤ v699
  · rw [if_pos c704] at h
    have c704d := dt c704
    cases h
    refine ⟨0, fun n hn => ?_⟩
    simp (maxSteps := 2000000) only [W, reduceIte, Nat.reduceEqDiff, Nat.reduceAdd, Nat.reduceSub, Nat.reduceLT, Nat.reduceLeDiff, Nat.reduceMul, h19l0_0, q19l0_0, a19l0b, c704d]
  · rw [if_neg c704] at h
    have c704d := df c704
    obtain ⟨j705, x706, g707, h⟩ := un2 h
    obtain ⟨g7071, g7072⟩ := geti_in g707
    have g7073 := ac_Int g7072
    try simp only [wn] at g7071
    by_cases c708 : (aw .i64 ((v703.length : Int) - v699)) ≤ x706
    · rw [if_pos c708] at h
      have c708d := dt c708
      cases h
      refine ⟨0, fun n hn => ?_⟩
      simp (maxSteps := 2000000) only [W, reduceIte, Nat.reduceEqDiff, Nat.reduceAdd, Nat.reduceSub, Nat.reduceLT, Nat.reduceLeDiff, Nat.reduceMul, h19l0_0, q19l0_0, a19l0b, c704d, g7071, g7073, c708d]
    · rw [if_neg c708] at h
      have c708d := df c708
      cases h
      refine ⟨0, fun n hn => ?_⟩
      simp (maxSteps := 2000000) only [W, reduceIte, Nat.reduceEqDiff, Nat.reduceAdd, Nat.reduceSub, Nat.reduceLT, Nat.reduceLeDiff, Nat.reduceMul, h19l0_0, q19l0_0, a19l0b, c704d, g7071, g7073, c708d]
theorem c19_0 (z0 : Bool) (z1 : Bool) (z2 : Bool) (v683 : Int) (v684 : Int) (v685 : Int) (v686 : Int) (v687 : Int) (v688 : Int) (v689 : List DispatchMode) (v690 : List DispatchHour) (v691 : List Int) (r713 : Int) (r714 : Int) (h : F19_0 v683 v684 v685 v686 v687 v688 v689 v690 v691 = some (r713, r714)) : Ev fun n => (ex tab n).call 19 [.agg [.int .i64 v683, .int .i64 v684, .slice (.p 0) 0 v689.length v689.length 4 false], .agg [.int .i64 v685, .int .i64 v686, .int .i64 v687, .slice (.p 1) 0 v690.length v690.length 3 false], .agg [.slice (.p 2) 0 v691.length v691.length 1 false, .int .i64 v688]] [.row z0 true (rowC v689), .row z1 true (rowC v690), .row z2 true (rowC v691)] = some (.tup [.int .i64 r713, .int .i64 r714], [.row z0 true (rowC v689), .row z1 true (rowC v690), .row z2 true (rowC v691)]) := by
  unfold F19_0 at h
  obtain ⟨r694, r695, g692, h⟩ := un2 h
  obtain ⟨N693, kN693⟩ := c15_0 z0 z1 z2 v683 v684 v685 v686 v687 v688 v689 v690 v691 _ _ g692
  by_cases c696 : r694 = 0
  · rw [if_pos c696] at h
    have c696d := dt c696
    obtain ⟨r712, g710, h⟩ := un1 h
    have kN711 := k19l0_0 z0 z1 z2 (r695.length : Int) v689 v690 v691 r695 (10, 0) _ g710
    obtain ⟨N711, kN711⟩ := kN711
    cases h
    refine ev_call (fn := a19) rfl ⟨N693 + N711, fun n hn => ?_⟩
    have kN693 := kN693 n (by omega)
    try simp (maxSteps := 2000000) only [wn] at kN693
    have kN711 := kN711 n (by omega)
    simp (maxSteps := 2000000) only [h19l0_0, q19l0_0, wn] at kN711
    simp (maxSteps := 2000000) only [W, reduceIte, Nat.reduceEqDiff, Nat.reduceAdd, Nat.reduceSub, Nat.reduceLT, Nat.reduceLeDiff, Nat.reduceMul, a19, a19l0, kN693, c696d, kN711, @x_loopAt]
  · rw [if_neg c696] at h
    have c696d := df c696
    cases h
    refine ev_call (fn := a19) rfl ⟨N693, fun n hn => ?_⟩
    have kN693 := kN693 n (by omega)
    try simp (maxSteps := 2000000) only [wn] at kN693
    simp (maxSteps := 2000000) only [W, reduceIte, Nat.reduceEqDiff, Nat.reduceAdd, Nat.reduceSub, Nat.reduceLT, Nat.reduceLeDiff, Nat.reduceMul, a19, a19l0, kN693, c696d, @x_loopAt]
theorem c27_0 (v739 : Int) (v740 : Int) (v741 : Int) (r743 : Bool) (h : F27_0 v739 v740 v741 = some r743) : Ev fun n => (ex tab n).call 27 [.int .i64 v739, .int .i64 v740, .int .i64 v741] [] = some (.bool r743, []) := by
  unfold F27_0 at h
  by_cases c742 : v740 ≤ v739
  · rw [if_pos c742] at h
    have c742d := dt c742
    cases h
    refine ev_call (fn := a27) rfl ⟨0, fun n hn => ?_⟩
    simp (maxSteps := 2000000) only [W, reduceIte, Nat.reduceEqDiff, Nat.reduceAdd, Nat.reduceSub, Nat.reduceLT, Nat.reduceLeDiff, Nat.reduceMul, a27, c742d]
  · rw [if_neg c742] at h
    have c742d := df c742
    cases h
    refine ev_call (fn := a27) rfl ⟨0, fun n hn => ?_⟩
    simp (maxSteps := 2000000) only [W, reduceIte, Nat.reduceEqDiff, Nat.reduceAdd, Nat.reduceSub, Nat.reduceLT, Nat.reduceLeDiff, Nat.reduceMul, a27, c742d]
end Go.AI
end
section
/-
  Functions, walked through: guidevanebase.IsName, guidevanebase.HasText, guidevaneref08.modeErr.
-/
set_option linter.unusedVariables false
set_option linter.unusedSimpArgs false
set_option maxRecDepth 100000
set_option maxHeartbeats 4000000
namespace Go.AI
noncomputable def h114l0_0 (v773 : ByteArray) : (Int) → Env × Heap
  | v774 => ([(0, .str v773), (3, .int .i64 v774)], [])
noncomputable def q114l0_0 (v773 : ByteArray) : ((Unit) ⊕ (Unit)) → AExit × Env × Heap
  | .inl (_) => (.exit 0, [(2, .undef)], [])
  | .inr (_) => (.ret, [(2, .bool false)], [])
theorem k114l0_0 (v773 : ByteArray) (s : Int) (o : (Unit) ⊕ (Unit)) (h : L114l0_0 v773 s = some o) : Ev fun n => loopAt [0, 3] [2] a114l0b (ex tab n) 0 (h114l0_0 v773 s) = some (q114l0_0 v773 o) := by
  refine iter_sound (S114l0_0 v773) [0, 3] [2] a114l0b 0 (h114l0_0 v773) (q114l0_0 v773) ?_ _ _ _ h
  rintro v774 z h
  simp only [S114l0_0] at h
  by_cases c775 : (v773.size : Int) ≤ v774
  · rw [if_pos c775] at h
    have c775d := dt c775
    cases h
    refine ⟨0, fun n hn => ?_⟩
    simp (maxSteps := 2000000) only [W, reduceIte, Nat.reduceEqDiff, Nat.reduceAdd, Nat.reduceSub, Nat.reduceLT, Nat.reduceLeDiff, Nat.reduceMul, h114l0_0, q114l0_0, a114l0b, c775d]
  · rw [if_neg c775] at h
    have c775d := df c775
    obtain ⟨j776, b777, g778, h⟩ := un2 h
    obtain ⟨g7781, g7782⟩ := geti_in g778
    try simp only [wn] at g7781
    by_cases c779 : 97 ≤ (b777.toNat : Int)
    · rw [if_pos c779] at h
      have c779d := dt c779
      by_cases c780 : (b777.toNat : Int) ≤ 122
      · rw [if_pos c780] at h
        have c780d := dt c780
        cases h
        refine ⟨0, fun n hn => ?_⟩
        simp (maxSteps := 2000000) only [W, reduceIte, Nat.reduceEqDiff, Nat.reduceAdd, Nat.reduceSub, Nat.reduceLT, Nat.reduceLeDiff, Nat.reduceMul, h114l0_0, q114l0_0, a114l0b, c775d, g7781, g7782, c779d, c780d]
      · rw [if_neg c780] at h
        have c780d := df c780
        by_cases c781 : 65 ≤ (b777.toNat : Int)
        · rw [if_pos c781] at h
          have c781d := dt c781
          by_cases c782 : (b777.toNat : Int) ≤ 90
          · rw [if_pos c782] at h
            have c782d := dt c782
            cases h
            refine ⟨0, fun n hn => ?_⟩
            simp (maxSteps := 2000000) only [W, reduceIte, Nat.reduceEqDiff, Nat.reduceAdd, Nat.reduceSub, Nat.reduceLT, Nat.reduceLeDiff, Nat.reduceMul, h114l0_0, q114l0_0, a114l0b, c775d, g7781, g7782, c779d, c780d, c781d, c782d]
          · rw [if_neg c782] at h
            have c782d := df c782
            by_cases c783 : v774 = 0
            · rw [if_pos c783] at h
              have c783d := dt c783
              cases h
              refine ⟨0, fun n hn => ?_⟩
              simp (maxSteps := 2000000) only [W, reduceIte, Nat.reduceEqDiff, Nat.reduceAdd, Nat.reduceSub, Nat.reduceLT, Nat.reduceLeDiff, Nat.reduceMul, h114l0_0, q114l0_0, a114l0b, c775d, g7781, g7782, c779d, c780d, c781d, c782d, c783d]
            · rw [if_neg c783] at h
              have c783d := df c783
              by_cases c784 : (b777.toNat : Int) = 45
              · rw [if_pos c784] at h
                have c784d := dt c784
                cases h
                refine ⟨0, fun n hn => ?_⟩
                simp (maxSteps := 2000000) only [W, reduceIte, Nat.reduceEqDiff, Nat.reduceAdd, Nat.reduceSub, Nat.reduceLT, Nat.reduceLeDiff, Nat.reduceMul, h114l0_0, q114l0_0, a114l0b, c775d, g7781, g7782, c779d, c780d, c781d, c782d, c783d, c784d]
              · rw [if_neg c784] at h
                have c784d := df c784
                by_cases c785 : 48 ≤ (b777.toNat : Int)
                · rw [if_pos c785] at h
                  have c785d := dt c785
                  by_cases c786 : (b777.toNat : Int) ≤ 57
                  · rw [if_pos c786] at h
                    have c786d := dt c786
                    cases h
                    refine ⟨0, fun n hn => ?_⟩
                    simp (maxSteps := 2000000) only [W, reduceIte, Nat.reduceEqDiff, Nat.reduceAdd, Nat.reduceSub, Nat.reduceLT, Nat.reduceLeDiff, Nat.reduceMul, h114l0_0, q114l0_0, a114l0b, c775d, g7781, g7782, c779d, c780d, c781d, c782d, c783d, c784d, c785d, c786d]
                  · rw [if_neg c786] at h
                    have c786d := df c786
                    cases h
                    refine ⟨0, fun n hn => ?_⟩
                    simp (maxSteps := 2000000) only [W, reduceIte, Nat.reduceEqDiff, Nat.reduceAdd, Nat.reduceSub, Nat.reduceLT, Nat.reduceLeDiff, Nat.reduceMul, h114l0_0, q114l0_0, a114l0b, c775d, g7781, g7782, c779d, c780d, c781d, c782d, c783d, c784d, c785d, c786d]
                · rw [if_neg c785] at h
                  have c785d := df c785
                  cases h
                  refine ⟨0, fun n hn => ?_⟩
                  simp (maxSteps := 2000000) only [W, reduceIte, Nat.reduceEqDiff, Nat.reduceAdd, Nat.reduceSub, Nat.reduceLT, Nat.reduceLeDiff, Nat.reduceMul, h114l0_0, q114l0_0, a114l0b, c775d, g7781, g7782, c779d, c780d, c781d, c782d, c783d, c784d, c785d]
        · rw [if_neg c781] at h
          have c781d := df c781
          by_cases c787 : v774 = 0
          · rw [if_pos c787] at h
            have c787d := dt c787
            cases h
            refine ⟨0, fun n hn => ?_⟩
            simp (maxSteps := 2000000) only [W, reduceIte, Nat.reduceEqDiff, Nat.reduceAdd, Nat.reduceSub, Nat.reduceLT, Nat.reduceLeDiff, Nat.reduceMul, h114l0_0, q114l0_0, a114l0b, c775d, g7781, g7782, c779d, c780d, c781d, c787d]
          · rw [if_neg c787] at h
            have c787d := df c787
            by_cases c788 : (b777.toNat : Int) = 45
            · rw [if_pos c788] at h
              have c788d := dt c788
              cases h
              refine ⟨0, fun n hn => ?_⟩
              simp (maxSteps := 2000000) only [W, reduceIte, Nat.reduceEqDiff, Nat.reduceAdd, Nat.reduceSub, Nat.reduceLT, Nat.reduceLeDiff, Nat.reduceMul, h114l0_0, q114l0_0, a114l0b, c775d, g7781, g7782, c779d, c780d, c781d, c787d, c788d]
            · rw [if_neg c788] at h
              have c788d := df c788
              by_cases c789 : 48 ≤ (b777.toNat : Int)
              · rw [if_pos c789] at h
                have c789d := dt c789
                by_cases c790 : (b777.toNat : Int) ≤ 57
                · rw [if_pos c790] at h
                  have c790d := dt c790
                  cases h
                  refine ⟨0, fun n hn => ?_⟩
                  simp (maxSteps := 2000000) only [W, reduceIte, Nat.reduceEqDiff, Nat.reduceAdd, Nat.reduceSub, Nat.reduceLT, Nat.reduceLeDiff, Nat.reduceMul, h114l0_0, q114l0_0, a114l0b, c775d, g7781, g7782, c779d, c780d, c781d, c787d, c788d, c789d, c790d]
                · rw [if_neg c790] at h
                  have c790d := df c790
                  cases h
                  refine ⟨0, fun n hn => ?_⟩
                  simp (maxSteps := 2000000) only [W, reduceIte, Nat.reduceEqDiff, Nat.reduceAdd, Nat.reduceSub, Nat.reduceLT, Nat.reduceLeDiff, Nat.reduceMul, h114l0_0, q114l0_0, a114l0b, c775d, g7781, g7782, c779d, c780d, c781d, c787d, c788d, c789d, c790d]
              · rw [if_neg c789] at h
                have c789d := df c789
                cases h
                refine ⟨0, fun n hn => ?_⟩
                simp (maxSteps := 2000000) only [W, reduceIte, Nat.reduceEqDiff, Nat.reduceAdd, Nat.reduceSub, Nat.reduceLT, Nat.reduceLeDiff, Nat.reduceMul, h114l0_0, q114l0_0, a114l0b, c775d, g7781, g7782, c779d, c780d, c781d, c787d, c788d, c789d]
    · rw [if_neg c779] at h
      have c779d := df c779
      by_cases c791 : 65 ≤ (b777.toNat : Int)
      · rw [if_pos c791] at h
        have c791d := dt c791
        by_cases c792 : (b777.toNat : Int) ≤ 90
        · rw [if_pos c792] at h
          have c792d := dt c792
          cases h
          refine ⟨0, fun n hn => ?_⟩
          simp (maxSteps := 2000000) only [W, reduceIte, Nat.reduceEqDiff, Nat.reduceAdd, Nat.reduceSub, Nat.reduceLT, Nat.reduceLeDiff, Nat.reduceMul, h114l0_0, q114l0_0, a114l0b, c775d, g7781, g7782, c779d, c791d, c792d]
        · rw [if_neg c792] at h
          have c792d := df c792
          by_cases c793 : v774 = 0
          · rw [if_pos c793] at h
            have c793d := dt c793
            cases h
            refine ⟨0, fun n hn => ?_⟩
            simp (maxSteps := 2000000) only [W, reduceIte, Nat.reduceEqDiff, Nat.reduceAdd, Nat.reduceSub, Nat.reduceLT, Nat.reduceLeDiff, Nat.reduceMul, h114l0_0, q114l0_0, a114l0b, c775d, g7781, g7782, c779d, c791d, c792d, c793d]
          · rw [if_neg c793] at h
            have c793d := df c793
            by_cases c794 : (b777.toNat : Int) = 45
            · rw [if_pos c794] at h
              have c794d := dt c794
              cases h
              refine ⟨0, fun n hn => ?_⟩
              simp (maxSteps := 2000000) only [W, reduceIte, Nat.reduceEqDiff, Nat.reduceAdd, Nat.reduceSub, Nat.reduceLT, Nat.reduceLeDiff, Nat.reduceMul, h114l0_0, q114l0_0, a114l0b, c775d, g7781, g7782, c779d, c791d, c792d, c793d, c794d]
            · rw [if_neg c794] at h
              have c794d := df c794
              by_cases c795 : 48 ≤ (b777.toNat : Int)
              · rw [if_pos c795] at h
                have c795d := dt c795
                by_cases c796 : (b777.toNat : Int) ≤ 57
                · rw [if_pos c796] at h
                  have c796d := dt c796
                  cases h
                  refine ⟨0, fun n hn => ?_⟩
                  simp (maxSteps := 2000000) only [W, reduceIte, Nat.reduceEqDiff, Nat.reduceAdd, Nat.reduceSub, Nat.reduceLT, Nat.reduceLeDiff, Nat.reduceMul, h114l0_0, q114l0_0, a114l0b, c775d, g7781, g7782, c779d, c791d, c792d, c793d, c794d, c795d, c796d]
                · rw [if_neg c796] at h
                  have c796d := df c796
                  cases h
                  refine ⟨0, fun n hn => ?_⟩
                  simp (maxSteps := 2000000) only [W, reduceIte, Nat.reduceEqDiff, Nat.reduceAdd, Nat.reduceSub, Nat.reduceLT, Nat.reduceLeDiff, Nat.reduceMul, h114l0_0, q114l0_0, a114l0b, c775d, g7781, g7782, c779d, c791d, c792d, c793d, c794d, c795d, c796d]
              · rw [if_neg c795] at h
                have c795d := df c795
                cases h
                refine ⟨0, fun n hn => ?_⟩
                simp (maxSteps := 2000000) only [W, reduceIte, Nat.reduceEqDiff, Nat.reduceAdd, Nat.reduceSub, Nat.reduceLT, Nat.reduceLeDiff, Nat.reduceMul, h114l0_0, q114l0_0, a114l0b, c775d, g7781, g7782, c779d, c791d, c792d, c793d, c794d, c795d]
      · rw [if_neg c791] at h
        have c791d := df c791
        by_cases c797 : v774 = 0
        · rw [if_pos c797] at h
          have c797d := dt c797
          cases h
          refine ⟨0, fun n hn => ?_⟩
          simp (maxSteps := 2000000) only [W, reduceIte, Nat.reduceEqDiff, Nat.reduceAdd, Nat.reduceSub, Nat.reduceLT, Nat.reduceLeDiff, Nat.reduceMul, h114l0_0, q114l0_0, a114l0b, c775d, g7781, g7782, c779d, c791d, c797d]
        · rw [if_neg c797] at h
          have c797d := df c797
          by_cases c798 : (b777.toNat : Int) = 45
          · rw [if_pos c798] at h
            have c798d := dt c798
            cases h
            refine ⟨0, fun n hn => ?_⟩
            simp (maxSteps := 2000000) only [W, reduceIte, Nat.reduceEqDiff, Nat.reduceAdd, Nat.reduceSub, Nat.reduceLT, Nat.reduceLeDiff, Nat.reduceMul, h114l0_0, q114l0_0, a114l0b, c775d, g7781, g7782, c779d, c791d, c797d, c798d]
          · rw [if_neg c798] at h
            have c798d := df c798
            by_cases c799 : 48 ≤ (b777.toNat : Int)
            · rw [if_pos c799] at h
              have c799d := dt c799
              by_cases c800 : (b777.toNat : Int) ≤ 57
              · rw [if_pos c800] at h
                have c800d := dt c800
                cases h
                refine ⟨0, fun n hn => ?_⟩
                simp (maxSteps := 2000000) only [W, reduceIte, Nat.reduceEqDiff, Nat.reduceAdd, Nat.reduceSub, Nat.reduceLT, Nat.reduceLeDiff, Nat.reduceMul, h114l0_0, q114l0_0, a114l0b, c775d, g7781, g7782, c779d, c791d, c797d, c798d, c799d, c800d]
              · rw [if_neg c800] at h
                have c800d := df c800
                cases h
                refine ⟨0, fun n hn => ?_⟩
                simp (maxSteps := 2000000) only [W, reduceIte, Nat.reduceEqDiff, Nat.reduceAdd, Nat.reduceSub, Nat.reduceLT, Nat.reduceLeDiff, Nat.reduceMul, h114l0_0, q114l0_0, a114l0b, c775d, g7781, g7782, c779d, c791d, c797d, c798d, c799d, c800d]
            · rw [if_neg c799] at h
              have c799d := df c799
              cases h
              refine ⟨0, fun n hn => ?_⟩
              simp (maxSteps := 2000000) only [W, reduceIte, Nat.reduceEqDiff, Nat.reduceAdd, Nat.reduceSub, Nat.reduceLT, Nat.reduceLeDiff, Nat.reduceMul, h114l0_0, q114l0_0, a114l0b, c775d, g7781, g7782, c779d, c791d, c797d, c798d, c799d]
theorem c114_0 (v770 : ByteArray) (r803 : Bool) (h : F114_0 v770 = some r803) : Ev fun n => (ex tab n).call 114 [.str v770] [] = some (.bool r803, []) := by
  unfold F114_0 at h
  by_cases c771 : 1 ≤ (v770.size : Int)
  · rw [if_pos c771] at h
    have c771d := dt c771
    by_cases c772 : (v770.size : Int) ≤ 12
    · rw [if_pos c772] at h
      have c772d := dt c772
      obtain ⟨g801_, g801, h⟩ := un1 h
      rcases g801_ with _ | _
      · dsimp only at h
        have kN802 := k114l0_0 v770 0 _ g801
        obtain ⟨N802, kN802⟩ := kN802
        cases h
        refine ev_call (fn := a114) rfl ⟨N802, fun n hn => ?_⟩
        have kN802 := kN802 n (by omega)
        simp (maxSteps := 2000000) only [h114l0_0, q114l0_0, wn] at kN802
        simp (maxSteps := 2000000) only [W, reduceIte, Nat.reduceEqDiff, Nat.reduceAdd, Nat.reduceSub, Nat.reduceLT, Nat.reduceLeDiff, Nat.reduceMul, a114, a114l0, c771d, c772d, kN802, @x_loopAt]
      · dsimp only at h
        have kN802 := k114l0_0 v770 0 _ g801
        obtain ⟨N802, kN802⟩ := kN802
        cases h
        refine ev_call (fn := a114) rfl ⟨N802, fun n hn => ?_⟩
        have kN802 := kN802 n (by omega)
        simp (maxSteps := 2000000) only [h114l0_0, q114l0_0, wn] at kN802
        simp (maxSteps := 2000000) only [W, reduceIte, Nat.reduceEqDiff, Nat.reduceAdd, Nat.reduceSub, Nat.reduceLT, Nat.reduceLeDiff, Nat.reduceMul, a114, a114l0, c771d, c772d, kN802, @x_loopAt]
    · rw [if_neg c772] at h
      have c772d := df c772
      cases h
      refine ev_call (fn := a114) rfl ⟨0, fun n hn => ?_⟩
      simp (maxSteps := 2000000) only [W, reduceIte, Nat.reduceEqDiff, Nat.reduceAdd, Nat.reduceSub, Nat.reduceLT, Nat.reduceLeDiff, Nat.reduceMul, a114, a114l0, c771d, c772d, @x_loopAt]
  · rw [if_neg c771] at h
    have c771d := df c771
    cases h
    refine ev_call (fn := a114) rfl ⟨0, fun n hn => ?_⟩
    simp (maxSteps := 2000000) only [W, reduceIte, Nat.reduceEqDiff, Nat.reduceAdd, Nat.reduceSub, Nat.reduceLT, Nat.reduceLeDiff, Nat.reduceMul, a114, a114l0, c771d, @x_loopAt]
noncomputable def h115l0_0 (z0 : Bool) (v810 : ByteArray) (v812 : List ByteArray) : (Int) → Env × Heap
  | v811 => ([(0, .slice (.p 0) 0 v812.length v812.length 1 false), (1, .str v810), (5, .int .i64 v811)], [.row z0 true (rowC v812)])
noncomputable def q115l0_0 (z0 : Bool) (v810 : ByteArray) (v812 : List ByteArray) : ((Unit) ⊕ (Unit)) → AExit × Env × Heap
  | .inl (_) => (.exit 0, [(4, .undef)], [.row z0 true (rowC v812)])
  | .inr (_) => (.ret, [(4, .bool true)], [.row z0 true (rowC v812)])
theorem k115l0_0 (z0 : Bool) (v810 : ByteArray) (v812 : List ByteArray) (s : Int) (o : (Unit) ⊕ (Unit)) (h : L115l0_0 v810 v812 s = some o) : Ev fun n => loopAt [0, 1, 5] [4] a115l0b (ex tab n) 1 (h115l0_0 z0 v810 v812 s) = some (q115l0_0 z0 v810 v812 o) := by
  refine iter_sound (S115l0_0 v810 v812) [0, 1, 5] [4] a115l0b 1 (h115l0_0 z0 v810 v812) (q115l0_0 z0 v810 v812) ?_ _ _ _ h
  rintro v811 z h
  simp only [S115l0_0] at h
  by_cases c813 : (v812.length : Int) ≤ v811
  · rw [if_pos c813] at h
    have c813d := dt c813
    cases h
    refine ⟨0, fun n hn => ?_⟩
    simp (maxSteps := 2000000) only [W, reduceIte, Nat.reduceEqDiff, Nat.reduceAdd, Nat.reduceSub, Nat.reduceLT, Nat.reduceLeDiff, Nat.reduceMul, h115l0_0, q115l0_0, a115l0b, c813d]
  · rw [if_neg c813] at h
    have c813d := df c813
    obtain ⟨j814, x815, g816, h⟩ := un2 h
    obtain ⟨g8161, g8162⟩ := geti_in g816
    have g8163 := ac_ByteArray g8162
    try simp only [wn] at g8161
    by_cases c817 : x815 = v810
    · rw [if_pos c817] at h
      have c817d := dt c817
      cases h
      refine ⟨0, fun n hn => ?_⟩
      simp (maxSteps := 2000000) only [W, reduceIte, Nat.reduceEqDiff, Nat.reduceAdd, Nat.reduceSub, Nat.reduceLT, Nat.reduceLeDiff, Nat.reduceMul, h115l0_0, q115l0_0, a115l0b, c813d, g8161, g8163, c817d]
    · rw [if_neg c817] at h
      have c817d := df c817
      cases h
      refine ⟨0, fun n hn => ?_⟩
      simp (maxSteps := 2000000) only [W, reduceIte, Nat.reduceEqDiff, Nat.reduceAdd, Nat.reduceSub, Nat.reduceLT, Nat.reduceLeDiff, Nat.reduceMul, h115l0_0, q115l0_0, a115l0b, c813d, g8161, g8163, c817d]
theorem c115_0 (z0 : Bool) (v808 : ByteArray) (v809 : List ByteArray) (r820 : Bool) (h : F115_0 v808 v809 = some r820) : Ev fun n => (ex tab n).call 115 [.slice (.p 0) 0 v809.length v809.length 1 false, .str v808] [.row z0 true (rowC v809)] = some (.bool r820, [.row z0 true (rowC v809)]) := by
  unfold F115_0 at h
  obtain ⟨g818_, g818, h⟩ := un1 h
  rcases g818_ with _ | _
  · dsimp only at h
    have kN819 := k115l0_0 z0 v808 v809 0 _ g818
    obtain ⟨N819, kN819⟩ := kN819
    cases h
    refine ev_call (fn := a115) rfl ⟨N819, fun n hn => ?_⟩
    have kN819 := kN819 n (by omega)
    simp (maxSteps := 2000000) only [h115l0_0, q115l0_0, wn] at kN819
    simp (maxSteps := 2000000) only [W, reduceIte, Nat.reduceEqDiff, Nat.reduceAdd, Nat.reduceSub, Nat.reduceLT, Nat.reduceLeDiff, Nat.reduceMul, a115, a115l0, kN819, @x_loopAt]
  · dsimp only at h
    have kN819 := k115l0_0 z0 v808 v809 0 _ g818
    obtain ⟨N819, kN819⟩ := kN819
    cases h
    refine ev_call (fn := a115) rfl ⟨N819, fun n hn => ?_⟩
    have kN819 := kN819 n (by omega)
    simp (maxSteps := 2000000) only [h115l0_0, q115l0_0, wn] at kN819
    simp (maxSteps := 2000000) only [W, reduceIte, Nat.reduceEqDiff, Nat.reduceAdd, Nat.reduceSub, Nat.reduceLT, Nat.reduceLeDiff, Nat.reduceMul, a115, a115l0, kN819, @x_loopAt]
theorem c85_0 (z0 : Bool) (v765 : ByteArray) (v766 : Int) (v767 : Int) (v768 : Int) (v769 : List ByteArray) (r837 : Int) (h : F85_0 v765 v766 v767 v768 v769 = some r837) : Ev fun n => (ex tab n).call 85 [.agg [.str v765, .int .i64 v766, .int .i64 v767, .int .i64 v768], .slice (.p 0) 0 v769.length v769.length 1 false] [.row z0 true (rowC v769)] = some (.int .i64 r837, [.row z0 true (rowC v769)]) := by
  unfold F85_0 at h
  obtain ⟨r806, g804, h⟩ := un1 h
  obtain ⟨N805, kN805⟩ := c114_0 v765 _ g804
  by_cases c807 : r806 = true
  · rw [if_pos c807] at h
    have c807d := c807
    obtain ⟨r823, g821, h⟩ := un1 h
    obtain ⟨N822, kN822⟩ := c115_0 z0 v765 v769 _ g821
    by_cases c824 : r823 = true
    · rw [if_pos c824] at h
      have c824d := c824
      cases h
      refine ev_call (fn := a85) rfl ⟨N805 + N822, fun n hn => ?_⟩
      have kN805 := kN805 n (by omega)
      try simp (maxSteps := 2000000) only [wn] at kN805
      have kN822 := kN822 n (by omega)
      try simp (maxSteps := 2000000) only [wn] at kN822
      simp (maxSteps := 2000000) only [W, reduceIte, Nat.reduceEqDiff, Nat.reduceAdd, Nat.reduceSub, Nat.reduceLT, Nat.reduceLeDiff, Nat.reduceMul, a85, kN805, c807d, kN822, c824d]
    · rw [if_neg c824] at h
      have c824d := bf c824
      obtain ⟨r827, g825, h⟩ := un1 h
      obtain ⟨N826, kN826⟩ := c27_0 v766 (-10000) 10000 _ g825
      by_cases c828 : r827 = true
      · rw [if_pos c828] at h
        have c828d := c828
        obtain ⟨r831, g829, h⟩ := un1 h
        obtain ⟨N830, kN830⟩ := c27_0 v767 (-10000) 10000 _ g829
        by_cases c832 : r831 = true
        · rw [if_pos c832] at h
          have c832d := c832
          obtain ⟨r835, g833, h⟩ := un1 h
          obtain ⟨N834, kN834⟩ := c27_0 v768 0 10000 _ g833
          by_cases c836 : r835 = true
          · rw [if_pos c836] at h
            have c836d := c836
            cases h
            refine ev_call (fn := a85) rfl ⟨N805 + N822 + N826 + N830 + N834, fun n hn => ?_⟩
            have kN805 := kN805 n (by omega)
            try simp (maxSteps := 2000000) only [wn] at kN805
            have kN822 := kN822 n (by omega)
            try simp (maxSteps := 2000000) only [wn] at kN822
            have kN826 := kN826 n (by omega)
            try simp (maxSteps := 2000000) only [wn] at kN826
            have kN830 := kN830 n (by omega)
            try simp (maxSteps := 2000000) only [wn] at kN830
            have kN834 := kN834 n (by omega)
            try simp (maxSteps := 2000000) only [wn] at kN834
            simp (maxSteps := 2000000) only [W, reduceIte, Nat.reduceEqDiff, Nat.reduceAdd, Nat.reduceSub, Nat.reduceLT, Nat.reduceLeDiff, Nat.reduceMul, a85, kN805, c807d, kN822, c824d, kN826, c828d, kN830, c832d, kN834, c836d]
          · rw [if_neg c836] at h
            have c836d := bf c836
            cases h
            refine ev_call (fn := a85) rfl ⟨N805 + N822 + N826 + N830 + N834, fun n hn => ?_⟩
            have kN805 := kN805 n (by omega)
            try simp (maxSteps := 2000000) only [wn] at kN805
            have kN822 := kN822 n (by omega)
            try simp (maxSteps := 2000000) only [wn] at kN822
            have kN826 := kN826 n (by omega)
            try simp (maxSteps := 2000000) only [wn] at kN826
            have kN830 := kN830 n (by omega)
            try simp (maxSteps := 2000000) only [wn] at kN830
            have kN834 := kN834 n (by omega)
            try simp (maxSteps := 2000000) only [wn] at kN834
            simp (maxSteps := 2000000) only [W, reduceIte, Nat.reduceEqDiff, Nat.reduceAdd, Nat.reduceSub, Nat.reduceLT, Nat.reduceLeDiff, Nat.reduceMul, a85, kN805, c807d, kN822, c824d, kN826, c828d, kN830, c832d, kN834, c836d]
        · rw [if_neg c832] at h
          have c832d := bf c832
          cases h
          refine ev_call (fn := a85) rfl ⟨N805 + N822 + N826 + N830, fun n hn => ?_⟩
          have kN805 := kN805 n (by omega)
          try simp (maxSteps := 2000000) only [wn] at kN805
          have kN822 := kN822 n (by omega)
          try simp (maxSteps := 2000000) only [wn] at kN822
          have kN826 := kN826 n (by omega)
          try simp (maxSteps := 2000000) only [wn] at kN826
          have kN830 := kN830 n (by omega)
          try simp (maxSteps := 2000000) only [wn] at kN830
          simp (maxSteps := 2000000) only [W, reduceIte, Nat.reduceEqDiff, Nat.reduceAdd, Nat.reduceSub, Nat.reduceLT, Nat.reduceLeDiff, Nat.reduceMul, a85, kN805, c807d, kN822, c824d, kN826, c828d, kN830, c832d]
      · rw [if_neg c828] at h
        have c828d := bf c828
        cases h
        refine ev_call (fn := a85) rfl ⟨N805 + N822 + N826, fun n hn => ?_⟩
        have kN805 := kN805 n (by omega)
        try simp (maxSteps := 2000000) only [wn] at kN805
        have kN822 := kN822 n (by omega)
        try simp (maxSteps := 2000000) only [wn] at kN822
        have kN826 := kN826 n (by omega)
        try simp (maxSteps := 2000000) only [wn] at kN826
        simp (maxSteps := 2000000) only [W, reduceIte, Nat.reduceEqDiff, Nat.reduceAdd, Nat.reduceSub, Nat.reduceLT, Nat.reduceLeDiff, Nat.reduceMul, a85, kN805, c807d, kN822, c824d, kN826, c828d]
  · rw [if_neg c807] at h
    have c807d := bf c807
    cases h
    refine ev_call (fn := a85) rfl ⟨N805, fun n hn => ?_⟩
    have kN805 := kN805 n (by omega)
    try simp (maxSteps := 2000000) only [wn] at kN805
    simp (maxSteps := 2000000) only [W, reduceIte, Nat.reduceEqDiff, Nat.reduceAdd, Nat.reduceSub, Nat.reduceLT, Nat.reduceLeDiff, Nat.reduceMul, a85, kN805, c807d]
noncomputable def h34l0_0 (z0 : Bool) (v757 : List DispatchMode) (v758 : Int) (v759 : Int) : (Int × (List ByteArray)) → Env × Heap
  | (v756, v760) => ([(1, .ptr (.p 1) 0), (4, .slice (.p 2) 0 v760.length v760.length 1 false), (5, .int .i64 v756)], [.row z0 true (rowC v757), .row true false [.int .i64 v758, .int .i64 v759, .slice (.p 0) 0 v757.length v757.length 4 false], .row true true (rowC v760)])
noncomputable def q34l0_0 (z0 : Bool) (v757 : List DispatchMode) (v758 : Int) (v759 : Int) : ((Unit) ⊕ (Int × Int)) → AExit × Env × Heap
  | .inl (_) => (.exit 0, [(2, .undef), (3, .undef)], [.row z0 true (rowC v757)])
  | .inr (r843, r844) => (.ret, [(2, .int .i64 r843), (3, .int .i64 r844)], [.row z0 true (rowC v757)])
theorem k34l0_0 (z0 : Bool) (v757 : List DispatchMode) (v758 : Int) (v759 : Int) (s : Int × (List ByteArray)) (o : (Unit) ⊕ (Int × Int)) (h : L34l0_0 v757 v758 v759 s = some o) : Ev fun n => loopAt [1, 4, 5] [2, 3] a34l0b (ex tab n) 1 (h34l0_0 z0 v757 v758 v759 s) = some (q34l0_0 z0 v757 v758 v759 o) := by
  refine iter_sound (S34l0_0 v757 v758 v759) [1, 4, 5] [2, 3] a34l0b 1 (h34l0_0 z0 v757 v758 v759) (q34l0_0 z0 v757 v758 v759) ?_ _ _ _ h
  rintro ⟨v756, v760⟩ z h
  simp only [S34l0_0] at h
  by_cases c761 : (v757.length : Int) ≤ v756
  · rw [if_pos c761] at h
    have c761d := dt c761
    cases h
    refine ⟨0, fun n hn => ?_⟩
    simp (maxSteps := 2000000) only [W, reduceIte, Nat.reduceEqDiff, Nat.reduceAdd, Nat.reduceSub, Nat.reduceLT, Nat.reduceLeDiff, Nat.reduceMul, h34l0_0, q34l0_0, a34l0b, rc_DispatchMode, c761d]
  · rw [if_neg c761] at h
    have c761d := df c761
    obtain ⟨j762, x763, g764, h⟩ := un2 h
    obtain ⟨g7641, g7642⟩ := geti_in g764
    have g7643 := ac_DispatchMode g7642
    try simp only [wn] at g7641
    obtain ⟨r840, g838, h⟩ := un1 h
    obtain ⟨N839, kN839⟩ := c85_0 true x763.fName x763.fChange x763.fEnergy x763.fStart v760 _ g838
    by_cases c841 : r840 = 0
    · rw [if_pos c841] at h
      have c841d := dt c841
      obtain ⟨g842, h⟩ := un_roomd h
      cases h
      refine ⟨N839, fun n hn => ?_⟩
      have kN839 := kN839 n (by omega)
      try simp (maxSteps := 2000000) only [wn, rc_DispatchMode] at kN839
      simp (maxSteps := 2000000) only [W, reduceIte, Nat.reduceEqDiff, Nat.reduceAdd, Nat.reduceSub, Nat.reduceLT, Nat.reduceLeDiff, Nat.reduceMul, h34l0_0, q34l0_0, a34l0b, rc_DispatchMode, c761d, g7641, g7643, kN839, c841d, g842]
    · rw [if_neg c841] at h
      have c841d := df c841
      cases h
      refine ⟨N839, fun n hn => ?_⟩
      have kN839 := kN839 n (by omega)
      try simp (maxSteps := 2000000) only [wn, rc_DispatchMode] at kN839
      simp (maxSteps := 2000000) only [W, reduceIte, Nat.reduceEqDiff, Nat.reduceAdd, Nat.reduceSub, Nat.reduceLT, Nat.reduceLeDiff, Nat.reduceMul, h34l0_0, q34l0_0, a34l0b, rc_DispatchMode, c761d, g7641, g7643, kN839, c841d]
end Go.AI
end
section
/-
  Functions, walked through: guidevaneref08.CheckPlant, guidevaneref08.PlantErr, guidevaneref08.isPrice, guidevaneref08.CheckTask, guidevaneref08.TaskErr.
-/
set_option linter.unusedVariables false
set_option linter.unusedSimpArgs false
set_option maxRecDepth 100000
set_option maxHeartbeats 4000000
namespace Go.AI
theorem c34_0 (z0 : Bool) (v736 : Int) (v737 : Int) (v738 : List DispatchMode) (r849 : Int) (r850 : Int) (h : F34_0 v736 v737 v738 = some (r849, r850)) : Ev fun n => (ex tab n).call 34 [.agg [.int .i64 v736, .int .i64 v737, .slice (.p 0) 0 v738.length v738.length 4 false]] [.row z0 true (rowC v738)] = some (.tup [.int .i64 r849, .int .i64 r850], [.row z0 true (rowC v738)]) := by
  unfold F34_0 at h
  obtain ⟨r746, g744, h⟩ := un1 h
  obtain ⟨N745, kN745⟩ := c27_0 v736 0 1000000 _ g744
  by_cases c747 : r746 = true
  · rw [if_pos c747] at h
    have c747d := c747
    obtain ⟨r750, g748, h⟩ := un1 h
    obtain ⟨N749, kN749⟩ := c27_0 v737 0 1000000 _ g748
    by_cases c751 : r750 = true
    · rw [if_pos c751] at h
      have c751d := c751
      by_cases c752 : v736 ≤ v737
      · rw [if_pos c752] at h
        have c752d := dt c752
        by_cases c753 : 40 ≤ (aw .i64 (v737 - v736))
        · rw [if_pos c753] at h
          have c753d := dt c753
          cases h
          refine ev_call (fn := a34) rfl ⟨N745 + N749, fun n hn => ?_⟩
          have kN745 := kN745 n (by omega)
          try simp (maxSteps := 2000000) only [wn] at kN745
          have kN749 := kN749 n (by omega)
          try simp (maxSteps := 2000000) only [wn] at kN749
          simp (maxSteps := 2000000) only [W, reduceIte, Nat.reduceEqDiff, Nat.reduceAdd, Nat.reduceSub, Nat.reduceLT, Nat.reduceLeDiff, Nat.reduceMul, a34, a34l0, rc_DispatchMode, kN745, c747d, kN749, c751d, c752d, c753d, @x_loopAt]
        · rw [if_neg c753] at h
          have c753d := df c753
          by_cases c754 : (v738.length : Int) = 0
          · rw [if_pos c754] at h
            have c754d := dt c754
            cases h
            refine ev_call (fn := a34) rfl ⟨N745 + N749, fun n hn => ?_⟩
            have kN745 := kN745 n (by omega)
            try simp (maxSteps := 2000000) only [wn] at kN745
            have kN749 := kN749 n (by omega)
            try simp (maxSteps := 2000000) only [wn] at kN749
            simp (maxSteps := 2000000) only [W, reduceIte, Nat.reduceEqDiff, Nat.reduceAdd, Nat.reduceSub, Nat.reduceLT, Nat.reduceLeDiff, Nat.reduceMul, a34, a34l0, rc_DispatchMode, kN745, c747d, kN749, c751d, c752d, c753d, c754d, @x_loopAt]
          · rw [if_neg c754] at h
            have c754d := df c754
            by_cases c755 : (v738.length : Int) ≤ 5
            · rw [if_pos c755] at h
              have c755d := dt c755
              obtain ⟨g845_, g845, h⟩ := un1 h
              rcases g845_ with _ | ⟨r847, r848⟩
              · dsimp only at h
                have kN846 := k34l0_0 z0 v738 v736 v737 (0, ([] : List ByteArray)) _ g845
                obtain ⟨N846, kN846⟩ := kN846
                cases h
                refine ev_call (fn := a34) rfl ⟨N745 + N749 + N846, fun n hn => ?_⟩
                have kN745 := kN745 n (by omega)
                try simp (maxSteps := 2000000) only [wn] at kN745
                have kN749 := kN749 n (by omega)
                try simp (maxSteps := 2000000) only [wn] at kN749
                have kN846 := kN846 n (by omega)
                simp (maxSteps := 2000000) only [h34l0_0, q34l0_0, wn, rc_DispatchMode] at kN846
                simp (maxSteps := 2000000) only [W, reduceIte, Nat.reduceEqDiff, Nat.reduceAdd, Nat.reduceSub, Nat.reduceLT, Nat.reduceLeDiff, Nat.reduceMul, a34, a34l0, rc_DispatchMode, kN745, c747d, kN749, c751d, c752d, c753d, c754d, c755d, kN846, @x_loopAt]
              · dsimp only at h
                have kN846 := k34l0_0 z0 v738 v736 v737 (0, ([] : List ByteArray)) _ g845
                obtain ⟨N846, kN846⟩ := kN846
                cases h
                refine ev_call (fn := a34) rfl ⟨N745 + N749 + N846, fun n hn => ?_⟩
                have kN745 := kN745 n (by omega)
                try simp (maxSteps := 2000000) only [wn] at kN745
                have kN749 := kN749 n (by omega)
                try simp (maxSteps := 2000000) only [wn] at kN749
                have kN846 := kN846 n (by omega)
                simp (maxSteps := 2000000) only [h34l0_0, q34l0_0, wn, rc_DispatchMode] at kN846
                simp (maxSteps := 2000000) only [W, reduceIte, Nat.reduceEqDiff, Nat.reduceAdd, Nat.reduceSub, Nat.reduceLT, Nat.reduceLeDiff, Nat.reduceMul, a34, a34l0, rc_DispatchMode, kN745, c747d, kN749, c751d, c752d, c753d, c754d, c755d, kN846, @x_loopAt]
            · rw [if_neg c755] at h
              have c755d := df c755
              cases h
              refine ev_call (fn := a34) rfl ⟨N745 + N749, fun n hn => ?_⟩
              have kN745 := kN745 n (by omega)
              try simp (maxSteps := 2000000) only [wn] at kN745
              have kN749 := kN749 n (by omega)
              try simp (maxSteps := 2000000) only [wn] at kN749
              simp (maxSteps := 2000000) only [W, reduceIte, Nat.reduceEqDiff, Nat.reduceAdd, Nat.reduceSub, Nat.reduceLT, Nat.reduceLeDiff, Nat.reduceMul, a34, a34l0, rc_DispatchMode, kN745, c747d, kN749, c751d, c752d, c753d, c754d, c755d, @x_loopAt]
      · rw [if_neg c752] at h
        have c752d := df c752
        cases h
        refine ev_call (fn := a34) rfl ⟨N745 + N749, fun n hn => ?_⟩
        have kN745 := kN745 n (by omega)
        try simp (maxSteps := 2000000) only [wn] at kN745
        have kN749 := kN749 n (by omega)
        try simp (maxSteps := 2000000) only [wn] at kN749
        simp (maxSteps := 2000000) only [W, reduceIte, Nat.reduceEqDiff, Nat.reduceAdd, Nat.reduceSub, Nat.reduceLT, Nat.reduceLeDiff, Nat.reduceMul, a34, a34l0, rc_DispatchMode, kN745, c747d, kN749, c751d, c752d, @x_loopAt]
    · rw [if_neg c751] at h
      have c751d := bf c751
      cases h
      refine ev_call (fn := a34) rfl ⟨N745 + N749, fun n hn => ?_⟩
      have kN745 := kN745 n (by omega)
      try simp (maxSteps := 2000000) only [wn] at kN745
      have kN749 := kN749 n (by omega)
      try simp (maxSteps := 2000000) only [wn] at kN749
      simp (maxSteps := 2000000) only [W, reduceIte, Nat.reduceEqDiff, Nat.reduceAdd, Nat.reduceSub, Nat.reduceLT, Nat.reduceLeDiff, Nat.reduceMul, a34, a34l0, rc_DispatchMode, kN745, c747d, kN749, c751d, @x_loopAt]
  · rw [if_neg c747] at h
    have c747d := bf c747
    cases h
    refine ev_call (fn := a34) rfl ⟨N745, fun n hn => ?_⟩
    have kN745 := kN745 n (by omega)
    try simp (maxSteps := 2000000) only [wn] at kN745
    simp (maxSteps := 2000000) only [W, reduceIte, Nat.reduceEqDiff, Nat.reduceAdd, Nat.reduceSub, Nat.reduceLT, Nat.reduceLeDiff, Nat.reduceMul, a34, a34l0, rc_DispatchMode, kN745, c747d, @x_loopAt]
theorem c50_0 (z0 : Bool) (v733 : Int) (v734 : Int) (v735 : List DispatchMode) (r855 : Int) (h : F50_0 v733 v734 v735 = some r855) : Ev fun n => (ex tab n).call 50 [.agg [.int .i64 v733, .int .i64 v734, .slice (.p 0) 0 v735.length v735.length 4 false]] [.row z0 true (rowC v735)] = some (.int .i64 r855, [.row z0 true (rowC v735)]) := by
  unfold F50_0 at h
  obtain ⟨r853, r854, g851, h⟩ := un2 h
  obtain ⟨N852, kN852⟩ := c34_0 z0 v733 v734 v735 _ _ g851
  cases h
  refine ev_call (fn := a50) rfl ⟨N852, fun n hn => ?_⟩
  have kN852 := kN852 n (by omega)
  try simp (maxSteps := 2000000) only [wn] at kN852
  simp (maxSteps := 2000000) only [W, reduceIte, Nat.reduceEqDiff, Nat.reduceAdd, Nat.reduceSub, Nat.reduceLT, Nat.reduceLeDiff, Nat.reduceMul, a50, kN852]
theorem c86_0 (v868 : Int) (r872 : Bool) (h : F86_0 v868 = some r872) : Ev fun n => (ex tab n).call 86 [.int .i64 v868] [] = some (.bool r872, []) := by
  unfold F86_0 at h
  obtain ⟨r871, g869, h⟩ := un1 h
  obtain ⟨N870, kN870⟩ := c27_0 v868 (-10000) 10000 _ g869
  cases h
  refine ev_call (fn := a86) rfl ⟨N870, fun n hn => ?_⟩
  have kN870 := kN870 n (by omega)
  try simp (maxSteps := 2000000) only [wn] at kN870
  simp (maxSteps := 2000000) only [W, reduceIte, Nat.reduceEqDiff, Nat.reduceAdd, Nat.reduceSub, Nat.reduceLT, Nat.reduceLeDiff, Nat.reduceMul, a86, kN870]
noncomputable def h35l0_0 (z0 : Bool) (z1 : Bool) (v880 : List DispatchMode) (v881 : List DispatchHour) (v882 : Int) (v883 : Int) (v884 : Int) : (Int) → Env × Heap
  | v879 => ([(3, .ptr (.p 2) 0), (7, .int .i64 v879)], [.row z0 true (rowC v880), .row z1 true (rowC v881), .row true false [.int .i64 v882, .int .i64 v883, .int .i64 v884, .slice (.p 1) 0 v881.length v881.length 3 false]])
noncomputable def q35l0_0 (z0 : Bool) (z1 : Bool) (v880 : List DispatchMode) (v881 : List DispatchHour) (v882 : Int) (v883 : Int) (v884 : Int) : ((Unit) ⊕ (Int × Int)) → AExit × Env × Heap
  | .inl (_) => (.exit 0, [(4, .undef), (5, .undef)], [.row z0 true (rowC v880), .row z1 true (rowC v881)])
  | .inr (r902, r903) => (.ret, [(4, .int .i64 r902), (5, .int .i64 r903)], [.row z0 true (rowC v880), .row z1 true (rowC v881)])
theorem k35l0_0 (z0 : Bool) (z1 : Bool) (v880 : List DispatchMode) (v881 : List DispatchHour) (v882 : Int) (v883 : Int) (v884 : Int) (s : Int) (o : (Unit) ⊕ (Int × Int)) (h : L35l0_0 v880 v881 v882 v883 v884 s = some o) : Ev fun n => loopAt [3, 7] [4, 5] a35l0b (ex tab n) 2 (h35l0_0 z0 z1 v880 v881 v882 v883 v884 s) = some (q35l0_0 z0 z1 v880 v881 v882 v883 v884 o) := by
  refine iter_sound (S35l0_0 v880 v881 v882 v883 v884) [3, 7] [4, 5] a35l0b 2 (h35l0_0 z0 z1 v880 v881 v882 v883 v884) (q35l0_0 z0 z1 v880 v881 v882 v883 v884) ?_ _ _ _ h
  rintro v879 z h
  simp only [S35l0_0] at h
  by_cases c885 : (v881.length : Int) ≤ v879
  · rw [if_pos c885] at h
    have c885d := dt c885
    cases h
    refine ⟨0, fun n hn => ?_⟩
    simp (maxSteps := 2000000) only [W, reduceIte, Nat.reduceEqDiff, Nat.reduceAdd, Nat.reduceSub, Nat.reduceLT, Nat.reduceLeDiff, Nat.reduceMul, h35l0_0, q35l0_0, a35l0b, rc_DispatchHour, c885d]
  · rw [if_neg c885] at h
    have c885d := df c885
    obtain ⟨j886, x887, g888, h⟩ := un2 h
    obtain ⟨g8881, g8882⟩ := geti_in g888
    have g8883 := ac_DispatchHour g8882
    try simp only [wn] at g8881
    obtain ⟨r891, g889, h⟩ := un1 h
    obtain ⟨N890, kN890⟩ := c86_0 x887.fBuy _ g889
    by_cases c892 : r891 = true
    · rw [if_pos c892] at h
      have c892d := c892
      obtain ⟨r895, g893, h⟩ := un1 h
      obtain ⟨N894, kN894⟩ := c86_0 x887.fSell _ g893
      by_cases c896 : r895 = true
      · rw [if_pos c896] at h
        have c896d := c896
        obtain ⟨r899, g897, h⟩ := un1 h
        obtain ⟨N898, kN898⟩ := c86_0 x887.fInflow _ g897
        by_cases c900 : r899 = true
        · rw [if_pos c900] at h
          have c900d := c900
          by_cases c901 : x887.fSell ≤ x887.fBuy
          · rw [if_pos c901] at h
            have c901d := dt c901
            cases h
            refine ⟨N890 + N894 + N898, fun n hn => ?_⟩
            have kN890 := kN890 n (by omega)
            try simp (maxSteps := 2000000) only [wn, rc_DispatchHour] at kN890
            have kN894 := kN894 n (by omega)
            try simp (maxSteps := 2000000) only [wn, rc_DispatchHour] at kN894
            have kN898 := kN898 n (by omega)
            try simp (maxSteps := 2000000) only [wn, rc_DispatchHour] at kN898
            simp (maxSteps := 2000000) only [W, reduceIte, Nat.reduceEqDiff, Nat.reduceAdd, Nat.reduceSub, Nat.reduceLT, Nat.reduceLeDiff, Nat.reduceMul, h35l0_0, q35l0_0, a35l0b, rc_DispatchHour, c885d, g8881, g8883, kN890, c892d, kN894, c896d, kN898, c900d, c901d]
          · rw [if_neg c901] at h
            have c901d := df c901
            cases h
            refine ⟨N890 + N894 + N898, fun n hn => ?_⟩
            have kN890 := kN890 n (by omega)
            try simp (maxSteps := 2000000) only [wn, rc_DispatchHour] at kN890
            have kN894 := kN894 n (by omega)
            try simp (maxSteps := 2000000) only [wn, rc_DispatchHour] at kN894
            have kN898 := kN898 n (by omega)
            try simp (maxSteps := 2000000) only [wn, rc_DispatchHour] at kN898
            simp (maxSteps := 2000000) only [W, reduceIte, Nat.reduceEqDiff, Nat.reduceAdd, Nat.reduceSub, Nat.reduceLT, Nat.reduceLeDiff, Nat.reduceMul, h35l0_0, q35l0_0, a35l0b, rc_DispatchHour, c885d, g8881, g8883, kN890, c892d, kN894, c896d, kN898, c900d, c901d]
        · rw [if_neg c900] at h
          have c900d := bf c900
          cases h
          refine ⟨N890 + N894 + N898, fun n hn => ?_⟩
          have kN890 := kN890 n (by omega)
          try simp (maxSteps := 2000000) only [wn, rc_DispatchHour] at kN890
          have kN894 := kN894 n (by omega)
          try simp (maxSteps := 2000000) only [wn, rc_DispatchHour] at kN894
          have kN898 := kN898 n (by omega)
          try simp (maxSteps := 2000000) only [wn, rc_DispatchHour] at kN898
          simp (maxSteps := 2000000) only [W, reduceIte, Nat.reduceEqDiff, Nat.reduceAdd, Nat.reduceSub, Nat.reduceLT, Nat.reduceLeDiff, Nat.reduceMul, h35l0_0, q35l0_0, a35l0b, rc_DispatchHour, c885d, g8881, g8883, kN890, c892d, kN894, c896d, kN898, c900d]
      · rw [if_neg c896] at h
        have c896d := bf c896
        cases h
        refine ⟨N890 + N894, fun n hn => ?_⟩
        have kN890 := kN890 n (by omega)
        try simp (maxSteps := 2000000) only [wn, rc_DispatchHour] at kN890
        have kN894 := kN894 n (by omega)
        try simp (maxSteps := 2000000) only [wn, rc_DispatchHour] at kN894
        simp (maxSteps := 2000000) only [W, reduceIte, Nat.reduceEqDiff, Nat.reduceAdd, Nat.reduceSub, Nat.reduceLT, Nat.reduceLeDiff, Nat.reduceMul, h35l0_0, q35l0_0, a35l0b, rc_DispatchHour, c885d, g8881, g8883, kN890, c892d, kN894, c896d]
    · rw [if_neg c892] at h
      have c892d := bf c892
      cases h
      refine ⟨N890, fun n hn => ?_⟩
      have kN890 := kN890 n (by omega)
      try simp (maxSteps := 2000000) only [wn, rc_DispatchHour] at kN890
      simp (maxSteps := 2000000) only [W, reduceIte, Nat.reduceEqDiff, Nat.reduceAdd, Nat.reduceSub, Nat.reduceLT, Nat.reduceLeDiff, Nat.reduceMul, h35l0_0, q35l0_0, a35l0b, rc_DispatchHour, c885d, g8881, g8883, kN890, c892d]
theorem c35_0 (z0 : Bool) (z1 : Bool) (v726 : Int) (v727 : Int) (v728 : Int) (v729 : Int) (v730 : Int) (v731 : List DispatchMode) (v732 : List DispatchHour) (r908 : Int) (r909 : Int) (h : F35_0 v726 v727 v728 v729 v730 v731 v732 = some (r908, r909)) : Ev fun n => (ex tab n).call 35 [.agg [.int .i64 v726, .int .i64 v727, .slice (.p 0) 0 v731.length v731.length 4 false], .agg [.int .i64 v728, .int .i64 v729, .int .i64 v730, .slice (.p 1) 0 v732.length v732.length 3 false]] [.row z0 true (rowC v731), .row z1 true (rowC v732)] = some (.tup [.int .i64 r908, .int .i64 r909], [.row z0 true (rowC v731), .row z1 true (rowC v732)]) := by
  unfold F35_0 at h
  obtain ⟨r858, g856, h⟩ := un1 h
  obtain ⟨N857, kN857⟩ := c50_0 z0 v726 v727 v731 _ g856
  by_cases c859 : r858 = 0
  · rw [if_pos c859] at h
    have c859d := dt c859
    obtain ⟨r862, g860, h⟩ := un1 h
    obtain ⟨N861, kN861⟩ := c27_0 v728 v726 v727 _ g860
    by_cases c863 : r862 = true
    · rw [if_pos c863] at h
      have c863d := c863
      obtain ⟨r866, g864, h⟩ := un1 h
      obtain ⟨N865, kN865⟩ := c27_0 v729 0 (aw .i64 ((v731.length : Int) - 1)) _ g864
      by_cases c867 : r866 = true
      · rw [if_pos c867] at h
        have c867d := c867
        obtain ⟨r875, g873, h⟩ := un1 h
        obtain ⟨N874, kN874⟩ := c86_0 v730 _ g873
        by_cases c876 : r875 = true
        · rw [if_pos c876] at h
          have c876d := c876
          by_cases c877 : (v732.length : Int) = 0
          · rw [if_pos c877] at h
            have c877d := dt c877
            cases h
            refine ev_call (fn := a35) rfl ⟨N857 + N861 + N865 + N874, fun n hn => ?_⟩
            have kN857 := kN857 n (by omega)
            try simp (maxSteps := 2000000) only [wn] at kN857
            have kN861 := kN861 n (by omega)
            try simp (maxSteps := 2000000) only [wn] at kN861
            have kN865 := kN865 n (by omega)
            try simp (maxSteps := 2000000) only [wn] at kN865
            have kN874 := kN874 n (by omega)
            try simp (maxSteps := 2000000) only [wn] at kN874
            simp (maxSteps := 2000000) only [W, reduceIte, Nat.reduceEqDiff, Nat.reduceAdd, Nat.reduceSub, Nat.reduceLT, Nat.reduceLeDiff, Nat.reduceMul, a35, a35l0, rc_DispatchHour, kN857, c859d, kN861, c863d, kN865, c867d, kN874, c876d, c877d, @x_loopAt]
          · rw [if_neg c877] at h
            have c877d := df c877
            by_cases c878 : (v732.length : Int) ≤ 10
            · rw [if_pos c878] at h
              have c878d := dt c878
              obtain ⟨g904_, g904, h⟩ := un1 h
              rcases g904_ with _ | ⟨r906, r907⟩
              · dsimp only at h
                have kN905 := k35l0_0 z0 z1 v731 v732 v728 v729 v730 0 _ g904
                obtain ⟨N905, kN905⟩ := kN905
                cases h
                refine ev_call (fn := a35) rfl ⟨N857 + N861 + N865 + N874 + N905, fun n hn => ?_⟩
                have kN857 := kN857 n (by omega)
                try simp (maxSteps := 2000000) only [wn] at kN857
                have kN861 := kN861 n (by omega)
                try simp (maxSteps := 2000000) only [wn] at kN861
                have kN865 := kN865 n (by omega)
                try simp (maxSteps := 2000000) only [wn] at kN865
                have kN874 := kN874 n (by omega)
                try simp (maxSteps := 2000000) only [wn] at kN874
                have kN905 := kN905 n (by omega)
                simp (maxSteps := 2000000) only [h35l0_0, q35l0_0, wn, rc_DispatchHour] at kN905
                simp (maxSteps := 2000000) only [W, reduceIte, Nat.reduceEqDiff, Nat.reduceAdd, Nat.reduceSub, Nat.reduceLT, Nat.reduceLeDiff, Nat.reduceMul, a35, a35l0, rc_DispatchHour, kN857, c859d, kN861, c863d, kN865, c867d, kN874, c876d, c877d, c878d, kN905, @x_loopAt]
              · dsimp only at h
                have kN905 := k35l0_0 z0 z1 v731 v732 v728 v729 v730 0 _ g904
                obtain ⟨N905, kN905⟩ := kN905
                cases h
                refine ev_call (fn := a35) rfl ⟨N857 + N861 + N865 + N874 + N905, fun n hn => ?_⟩
                have kN857 := kN857 n (by omega)
                try simp (maxSteps := 2000000) only [wn] at kN857
                have kN861 := kN861 n (by omega)
                try simp (maxSteps := 2000000) only [wn] at kN861
                have kN865 := kN865 n (by omega)
                try simp (maxSteps := 2000000) only [wn] at kN865
                have kN874 := kN874 n (by omega)
                try simp (maxSteps := 2000000) only [wn] at kN874
                have kN905 := kN905 n (by omega)
                simp (maxSteps := 2000000) only [h35l0_0, q35l0_0, wn, rc_DispatchHour] at kN905
                simp (maxSteps := 2000000) only [W, reduceIte, Nat.reduceEqDiff, Nat.reduceAdd, Nat.reduceSub, Nat.reduceLT, Nat.reduceLeDiff, Nat.reduceMul, a35, a35l0, rc_DispatchHour, kN857, c859d, kN861, c863d, kN865, c867d, kN874, c876d, c877d, c878d, kN905, @x_loopAt]
            · rw [if_neg c878] at h
              have c878d := df c878
              cases h
              refine ev_call (fn := a35) rfl ⟨N857 + N861 + N865 + N874, fun n hn => ?_⟩
              have kN857 := kN857 n (by omega)
              try simp (maxSteps := 2000000) only [wn] at kN857
              have kN861 := kN861 n (by omega)
              try simp (maxSteps := 2000000) only [wn] at kN861
              have kN865 := kN865 n (by omega)
              try simp (maxSteps := 2000000) only [wn] at kN865
              have kN874 := kN874 n (by omega)
              try simp (maxSteps := 2000000) only [wn] at kN874
              simp (maxSteps := 2000000) only [W, reduceIte, Nat.reduceEqDiff, Nat.reduceAdd, Nat.reduceSub, Nat.reduceLT, Nat.reduceLeDiff, Nat.reduceMul, a35, a35l0, rc_DispatchHour, kN857, c859d, kN861, c863d, kN865, c867d, kN874, c876d, c877d, c878d, @x_loopAt]
        · rw [if_neg c876] at h
          have c876d := bf c876
          cases h
          refine ev_call (fn := a35) rfl ⟨N857 + N861 + N865 + N874, fun n hn => ?_⟩
          have kN857 := kN857 n (by omega)
          try simp (maxSteps := 2000000) only [wn] at kN857
          have kN861 := kN861 n (by omega)
          try simp (maxSteps := 2000000) only [wn] at kN861
          have kN865 := kN865 n (by omega)
          try simp (maxSteps := 2000000) only [wn] at kN865
          have kN874 := kN874 n (by omega)
          try simp (maxSteps := 2000000) only [wn] at kN874
          simp (maxSteps := 2000000) only [W, reduceIte, Nat.reduceEqDiff, Nat.reduceAdd, Nat.reduceSub, Nat.reduceLT, Nat.reduceLeDiff, Nat.reduceMul, a35, a35l0, rc_DispatchHour, kN857, c859d, kN861, c863d, kN865, c867d, kN874, c876d, @x_loopAt]
      · rw [if_neg c867] at h
        have c867d := bf c867
        cases h
        refine ev_call (fn := a35) rfl ⟨N857 + N861 + N865, fun n hn => ?_⟩
        have kN857 := kN857 n (by omega)
        try simp (maxSteps := 2000000) only [wn] at kN857
        have kN861 := kN861 n (by omega)
        try simp (maxSteps := 2000000) only [wn] at kN861
        have kN865 := kN865 n (by omega)
        try simp (maxSteps := 2000000) only [wn] at kN865
        simp (maxSteps := 2000000) only [W, reduceIte, Nat.reduceEqDiff, Nat.reduceAdd, Nat.reduceSub, Nat.reduceLT, Nat.reduceLeDiff, Nat.reduceMul, a35, a35l0, rc_DispatchHour, kN857, c859d, kN861, c863d, kN865, c867d, @x_loopAt]
    · rw [if_neg c863] at h
      have c863d := bf c863
      cases h
      refine ev_call (fn := a35) rfl ⟨N857 + N861, fun n hn => ?_⟩
      have kN857 := kN857 n (by omega)
      try simp (maxSteps := 2000000) only [wn] at kN857
      have kN861 := kN861 n (by omega)
      try simp (maxSteps := 2000000) only [wn] at kN861
      simp (maxSteps := 2000000) only [W, reduceIte, Nat.reduceEqDiff, Nat.reduceAdd, Nat.reduceSub, Nat.reduceLT, Nat.reduceLeDiff, Nat.reduceMul, a35, a35l0, rc_DispatchHour, kN857, c859d, kN861, c863d, @x_loopAt]
  · rw [if_neg c859] at h
    have c859d := df c859
    cases h
    refine ev_call (fn := a35) rfl ⟨N857, fun n hn => ?_⟩
    have kN857 := kN857 n (by omega)
    try simp (maxSteps := 2000000) only [wn] at kN857
    simp (maxSteps := 2000000) only [W, reduceIte, Nat.reduceEqDiff, Nat.reduceAdd, Nat.reduceSub, Nat.reduceLT, Nat.reduceLeDiff, Nat.reduceMul, a35, a35l0, rc_DispatchHour, kN857, c859d, @x_loopAt]
theorem c20_0 (z0 : Bool) (z1 : Bool) (v719 : Int) (v720 : Int) (v721 : Int) (v722 : Int) (v723 : Int) (v724 : List DispatchMode) (v725 : List DispatchHour) (r914 : Int) (h : F20_0 v719 v720 v721 v722 v723 v724 v725 = some r914) : Ev fun n => (ex tab n).call 20 [.agg [.int .i64 v719, .int .i64 v720, .slice (.p 0) 0 v724.length v724.length 4 false], .agg [.int .i64 v721, .int .i64 v722, .int .i64 v723, .slice (.p 1) 0 v725.length v725.length 3 false]] [.row z0 true (rowC v724), .row z1 true (rowC v725)] = some (.int .i64 r914, [.row z0 true (rowC v724), .row z1 true (rowC v725)]) := by
  unfold F20_0 at h
  obtain ⟨r912, r913, g910, h⟩ := un2 h
  obtain ⟨N911, kN911⟩ := c35_0 z0 z1 v719 v720 v721 v722 v723 v724 v725 _ _ g910
  cases h
  refine ev_call (fn := a20) rfl ⟨N911, fun n hn => ?_⟩
  have kN911 := kN911 n (by omega)
  try simp (maxSteps := 2000000) only [wn] at kN911
  simp (maxSteps := 2000000) only [W, reduceIte, Nat.reduceEqDiff, Nat.reduceAdd, Nat.reduceSub, Nat.reduceLT, Nat.reduceLeDiff, Nat.reduceMul, a20, kN911]
noncomputable def h36l0_0 (z0 : Bool) (z1 : Bool) (z2 : Bool) (v938 : List DispatchMode) (v939 : List DispatchHour) (v940 : List Int) (v941 : Int) (v942 : Int) (v943 : Int) (v944 : Int) (v945 : Int) : (Int) → Env × Heap
  | v937 => ([(2, .slice (.p 2) 0 v940.length v940.length 1 false), (3, .ptr (.p 3) 0), (4, .ptr (.p 4) 0), (7, .int .i64 v937)], [.row z0 true (rowC v938), .row z1 true (rowC v939), .row z2 true (rowC v940), .row true false [.int .i64 v941, .int .i64 v942, .slice (.p 0) 0 v938.length v938.length 4 false], .row true false [.int .i64 v943, .int .i64 v944, .int .i64 v945, .slice (.p 1) 0 v939.length v939.length 3 false]])
noncomputable def q36l0_0 (z0 : Bool) (z1 : Bool) (z2 : Bool) (v938 : List DispatchMode) (v939 : List DispatchHour) (v940 : List Int) (v941 : Int) (v942 : Int) (v943 : Int) (v944 : Int) (v945 : Int) : ((Unit) ⊕ (Unit)) → AExit × Env × Heap
  | .inl (_) => (.exit 0, [(2, .slice (.p 2) 0 v940.length v940.length 1 false), (3, .ptr (.p 3) 0), (4, .ptr (.p 4) 0), (6, .undef)], [.row z0 true (rowC v938), .row z1 true (rowC v939), .row z2 true (rowC v940), .row true false [.int .i64 v941, .int .i64 v942, .slice (.p 0) 0 v938.length v938.length 4 false], .row true false [.int .i64 v943, .int .i64 v944, .int .i64 v945, .slice (.p 1) 0 v939.length v939.length 3 false]])
  | .inr (_) => (.ret, [(2, .slice (.p 2) 0 v940.length v940.length 1 false), (3, .ptr (.p 3) 0), (4, .ptr (.p 4) 0), (6, .int .i64 6)], [.row z0 true (rowC v938), .row z1 true (rowC v939), .row z2 true (rowC v940), .row true false [.int .i64 v941, .int .i64 v942, .slice (.p 0) 0 v938.length v938.length 4 false], .row true false [.int .i64 v943, .int .i64 v944, .int .i64 v945, .slice (.p 1) 0 v939.length v939.length 3 false]])
theorem k36l0_0 (z0 : Bool) (z1 : Bool) (z2 : Bool) (v938 : List DispatchMode) (v939 : List DispatchHour) (v940 : List Int) (v941 : Int) (v942 : Int) (v943 : Int) (v944 : Int) (v945 : Int) (s : Int) (o : (Unit) ⊕ (Unit)) (h : L36l0_0 v938 v939 v940 v941 v942 v943 v944 v945 s = some o) : Ev fun n => loopAt [2, 3, 4, 7] [2, 3, 4, 6] a36l0b (ex tab n) 3 (h36l0_0 z0 z1 z2 v938 v939 v940 v941 v942 v943 v944 v945 s) = some (q36l0_0 z0 z1 z2 v938 v939 v940 v941 v942 v943 v944 v945 o) := by
  refine iter_sound (S36l0_0 v938 v939 v940 v941 v942 v943 v944 v945) [2, 3, 4, 7] [2, 3, 4, 6] a36l0b 3 (h36l0_0 z0 z1 z2 v938 v939 v940 v941 v942 v943 v944 v945) (q36l0_0 z0 z1 z2 v938 v939 v940 v941 v942 v943 v944 v945) ?_ _ _ _ h
  rintro v937 z h
  simp only [S36l0_0] at h
  by_cases c946 : (v940.length : Int) ≤ v937
  · rw [if_pos c946] at h
    have c946d := dt c946
    cases h
    refine ⟨0, fun n hn => ?_⟩
    simp (maxSteps := 2000000) only [W, reduceIte, Nat.reduceEqDiff, Nat.reduceAdd, Nat.reduceSub, Nat.reduceLT, Nat.reduceLeDiff, Nat.reduceMul, h36l0_0, q36l0_0, a36l0b, c946d, wd]
  · rw [if_neg c946] at h
    have c946d := df c946
    obtain ⟨j947, x948, g949, h⟩ := un2 h
    obtain ⟨g9491, g9492⟩ := geti_in g949
    have g9493 := ac_Int g9492
    try simp only [wn] at g9491
    obtain ⟨r952, g950, h⟩ := un1 h
    obtain ⟨N951, kN951⟩ := c27_0 x948 0 (aw .i64 ((v938.length : Int) - 1)) _ g950
    by_cases c953 : r952 = true
    · rw [if_pos c953] at h
      have c953d := c953
      cases h
      refine ⟨N951, fun n hn => ?_⟩
      have kN951 := kN951 n (by omega)
      try simp (maxSteps := 2000000) only [wn] at kN951
      simp (maxSteps := 2000000) only [W, reduceIte, Nat.reduceEqDiff, Nat.reduceAdd, Nat.reduceSub, Nat.reduceLT, Nat.reduceLeDiff, Nat.reduceMul, h36l0_0, q36l0_0, a36l0b, c946d, g9491, g9493, kN951, c953d, wd]
    · rw [if_neg c953] at h
      have c953d := bf c953
      cases h
      refine ⟨N951, fun n hn => ?_⟩
      have kN951 := kN951 n (by omega)
      try simp (maxSteps := 2000000) only [wn] at kN951
      simp (maxSteps := 2000000) only [W, reduceIte, Nat.reduceEqDiff, Nat.reduceAdd, Nat.reduceSub, Nat.reduceLT, Nat.reduceLeDiff, Nat.reduceMul, h36l0_0, q36l0_0, a36l0b, c946d, g9491, g9493, kN951, c953d, wd]
end Go.AI
end
