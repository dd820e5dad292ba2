/-
  Functions, walked through: guidevaneref02.ResistsErr, guidevaneref02.DropErr, guidevanebase.CopyInts, water.resistsErr$1, slices.IndexFunc[[]int,int], slices.ContainsFunc[[]int,int], water.resistsErr, water.dropErr, water.through$1, water.least, water.through, water.parallel, water.ParallelOf, guidevanebase.CopyInts, water.FlowThrough.
-/
import Derived.Test.YtfglifekecijjaaBAiY
import Derived.Test.YtfglifekecijjaaBAiTab
import Derived.Test.YtfglifekecijjaaBAiAwake
import Derived.Test.YtfglifekecijjaaBWnF
import Derived.Test.YtfglifekecijjaaBWn0
import Derived.Test.YtfglifekecijjaaBWn3
import Derived.Test.YtfglifekecijjaaBWn4
set_option linter.unusedVariables false
set_option linter.unusedSimpArgs false
set_option maxRecDepth 100000
set_option maxHeartbeats 4000000
namespace Go.AI
noncomputable def h23l0_0 (z0 : Bool) (v547 : List Int) : (Int) → Env × Heap
  | v546 => ([(0, .slice 0 0 v547.length v547.length 1 false), (3, .int .i64 v546)], [.row z0 true (rowC v547)])
noncomputable def q23l0_0 (z0 : Bool) (v547 : List Int) : ((Unit) ⊕ (Int)) → AExit × Env × Heap
  | .inl (_) => (.exit 0, [(2, .undef)], [.row z0 true (rowC v547)])
  | .inr (r562) => (.ret, [(2, .int .i64 r562)], [.row z0 true (rowC v547)])
theorem k23l0_0 (z0 : Bool) (v547 : List Int) (s : Int) (o : (Unit) ⊕ (Int)) (h : L23l0_0 v547 s = some o) : Ev fun n => loopAt [0, 3] [2] a23l0b (ex tab n) 1 (h23l0_0 z0 v547 s) = some (q23l0_0 z0 v547 o) := by
  refine iter_sound (S23l0_0 v547) [0, 3] [2] a23l0b 1 (h23l0_0 z0 v547) (q23l0_0 z0 v547) ?_ _ _ _ h
  rintro v546 z h
  simp only [S23l0_0] at h
  by_cases c561 : (v547.length : Int) ≤ v546
  · rw [if_pos c561] at h
    have c561d := dt c561
    cases h
    refine ⟨0, fun n hn => ?_⟩
    simp only [W, reduceIte, Nat.reduceEqDiff, Nat.reduceAdd, Nat.reduceSub, Nat.reduceLT, Nat.reduceLeDiff, Nat.reduceMul, h23l0_0, q23l0_0, a23l0b, c561d]
  · rw [if_neg c561] at h
    have c561d := df c561
    obtain ⟨j548, x549, g550, h⟩ := un2 h
    obtain ⟨g5501, g5502⟩ := geti_in g550
    have g5503 := ac_Int g5502
    try simp only [wn] at g5501
    obtain ⟨r559, g557, h⟩ := un1 h
    obtain ⟨N558, kN558⟩ := c44_0 x549 _ g557
    by_cases c560 : r559 = 0
    · rw [if_pos c560] at h
      have c560d := dt c560
      cases h
      refine ⟨N558, fun n hn => ?_⟩
      have kN558 := kN558 n (by omega)
      try simp only [wn] at kN558
      simp only [W, reduceIte, Nat.reduceEqDiff, Nat.reduceAdd, Nat.reduceSub, Nat.reduceLT, Nat.reduceLeDiff, Nat.reduceMul, h23l0_0, q23l0_0, a23l0b, c561d, g5501, g5503, kN558, c560d]
    · rw [if_neg c560] at h
      have c560d := df c560
      cases h
      refine ⟨N558, fun n hn => ?_⟩
      have kN558 := kN558 n (by omega)
      try simp only [wn] at kN558
      simp only [W, reduceIte, Nat.reduceEqDiff, Nat.reduceAdd, Nat.reduceSub, Nat.reduceLT, Nat.reduceLeDiff, Nat.reduceMul, h23l0_0, q23l0_0, a23l0b, c561d, g5501, g5503, kN558, c560d]
theorem c23_0 (z0 : Bool) (v545 : List Int) (r568 : Int) (h : F23_0 v545 = some r568) : Ev fun n => (ex tab n).call 23 [.slice 0 0 v545.length v545.length 1 false] [.row z0 true (rowC v545)] = some (.int .i64 r568, [.row z0 true (rowC v545)]) := by
  unfold F23_0 at h
  by_cases c567 : (v545.length : Int) = 0
  · rw [if_pos c567] at h
    have c567d := dt c567
    cases h
    refine ev_call (fn := a23) rfl ⟨0, fun n hn => ?_⟩
    simp only [W, reduceIte, Nat.reduceEqDiff, Nat.reduceAdd, Nat.reduceSub, Nat.reduceLT, Nat.reduceLeDiff, Nat.reduceMul, a23, a23l0, c567d, @x_loopAt]
  · rw [if_neg c567] at h
    have c567d := df c567
    by_cases c566 : (v545.length : Int) ≤ 8
    · rw [if_pos c566] at h
      have c566d := dt c566
      obtain ⟨g563_, g563, h⟩ := un1 h
      rcases g563_ with _ | r565
      · dsimp only at h
        have kN564 := k23l0_0 z0 v545 0 _ g563
        obtain ⟨N564, kN564⟩ := kN564
        cases h
        refine ev_call (fn := a23) rfl ⟨N564, fun n hn => ?_⟩
        have kN564 := kN564 n (by omega)
        simp only [h23l0_0, q23l0_0, wn] at kN564
        simp only [W, reduceIte, Nat.reduceEqDiff, Nat.reduceAdd, Nat.reduceSub, Nat.reduceLT, Nat.reduceLeDiff, Nat.reduceMul, a23, a23l0, c567d, c566d, kN564, @x_loopAt]
      · dsimp only at h
        have kN564 := k23l0_0 z0 v545 0 _ g563
        obtain ⟨N564, kN564⟩ := kN564
        cases h
        refine ev_call (fn := a23) rfl ⟨N564, fun n hn => ?_⟩
        have kN564 := kN564 n (by omega)
        simp only [h23l0_0, q23l0_0, wn] at kN564
        simp only [W, reduceIte, Nat.reduceEqDiff, Nat.reduceAdd, Nat.reduceSub, Nat.reduceLT, Nat.reduceLeDiff, Nat.reduceMul, a23, a23l0, c567d, c566d, kN564, @x_loopAt]
    · rw [if_neg c566] at h
      have c566d := df c566
      cases h
      refine ev_call (fn := a23) rfl ⟨0, fun n hn => ?_⟩
      simp only [W, reduceIte, Nat.reduceEqDiff, Nat.reduceAdd, Nat.reduceSub, Nat.reduceLT, Nat.reduceLeDiff, Nat.reduceMul, a23, a23l0, c567d, c566d, @x_loopAt]
theorem c24_0 (v573 : Int) (r578 : Int) (h : F24_0 v573 = some r578) : Ev fun n => (ex tab n).call 24 [.int .i64 v573] [] = some (.int .i64 r578, []) := by
  unfold F24_0 at h
  obtain ⟨r576, g574, h⟩ := un1 h
  obtain ⟨N575, kN575⟩ := c20_0 v573 0 1000000000 _ g574
  by_cases c577 : r576 = true
  · rw [if_pos c577] at h
    have c577d := c577
    cases h
    refine ev_call (fn := a24) rfl ⟨N575, fun n hn => ?_⟩
    have kN575 := kN575 n (by omega)
    try simp only [wn] at kN575
    simp only [W, reduceIte, Nat.reduceEqDiff, Nat.reduceAdd, Nat.reduceSub, Nat.reduceLT, Nat.reduceLeDiff, Nat.reduceMul, a24, kN575, c577d]
  · rw [if_neg c577] at h
    have c577d := bf c577
    cases h
    refine ev_call (fn := a24) rfl ⟨N575, fun n hn => ?_⟩
    have kN575 := kN575 n (by omega)
    try simp only [wn] at kN575
    simp only [W, reduceIte, Nat.reduceEqDiff, Nat.reduceAdd, Nat.reduceSub, Nat.reduceLT, Nat.reduceLeDiff, Nat.reduceMul, a24, kN575, c577d]
theorem c26_0 (z0 : Bool) (v591 : List Int) (h : F26_0 v591 = some ()) : Ev fun n => (ex tab n).call 26 [.slice 0 0 v591.length v591.length 1 false] [.row z0 true (rowC v591)] = some (.slice 1 0 v591.length v591.length 1 false, [.row z0 true (rowC v591), .row true true (rowC v591)]) := by
  unfold F26_0 at h
  obtain ⟨g592, h⟩ := un_roomd h
  cases h
  refine ev_call (fn := a26) rfl ⟨0, fun n hn => ?_⟩
  simp only [W, reduceIte, Nat.reduceEqDiff, Nat.reduceAdd, Nat.reduceSub, Nat.reduceLT, Nat.reduceLeDiff, Nat.reduceMul, a26, g592]
theorem c133_0 (v607 : Int) (r611 : Bool) (h : F133_0 v607 = some r611) : Ev fun n => (ex tab n).call 133 [.int .i64 v607] [] = some (.bool r611, []) := by
  unfold F133_0 at h
  obtain ⟨r610, g608, h⟩ := un1 h
  obtain ⟨N609, kN609⟩ := c74_0 v607 1 1000 _ g608
  cases h
  refine ev_call (fn := a133) rfl ⟨N609, fun n hn => ?_⟩
  have kN609 := kN609 n (by omega)
  try simp only [wn] at kN609
  simp only [W, reduceIte, Nat.reduceEqDiff, Nat.reduceAdd, Nat.reduceSub, Nat.reduceLT, Nat.reduceLeDiff, Nat.reduceMul, a133, kN609]
noncomputable def h149l0_0 (z0 : Bool) (v601 : Int) (v603 : List Int) : (Int) → Env × Heap
  | v602 => ([(0, .slice 0 0 v603.length v603.length 1 false), (1, .func 133 [] []), (7, .int .i64 v601), (8, .int .i64 v602)], [.row z0 true (rowC v603)])
noncomputable def q149l0_0 (z0 : Bool) (v601 : Int) (v603 : List Int) : ((Unit) ⊕ (Int)) → AExit × Env × Heap
  | .inl (_) => (.exit 0, [(4, .undef)], [.row z0 true (rowC v603)])
  | .inr (r617) => (.ret, [(4, .int .i64 r617)], [.row z0 true (rowC v603)])
theorem k149l0_0 (z0 : Bool) (v601 : Int) (v603 : List Int) (s : Int) (o : (Unit) ⊕ (Int)) (h : L149l0_0 v601 v603 s = some o) : Ev fun n => loopAt [0, 1, 7, 8] [4] a149l0b (ex tab n) 1 (h149l0_0 z0 v601 v603 s) = some (q149l0_0 z0 v601 v603 o) := by
  refine iter_sound (S149l0_0 v601 v603) [0, 1, 7, 8] [4] a149l0b 1 (h149l0_0 z0 v601 v603) (q149l0_0 z0 v601 v603) ?_ _ _ _ h
  rintro v602 z h
  simp only [S149l0_0] at h
  by_cases c616 : v601 ≤ v602
  · rw [if_pos c616] at h
    have c616d := dt c616
    cases h
    refine ⟨0, fun n hn => ?_⟩
    simp only [W, reduceIte, Nat.reduceEqDiff, Nat.reduceAdd, Nat.reduceSub, Nat.reduceLT, Nat.reduceLeDiff, Nat.reduceMul, h149l0_0, q149l0_0, a149l0b, c616d]
  · rw [if_neg c616] at h
    have c616d := df c616
    obtain ⟨j604, x605, g606, h⟩ := un2 h
    obtain ⟨g6061, g6062⟩ := geti_in g606
    have g6063 := ac_Int g6062
    try simp only [wn] at g6061
    obtain ⟨r614, g612, h⟩ := un1 h
    obtain ⟨N613, kN613⟩ := c133_0 x605 _ g612
    by_cases c615 : r614 = true
    · rw [if_pos c615] at h
      have c615d := c615
      cases h
      refine ⟨N613, fun n hn => ?_⟩
      have kN613 := kN613 n (by omega)
      try simp only [wn] at kN613
      simp only [W, reduceIte, Nat.reduceEqDiff, Nat.reduceAdd, Nat.reduceSub, Nat.reduceLT, Nat.reduceLeDiff, Nat.reduceMul, h149l0_0, q149l0_0, a149l0b, c616d, g6061, g6063, kN613, c615d]
    · rw [if_neg c615] at h
      have c615d := bf c615
      cases h
      refine ⟨N613, fun n hn => ?_⟩
      have kN613 := kN613 n (by omega)
      try simp only [wn] at kN613
      simp only [W, reduceIte, Nat.reduceEqDiff, Nat.reduceAdd, Nat.reduceSub, Nat.reduceLT, Nat.reduceLeDiff, Nat.reduceMul, h149l0_0, q149l0_0, a149l0b, c616d, g6061, g6063, kN613, c615d]
theorem c149_0 (z0 : Bool) (v600 : List Int) (r621 : Int) (h : F149_0 v600 = some r621) : Ev fun n => (ex tab n).call 149 [.slice 0 0 v600.length v600.length 1 false, .func 133 [] []] [.row z0 true (rowC v600)] = some (.int .i64 r621, [.row z0 true (rowC v600)]) := by
  unfold F149_0 at h
  obtain ⟨g618_, g618, h⟩ := un1 h
  rcases g618_ with _ | r620
  · dsimp only at h
    have kN619 := k149l0_0 z0 (v600.length : Int) v600 0 _ g618
    obtain ⟨N619, kN619⟩ := kN619
    cases h
    refine ev_call (fn := a149) rfl ⟨N619, fun n hn => ?_⟩
    have kN619 := kN619 n (by omega)
    simp only [h149l0_0, q149l0_0, wn] at kN619
    simp only [W, reduceIte, Nat.reduceEqDiff, Nat.reduceAdd, Nat.reduceSub, Nat.reduceLT, Nat.reduceLeDiff, Nat.reduceMul, a149, a149l0, kN619, @x_loopAt]
  · dsimp only at h
    have kN619 := k149l0_0 z0 (v600.length : Int) v600 0 _ g618
    obtain ⟨N619, kN619⟩ := kN619
    cases h
    refine ev_call (fn := a149) rfl ⟨N619, fun n hn => ?_⟩
    have kN619 := kN619 n (by omega)
    simp only [h149l0_0, q149l0_0, wn] at kN619
    simp only [W, reduceIte, Nat.reduceEqDiff, Nat.reduceAdd, Nat.reduceSub, Nat.reduceLT, Nat.reduceLeDiff, Nat.reduceMul, a149, a149l0, kN619, @x_loopAt]
theorem c119_0 (z0 : Bool) (v599 : List Int) (r625 : Bool) (h : F119_0 v599 = some r625) : Ev fun n => (ex tab n).call 119 [.slice 0 0 v599.length v599.length 1 false, .func 133 [] []] [.row z0 true (rowC v599)] = some (.bool r625, [.row z0 true (rowC v599)]) := by
  unfold F119_0 at h
  obtain ⟨r624, g622, h⟩ := un1 h
  obtain ⟨N623, kN623⟩ := c149_0 z0 v599 _ g622
  cases h
  refine ev_call (fn := a119) rfl ⟨N623, fun n hn => ?_⟩
  have kN623 := kN623 n (by omega)
  try simp only [wn] at kN623
  simp only [W, reduceIte, Nat.reduceEqDiff, Nat.reduceAdd, Nat.reduceSub, Nat.reduceLT, Nat.reduceLeDiff, Nat.reduceMul, a119, kN623]
theorem c80_0 (z0 : Bool) (v598 : List Int) (r641 : Int) (h : F80_0 v598 = some r641) : Ev fun n => (ex tab n).call 80 [.slice 0 0 v598.length v598.length 1 false] [.row z0 true (rowC v598)] = some (.int .i64 r641, [.row z0 true (rowC v598)]) := by
  unfold F80_0 at h
  obtain ⟨r628, g626, h⟩ := un1 h
  obtain ⟨N627, kN627⟩ := c119_0 z0 v598 _ g626
  obtain ⟨r631, g629, h⟩ := un1 h
  obtain ⟨N630, kN630⟩ := c72_0 (!(decide ((v598.length : Int) ≤ 0))) 10 _ g629
  obtain ⟨r634, g632, h⟩ := un1 h
  obtain ⟨N633, kN633⟩ := c72_0 (decide ((v598.length : Int) ≤ 8)) 8 _ g632
  obtain ⟨r637, g635, h⟩ := un1 h
  obtain ⟨N636, kN636⟩ := c72_0 (!r628) 2 _ g635
  obtain ⟨r640, g638, h⟩ := un1 h
  obtain ⟨N639, kN639⟩ := c71_0 true ([r631, r634, r637] : List Int) _ g638
  cases h
  refine ev_call (fn := a80) rfl ⟨N627 + N630 + N633 + N636 + N639, fun n hn => ?_⟩
  have kN627 := kN627 n (by omega)
  try simp only [wn] at kN627
  have kN630 := kN630 n (by omega)
  try simp only [wn] at kN630
  have kN633 := kN633 n (by omega)
  try simp only [wn] at kN633
  have kN636 := kN636 n (by omega)
  try simp only [wn] at kN636
  have kN639 := kN639 n (by omega)
  try simp only [wn] at kN639
  simp only [W, reduceIte, Nat.reduceEqDiff, Nat.reduceAdd, Nat.reduceSub, Nat.reduceLT, Nat.reduceLeDiff, Nat.reduceMul, a80, kN627, kN630, kN633, kN636, kN639]
theorem c81_0 (v645 : Int) (r652 : Int) (h : F81_0 v645 = some r652) : Ev fun n => (ex tab n).call 81 [.int .i64 v645] [] = some (.int .i64 r652, []) := by
  unfold F81_0 at h
  obtain ⟨r648, g646, h⟩ := un1 h
  obtain ⟨N647, kN647⟩ := c74_0 v645 0 1000000000 _ g646
  obtain ⟨r651, g649, h⟩ := un1 h
  obtain ⟨N650, kN650⟩ := c72_0 r648 2 _ g649
  cases h
  refine ev_call (fn := a81) rfl ⟨N647 + N650, fun n hn => ?_⟩
  have kN647 := kN647 n (by omega)
  try simp only [wn] at kN647
  have kN650 := kN650 n (by omega)
  try simp only [wn] at kN650
  simp only [W, reduceIte, Nat.reduceEqDiff, Nat.reduceAdd, Nat.reduceSub, Nat.reduceLT, Nat.reduceLeDiff, Nat.reduceMul, a81, kN647, kN650]
theorem c134_0 (z0 : Bool) (z1 : Bool) (v683 : Int) (v684 : Int) (v685 : Int) (r686 : Bool) (h : F134_0 v683 v684 v685 = some r686) : Ev fun n => (ex tab n).call 134 [.int .i64 v683, .ptr 0 0, .ptr 1 0] [.row z0 true [.int .i64 v684], .row z1 true [.int .i64 v685]] = some (.bool r686, [.row z0 true [.int .i64 v684], .row z1 true [.int .i64 v685]]) := by
  unfold F134_0 at h
  cases h
  refine ev_call (fn := a134) rfl ⟨0, fun n hn => ?_⟩
  simp only [W, reduceIte, Nat.reduceEqDiff, Nat.reduceAdd, Nat.reduceSub, Nat.reduceLT, Nat.reduceLeDiff, Nat.reduceMul, a134]
noncomputable def h84l0_0 (z0 : Bool) (z1 : Bool) (v680 : Int) (v681 : Int) : (Int × Int) → Env × Heap
  | (v678, v679) => ([(0, .int .i64 v678), (1, .int .i64 v679), (2, .func 134 [] [.ptr 0 0, .ptr 1 0])], [.row z0 true [.int .i64 v680], .row z1 true [.int .i64 v681]])
noncomputable def q84l0_0 (z0 : Bool) (z1 : Bool) (v680 : Int) (v681 : Int) : (Int) → AExit × Env × Heap
  | r692 => (.exit 0, [(0, .int .i64 r692), (6, .undef)], [.row z0 true [.int .i64 v680], .row z1 true [.int .i64 v681]])
theorem k84l0_0 (z0 : Bool) (z1 : Bool) (v680 : Int) (v681 : Int) (s : Int × Int) (o : Int) (h : L84l0_0 v680 v681 s = some o) : Ev fun n => loopAt [0, 1, 2] [0, 6] a84l0b (ex tab n) 2 (h84l0_0 z0 z1 v680 v681 s) = some (q84l0_0 z0 z1 v680 v681 o) := by
  refine iter_sound (S84l0_0 v680 v681) [0, 1, 2] [0, 6] a84l0b 2 (h84l0_0 z0 z1 v680 v681) (q84l0_0 z0 z1 v680 v681) ?_ _ _ _ h
  rintro ⟨v678, v679⟩ z h
  simp only [S84l0_0] at h
  by_cases c691 : v679 ≤ v678
  · rw [if_pos c691] at h
    have c691d := dt c691
    cases h
    refine ⟨0, fun n hn => ?_⟩
    simp only [W, reduceIte, Nat.reduceEqDiff, Nat.reduceAdd, Nat.reduceSub, Nat.reduceLT, Nat.reduceLeDiff, Nat.reduceMul, h84l0_0, q84l0_0, a84l0b, c691d]
  · rw [if_neg c691] at h
    have c691d := df c691
    have d682 := fun x => bin_quo .i64 x 2 (by decide)
    obtain ⟨r689, g687, h⟩ := un1 h
    obtain ⟨N688, kN688⟩ := c134_0 z0 z1 (aw .i64 (v678 + (aw .i64 (Int.tdiv (aw .i64 (v679 - v678)) 2)))) v680 v681 _ g687
    by_cases c690 : r689 = true
    · rw [if_pos c690] at h
      have c690d := c690
      cases h
      refine ⟨N688, fun n hn => ?_⟩
      have kN688 := kN688 n (by omega)
      try simp only [wn] at kN688
      simp only [W, reduceIte, Nat.reduceEqDiff, Nat.reduceAdd, Nat.reduceSub, Nat.reduceLT, Nat.reduceLeDiff, Nat.reduceMul, h84l0_0, q84l0_0, a84l0b, c691d, d682, kN688, c690d]
    · rw [if_neg c690] at h
      have c690d := bf c690
      cases h
      refine ⟨N688, fun n hn => ?_⟩
      have kN688 := kN688 n (by omega)
      try simp only [wn] at kN688
      simp only [W, reduceIte, Nat.reduceEqDiff, Nat.reduceAdd, Nat.reduceSub, Nat.reduceLT, Nat.reduceLeDiff, Nat.reduceMul, h84l0_0, q84l0_0, a84l0b, c691d, d682, kN688, c690d]
theorem c84_0 (z0 : Bool) (z1 : Bool) (v674 : Int) (v675 : Int) (v676 : Int) (v677 : Int) (r696 : Int) (h : F84_0 v674 v675 v676 v677 = some r696) : Ev fun n => (ex tab n).call 84 [.int .i64 v674, .int .i64 v675, .func 134 [] [.ptr 0 0, .ptr 1 0]] [.row z0 true [.int .i64 v676], .row z1 true [.int .i64 v677]] = some (.int .i64 r696, [.row z0 true [.int .i64 v676], .row z1 true [.int .i64 v677]]) := by
  unfold F84_0 at h
  obtain ⟨r695, g693, h⟩ := un1 h
  have kN694 := k84l0_0 z0 z1 v676 v677 (v674, v675) _ g693
  obtain ⟨N694, kN694⟩ := kN694
  cases h
  refine ev_call (fn := a84) rfl ⟨N694, fun n hn => ?_⟩
  have kN694 := kN694 n (by omega)
  simp only [h84l0_0, q84l0_0, wn] at kN694
  simp only [W, reduceIte, Nat.reduceEqDiff, Nat.reduceAdd, Nat.reduceSub, Nat.reduceLT, Nat.reduceLeDiff, Nat.reduceMul, a84, a84l0, kN694, @x_loopAt]
theorem c83_0 (v672 : Int) (v673 : Int) (r701 : Int) (r702 : Int) (h : F83_0 v672 v673 = some (r701, r702)) : Ev fun n => (ex tab n).call 83 [.int .i64 v672, .int .i64 v673] [] = some (.agg [.int .i64 r701, .int .i64 r702], []) := by
  unfold F83_0 at h
  obtain ⟨r699, g697, h⟩ := un1 h
  obtain ⟨N698, kN698⟩ := c84_0 true true 0 31623 v672 v673 _ g697
  by_cases c700 : (aw .i64 ((aw .i64 (v672 * r699)) * r699)) ≤ v673
  · rw [if_pos c700] at h
    have c700d := dt c700
    cases h
    refine ev_call (fn := a83) rfl ⟨N698, fun n hn => ?_⟩
    have kN698 := kN698 n (by omega)
    try simp only [wn] at kN698
    simp only [W, reduceIte, Nat.reduceEqDiff, Nat.reduceAdd, Nat.reduceSub, Nat.reduceLT, Nat.reduceLeDiff, Nat.reduceMul, a83, kN698, c700d]
  · rw [if_neg c700] at h
    have c700d := df c700
    cases h
    refine ev_call (fn := a83) rfl ⟨N698, fun n hn => ?_⟩
    have kN698 := kN698 n (by omega)
    try simp only [wn] at kN698
    simp only [W, reduceIte, Nat.reduceEqDiff, Nat.reduceAdd, Nat.reduceSub, Nat.reduceLT, Nat.reduceLeDiff, Nat.reduceMul, a83, kN698, c700d]
noncomputable def h82l0_0 (z0 : Bool) (v708 : Int) (v709 : Int) (v711 : List Int) : (Int × Int × Int) → Env × Heap
  | (v710, v714, v715) => ([(1, .int .i64 v708), (4, .ptr 1 0), (5, .ptr 2 0), (9, .slice 0 0 v711.length v711.length 1 false), (10, .int .i64 v709), (11, .int .i64 v710)], [.row z0 true (rowC v711), .row true true [.int .i64 0, .int .i64 0], .row true true [.int .i64 v714, .int .i64 v715]])
noncomputable def q82l0_0 (z0 : Bool) (v708 : Int) (v709 : Int) (v711 : List Int) : (Int × Int) → AExit × Env × Heap
  | (r724, r725) => (.exit 0, [(4, .ptr 1 0), (5, .ptr 2 0)], [.row z0 true (rowC v711), .row true true [.int .i64 0, .int .i64 0], .row true true [.int .i64 r724, .int .i64 r725]])
theorem k82l0_0 (z0 : Bool) (v708 : Int) (v709 : Int) (v711 : List Int) (s : Int × Int × Int) (o : Int × Int) (h : L82l0_0 v708 v709 v711 s = some o) : Ev fun n => loopAt [1, 4, 5, 9, 10, 11] [4, 5] a82l0b (ex tab n) 1 (h82l0_0 z0 v708 v709 v711 s) = some (q82l0_0 z0 v708 v709 v711 o) := by
  refine iter_sound (S82l0_0 v708 v709 v711) [1, 4, 5, 9, 10, 11] [4, 5] a82l0b 1 (h82l0_0 z0 v708 v709 v711) (q82l0_0 z0 v708 v709 v711) ?_ _ _ _ h
  rintro ⟨v710, v714, v715⟩ z h
  simp only [S82l0_0] at h
  by_cases c723 : v709 ≤ v710
  · rw [if_pos c723] at h
    have c723d := dt c723
    cases h
    refine ⟨0, fun n hn => ?_⟩
    simp only [W, reduceIte, Nat.reduceEqDiff, Nat.reduceAdd, Nat.reduceSub, Nat.reduceLT, Nat.reduceLeDiff, Nat.reduceMul, h82l0_0, q82l0_0, a82l0b, c723d]
  · rw [if_neg c723] at h
    have c723d := df c723
    obtain ⟨j716, x717, g718, h⟩ := un2 h
    obtain ⟨g7181, g7182⟩ := geti_in g718
    have g7183 := ac_Int g7182
    try simp only [wn] at g7181
    obtain ⟨r721, r722, g719, h⟩ := un2 h
    obtain ⟨N720, kN720⟩ := c83_0 x717 v708 _ _ g719
    cases h
    refine ⟨N720, fun n hn => ?_⟩
    have kN720 := kN720 n (by omega)
    try simp only [wn] at kN720
    simp only [W, reduceIte, Nat.reduceEqDiff, Nat.reduceAdd, Nat.reduceSub, Nat.reduceLT, Nat.reduceLeDiff, Nat.reduceMul, h82l0_0, q82l0_0, a82l0b, c723d, g7181, g7183, kN720]
theorem c82_0 (z0 : Bool) (v659 : Int) (v660 : List Int) (r730 : Int) (r731 : Int) (h : F82_0 v659 v660 = some (r730, r731)) : Ev fun n => (ex tab n).call 82 [.slice 0 0 v660.length v660.length 1 false, .int .i64 v659] [.row z0 true (rowC v660)] = some (.agg [.int .i64 r730, .int .i64 r731], [.row z0 true (rowC v660)]) := by
  unfold F82_0 at h
  obtain ⟨r728, r729, g726, h⟩ := un2 h
  have kN727 := k82l0_0 z0 v659 (v660.length : Int) v660 (0, 0, 0) _ g726
  obtain ⟨N727, kN727⟩ := kN727
  cases h
  refine ev_call (fn := a82) rfl ⟨N727, fun n hn => ?_⟩
  have kN727 := kN727 n (by omega)
  simp only [h82l0_0, q82l0_0, wn] at kN727
  simp only [W, reduceIte, Nat.reduceEqDiff, Nat.reduceAdd, Nat.reduceSub, Nat.reduceLT, Nat.reduceLeDiff, Nat.reduceMul, a82, a82l0, kN727, @x_loopAt]
theorem c25_0 (z0 : Bool) (v596 : Int) (v597 : List Int) (r737 : Int) (r738 : Int) (r739 : Int) (h : F25_0 v596 v597 = some (r737, r738, r739)) : Ev fun n => (ex tab n).call 25 [.slice 0 0 v597.length v597.length 1 false, .int .i64 v596] [.row z0 true (rowC v597)] = some (.tup [.agg [.int .i64 r737, .int .i64 r738], .int .i64 r739], [.row z0 true (rowC v597)]) := by
  unfold F25_0 at h
  obtain ⟨r644, g642, h⟩ := un1 h
  obtain ⟨N643, kN643⟩ := c80_0 z0 v597 _ g642
  obtain ⟨r655, g653, h⟩ := un1 h
  obtain ⟨N654, kN654⟩ := c81_0 v596 _ g653
  obtain ⟨r658, g656, h⟩ := un1 h
  obtain ⟨N657, kN657⟩ := c71_0 true ([r644, r655] : List Int) _ g656
  by_cases c736 : r658 = 0
  · rw [if_pos c736] at h
    have c736d := dt c736
    obtain ⟨r734, r735, g732, h⟩ := un2 h
    obtain ⟨N733, kN733⟩ := c82_0 z0 v596 v597 _ _ g732
    cases h
    refine ev_call (fn := a25) rfl ⟨N643 + N654 + N657 + N733, fun n hn => ?_⟩
    have kN643 := kN643 n (by omega)
    try simp only [wn] at kN643
    have kN654 := kN654 n (by omega)
    try simp only [wn] at kN654
    have kN657 := kN657 n (by omega)
    try simp only [wn] at kN657
    have kN733 := kN733 n (by omega)
    try simp only [wn] at kN733
    simp only [W, reduceIte, Nat.reduceEqDiff, Nat.reduceAdd, Nat.reduceSub, Nat.reduceLT, Nat.reduceLeDiff, Nat.reduceMul, a25, kN643, kN654, kN657, c736d, kN733]
  · rw [if_neg c736] at h
    have c736d := df c736
    cases h
    refine ev_call (fn := a25) rfl ⟨N643 + N654 + N657, fun n hn => ?_⟩
    have kN643 := kN643 n (by omega)
    try simp only [wn] at kN643
    have kN654 := kN654 n (by omega)
    try simp only [wn] at kN654
    have kN657 := kN657 n (by omega)
    try simp only [wn] at kN657
    simp only [W, reduceIte, Nat.reduceEqDiff, Nat.reduceAdd, Nat.reduceSub, Nat.reduceLT, Nat.reduceLeDiff, Nat.reduceMul, a25, kN643, kN654, kN657, c736d]
theorem c26_1 (z0 : Bool) (v755 : Nat) (v756 : Nat) (v757 : List Int) (r761 : List Int) (h : F26_1 v755 v756 v757 = some r761) : Ev fun n => (ex tab n).call 26 [.slice 0 0 v755 v756 1 false] [.row z0 true (rowC v757)] = some (.slice 1 0 r761.length r761.length 1 false, [.row z0 true (rowC v757), .row true true (rowC r761)]) := by
  unfold F26_1 at h
  obtain ⟨l759, g758, h⟩ := un1 h
  have g7583 := part_row g758
  try simp only [wn] at g7583
  obtain ⟨g760, h⟩ := un_roomd h
  cases h
  refine ev_call (fn := a26) rfl ⟨0, fun n hn => ?_⟩
  simp only [W, reduceIte, Nat.reduceEqDiff, Nat.reduceAdd, Nat.reduceSub, Nat.reduceLT, Nat.reduceLeDiff, Nat.reduceMul, a26, g7583, g760]
theorem c27_0 (v786 : Int) (v787 : Int) (r802 : Int) (r803 : Int) (r804 : Int) (h : F27_0 v786 v787 = some (r802, r803, r804)) : Ev fun n => (ex tab n).call 27 [.int .i64 v786, .int .i64 v787] [] = some (.tup [.agg [.int .i64 r802, .int .i64 r803], .int .i64 r804], []) := by
  unfold F27_0 at h
  obtain ⟨r790, g788, h⟩ := un1 h
  obtain ⟨N789, kN789⟩ := c80_0 true ([v786] : List Int) _ g788
  obtain ⟨r793, g791, h⟩ := un1 h
  obtain ⟨N792, kN792⟩ := c81_0 v787 _ g791
  obtain ⟨r796, g794, h⟩ := un1 h
  obtain ⟨N795, kN795⟩ := c71_0 true ([r790, r793] : List Int) _ g794
  by_cases c801 : r796 = 0
  · rw [if_pos c801] at h
    have c801d := dt c801
    obtain ⟨r799, r800, g797, h⟩ := un2 h
    obtain ⟨N798, kN798⟩ := c83_0 v786 v787 _ _ g797
    cases h
    refine ev_call (fn := a27) rfl ⟨N789 + N792 + N795 + N798, fun n hn => ?_⟩
    have kN789 := kN789 n (by omega)
    try simp only [wn] at kN789
    have kN792 := kN792 n (by omega)
    try simp only [wn] at kN792
    have kN795 := kN795 n (by omega)
    try simp only [wn] at kN795
    have kN798 := kN798 n (by omega)
    try simp only [wn] at kN798
    simp only [W, reduceIte, Nat.reduceEqDiff, Nat.reduceAdd, Nat.reduceSub, Nat.reduceLT, Nat.reduceLeDiff, Nat.reduceMul, a27, kN789, kN792, kN795, c801d, kN798]
  · rw [if_neg c801] at h
    have c801d := df c801
    cases h
    refine ev_call (fn := a27) rfl ⟨N789 + N792 + N795, fun n hn => ?_⟩
    have kN789 := kN789 n (by omega)
    try simp only [wn] at kN789
    have kN792 := kN792 n (by omega)
    try simp only [wn] at kN792
    have kN795 := kN795 n (by omega)
    try simp only [wn] at kN795
    simp only [W, reduceIte, Nat.reduceEqDiff, Nat.reduceAdd, Nat.reduceSub, Nat.reduceLT, Nat.reduceLeDiff, Nat.reduceMul, a27, kN789, kN792, kN795, c801d]
noncomputable def h4l0_0 (z0 : Bool) (v777 : Int) (v779 : List Int) (v780 : Int) (v781 : Int) : (Int) → Env × Heap
  | v778 => ([(0, .slice 0 0 v779.length v779.length 1 false), (2, .int .i64 v777), (4, .ptr 1 0), (13, .int .i64 v778)], [.row z0 true (rowC v779), .row true true [.int .i64 v780, .int .i64 v781]])
noncomputable def q4l0_0 (z0 : Bool) (v777 : Int) (v779 : List Int) (v780 : Int) (v781 : Int) : ((Unit) ⊕ (Unit)) → AExit × Env × Heap
  | .inl (_) => (.exit 0, [(0, .slice 0 0 v779.length v779.length 1 false), (2, .int .i64 v777), (6, .undef)], [.row z0 true (rowC v779)])
  | .inr (_) => (.ret, [(0, .slice 0 0 v779.length v779.length 1 false), (2, .int .i64 v777), (6, .bool false)], [.row z0 true (rowC v779)])
theorem k4l0_0 (z0 : Bool) (v777 : Int) (v779 : List Int) (v780 : Int) (v781 : Int) (s : Int) (o : (Unit) ⊕ (Unit)) (h : L4l0_0 v777 v779 v780 v781 s = some o) : Ev fun n => loopAt [0, 2, 4, 13] [0, 2, 6] a4l0b (ex tab n) 1 (h4l0_0 z0 v777 v779 v780 v781 s) = some (q4l0_0 z0 v777 v779 v780 v781 o) := by
  refine iter_sound (S4l0_0 v777 v779 v780 v781) [0, 2, 4, 13] [0, 2, 6] a4l0b 1 (h4l0_0 z0 v777 v779 v780 v781) (q4l0_0 z0 v777 v779 v780 v781) ?_ _ _ _ h
  rintro v778 z h
  simp only [S4l0_0] at h
  by_cases c820 : (v779.length : Int) ≤ v778
  · rw [if_pos c820] at h
    have c820d := dt c820
    cases h
    refine ⟨0, fun n hn => ?_⟩
    simp only [W, reduceIte, Nat.reduceEqDiff, Nat.reduceAdd, Nat.reduceSub, Nat.reduceLT, Nat.reduceLeDiff, Nat.reduceMul, h4l0_0, q4l0_0, a4l0b, c820d, wd]
  · rw [if_neg c820] at h
    have c820d := df c820
    obtain ⟨j782, x783, g784, h⟩ := un2 h
    obtain ⟨g7841, g7842⟩ := geti_in g784
    have g7843 := ac_Int g7842
    try simp only [wn] at g7841
    have d785 : inx (0 : Int) 2 = some 0 := by rfl
    obtain ⟨r807, r808, r809, g805, h⟩ := un3 h
    obtain ⟨N806, kN806⟩ := c27_0 x783 v780 _ _ _ g805
    by_cases c819 : r809 = 0
    · rw [if_pos c819] at h
      have c819d := dt c819
      obtain ⟨r812, g810, h⟩ := un1 h
      obtain ⟨N811, kN811⟩ := c20_0 r807 0 r808 _ g810
      by_cases c818 : r812 = true
      · rw [if_pos c818] at h
        have c818d := c818
        by_cases c817 : r808 ≤ 40000
        · rw [if_pos c817] at h
          have c817d := dt c817
          have d813 : inx (0 : Int) 2 = some 0 := by rfl
          by_cases c816 : (aw .i64 ((aw .i64 (x783 * r807)) * r807)) ≤ v780
          · rw [if_pos c816] at h
            have c816d := dt c816
            have d814 : inx (0 : Int) 2 = some 0 := by rfl
            by_cases c815 : v780 ≤ (aw .i64 ((aw .i64 (x783 * r808)) * r808))
            · rw [if_pos c815] at h
              have c815d := dt c815
              cases h
              refine ⟨N806 + N811, fun n hn => ?_⟩
              have kN806 := kN806 n (by omega)
              try simp only [wn] at kN806
              have kN811 := kN811 n (by omega)
              try simp only [wn] at kN811
              simp only [W, reduceIte, Nat.reduceEqDiff, Nat.reduceAdd, Nat.reduceSub, Nat.reduceLT, Nat.reduceLeDiff, Nat.reduceMul, h4l0_0, q4l0_0, a4l0b, c820d, g7841, g7843, d785, kN806, c819d, kN811, c818d, c817d, d813, c816d, d814, c815d, wd]
            · rw [if_neg c815] at h
              have c815d := df c815
              cases h
              refine ⟨N806 + N811, fun n hn => ?_⟩
              have kN806 := kN806 n (by omega)
              try simp only [wn] at kN806
              have kN811 := kN811 n (by omega)
              try simp only [wn] at kN811
              simp only [W, reduceIte, Nat.reduceEqDiff, Nat.reduceAdd, Nat.reduceSub, Nat.reduceLT, Nat.reduceLeDiff, Nat.reduceMul, h4l0_0, q4l0_0, a4l0b, c820d, g7841, g7843, d785, kN806, c819d, kN811, c818d, c817d, d813, c816d, d814, c815d, wd]
          · rw [if_neg c816] at h
            have c816d := df c816
            cases h
            refine ⟨N806 + N811, fun n hn => ?_⟩
            have kN806 := kN806 n (by omega)
            try simp only [wn] at kN806
            have kN811 := kN811 n (by omega)
            try simp only [wn] at kN811
            simp only [W, reduceIte, Nat.reduceEqDiff, Nat.reduceAdd, Nat.reduceSub, Nat.reduceLT, Nat.reduceLeDiff, Nat.reduceMul, h4l0_0, q4l0_0, a4l0b, c820d, g7841, g7843, d785, kN806, c819d, kN811, c818d, c817d, d813, c816d, wd]
        · rw [if_neg c817] at h
          have c817d := df c817
          cases h
          refine ⟨N806 + N811, fun n hn => ?_⟩
          have kN806 := kN806 n (by omega)
          try simp only [wn] at kN806
          have kN811 := kN811 n (by omega)
          try simp only [wn] at kN811
          simp only [W, reduceIte, Nat.reduceEqDiff, Nat.reduceAdd, Nat.reduceSub, Nat.reduceLT, Nat.reduceLeDiff, Nat.reduceMul, h4l0_0, q4l0_0, a4l0b, c820d, g7841, g7843, d785, kN806, c819d, kN811, c818d, c817d, wd]
      · rw [if_neg c818] at h
        have c818d := bf c818
        cases h
        refine ⟨N806 + N811, fun n hn => ?_⟩
        have kN806 := kN806 n (by omega)
        try simp only [wn] at kN806
        have kN811 := kN811 n (by omega)
        try simp only [wn] at kN811
        simp only [W, reduceIte, Nat.reduceEqDiff, Nat.reduceAdd, Nat.reduceSub, Nat.reduceLT, Nat.reduceLeDiff, Nat.reduceMul, h4l0_0, q4l0_0, a4l0b, c820d, g7841, g7843, d785, kN806, c819d, kN811, c818d, wd]
    · rw [if_neg c819] at h
      have c819d := df c819
      cases h
      refine ⟨N806, fun n hn => ?_⟩
      have kN806 := kN806 n (by omega)
      try simp only [wn] at kN806
      simp only [W, reduceIte, Nat.reduceEqDiff, Nat.reduceAdd, Nat.reduceSub, Nat.reduceLT, Nat.reduceLeDiff, Nat.reduceMul, h4l0_0, q4l0_0, a4l0b, c820d, g7841, g7843, d785, kN806, c819d, wd]
end Go.AI
