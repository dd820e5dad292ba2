/-
  Functions, walked through: water.DropFor$1, water.least, water.DropFor$2, water.least, water.DropFor.
-/
import Derived.Test.YtfglifekecijjaaBAiY
import Derived.Test.YtfglifekecijjaaBAiTab
import Derived.Test.YtfglifekecijjaaBAiAwake
import Derived.Test.YtfglifekecijjaaBWnF
import Derived.Test.YtfglifekecijjaaBWn0
import Derived.Test.YtfglifekecijjaaBWn5
set_option linter.unusedVariables false
set_option linter.unusedSimpArgs false
set_option maxRecDepth 100000
set_option maxHeartbeats 4000000
namespace Go.AI
theorem c85_0 (z0 : Bool) (z1 : Bool) (z2 : Bool) (v848 : Int) (v849 : List Int) (v850 : Int) (r855 : Bool) (h : F85_0 v848 v849 v850 = some r855) : Ev fun n => (ex tab n).call 85 [.int .i64 v848, .ptr 0 0, .ptr 2 0] [.row z0 false [.slice 1 0 v849.length v849.length 1 false], .row z1 true (rowC v849), .row z2 true [.int .i64 v850]] = some (.bool r855, [.row z0 false [.slice 1 0 v849.length v849.length 1 false], .row z1 true (rowC v849), .row z2 true [.int .i64 v850]]) := by
  unfold F85_0 at h
  obtain ⟨r853, r854, g851, h⟩ := un2 h
  obtain ⟨N852, kN852⟩ := c82_0 false v848 v849 _ _ g851
  cases h
  refine ev_call (fn := a85) rfl ⟨N852, fun n hn => ?_⟩
  have kN852 := kN852 n (by omega)
  try simp only [wn] at kN852
  simp only [W, reduceIte, Nat.reduceEqDiff, Nat.reduceAdd, Nat.reduceSub, Nat.reduceLT, Nat.reduceLeDiff, Nat.reduceMul, a85, kN852, wd]
noncomputable def h84l0_1 (z0 : Bool) (z1 : Bool) (z2 : Bool) (v845 : List Int) (v846 : Int) : (Int × Int) → Env × Heap
  | (v843, v844) => ([(0, .int .i64 v843), (1, .int .i64 v844), (2, .func 85 [] [.ptr 0 0, .ptr 2 0])], [.row z0 false [.slice 1 0 v845.length v845.length 1 false], .row z1 true (rowC v845), .row z2 true [.int .i64 v846]])
noncomputable def q84l0_1 (z0 : Bool) (z1 : Bool) (z2 : Bool) (v845 : List Int) (v846 : Int) : (Int) → AExit × Env × Heap
  | r861 => (.exit 0, [(0, .int .i64 r861), (6, .undef)], [.row z0 false [.slice 1 0 v845.length v845.length 1 false], .row z1 true (rowC v845), .row z2 true [.int .i64 v846]])
theorem k84l0_1 (z0 : Bool) (z1 : Bool) (z2 : Bool) (v845 : List Int) (v846 : Int) (s : Int × Int) (o : Int) (h : L84l0_1 v845 v846 s = some o) : Ev fun n => loopAt [0, 1, 2] [0, 6] a84l0b (ex tab n) 3 (h84l0_1 z0 z1 z2 v845 v846 s) = some (q84l0_1 z0 z1 z2 v845 v846 o) := by
  refine iter_sound (S84l0_1 v845 v846) [0, 1, 2] [0, 6] a84l0b 3 (h84l0_1 z0 z1 z2 v845 v846) (q84l0_1 z0 z1 z2 v845 v846) ?_ _ _ _ h
  rintro ⟨v843, v844⟩ z h
  simp only [S84l0_1] at h
  by_cases c860 : v844 ≤ v843
  · rw [if_pos c860] at h
    have c860d := dt c860
    cases h
    refine ⟨0, fun n hn => ?_⟩
    simp only [W, reduceIte, Nat.reduceEqDiff, Nat.reduceAdd, Nat.reduceSub, Nat.reduceLT, Nat.reduceLeDiff, Nat.reduceMul, h84l0_1, q84l0_1, a84l0b, c860d]
  · rw [if_neg c860] at h
    have c860d := df c860
    have d847 := fun x => bin_quo .i64 x 2 (by decide)
    obtain ⟨r858, g856, h⟩ := un1 h
    obtain ⟨N857, kN857⟩ := c85_0 z0 z1 z2 (aw .i64 (v843 + (aw .i64 (Int.tdiv (aw .i64 (v844 - v843)) 2)))) v845 v846 _ g856
    by_cases c859 : r858 = true
    · rw [if_pos c859] at h
      have c859d := c859
      cases h
      refine ⟨N857, fun n hn => ?_⟩
      have kN857 := kN857 n (by omega)
      try simp only [wn] at kN857
      simp only [W, reduceIte, Nat.reduceEqDiff, Nat.reduceAdd, Nat.reduceSub, Nat.reduceLT, Nat.reduceLeDiff, Nat.reduceMul, h84l0_1, q84l0_1, a84l0b, c860d, d847, kN857, c859d]
    · rw [if_neg c859] at h
      have c859d := bf c859
      cases h
      refine ⟨N857, fun n hn => ?_⟩
      have kN857 := kN857 n (by omega)
      try simp only [wn] at kN857
      simp only [W, reduceIte, Nat.reduceEqDiff, Nat.reduceAdd, Nat.reduceSub, Nat.reduceLT, Nat.reduceLeDiff, Nat.reduceMul, h84l0_1, q84l0_1, a84l0b, c860d, d847, kN857, c859d]
theorem c84_1 (z0 : Bool) (z1 : Bool) (z2 : Bool) (v839 : Int) (v840 : Int) (v841 : List Int) (v842 : Int) (r865 : Int) (h : F84_1 v839 v840 v841 v842 = some r865) : Ev fun n => (ex tab n).call 84 [.int .i64 v839, .int .i64 v840, .func 85 [] [.ptr 0 0, .ptr 2 0]] [.row z0 false [.slice 1 0 v841.length v841.length 1 false], .row z1 true (rowC v841), .row z2 true [.int .i64 v842]] = some (.int .i64 r865, [.row z0 false [.slice 1 0 v841.length v841.length 1 false], .row z1 true (rowC v841), .row z2 true [.int .i64 v842]]) := by
  unfold F84_1 at h
  obtain ⟨r864, g862, h⟩ := un1 h
  have kN863 := k84l0_1 z0 z1 z2 v841 v842 (v839, v840) _ g862
  obtain ⟨N863, kN863⟩ := kN863
  cases h
  refine ev_call (fn := a84) rfl ⟨N863, fun n hn => ?_⟩
  have kN863 := kN863 n (by omega)
  simp only [h84l0_1, q84l0_1, wn] at kN863
  simp only [W, reduceIte, Nat.reduceEqDiff, Nat.reduceAdd, Nat.reduceSub, Nat.reduceLT, Nat.reduceLeDiff, Nat.reduceMul, a84, a84l0, kN863, @x_loopAt]
theorem c86_0 (z0 : Bool) (z1 : Bool) (z2 : Bool) (v878 : Int) (v879 : List Int) (v880 : Int) (r885 : Bool) (h : F86_0 v878 v879 v880 = some r885) : Ev fun n => (ex tab n).call 86 [.int .i64 v878, .ptr 0 0, .ptr 2 0] [.row z0 false [.slice 1 0 v879.length v879.length 1 false], .row z1 true (rowC v879), .row z2 true [.int .i64 v880]] = some (.bool r885, [.row z0 false [.slice 1 0 v879.length v879.length 1 false], .row z1 true (rowC v879), .row z2 true [.int .i64 v880]]) := by
  unfold F86_0 at h
  obtain ⟨r883, r884, g881, h⟩ := un2 h
  obtain ⟨N882, kN882⟩ := c82_0 false v878 v879 _ _ g881
  cases h
  refine ev_call (fn := a86) rfl ⟨N882, fun n hn => ?_⟩
  have kN882 := kN882 n (by omega)
  try simp only [wn] at kN882
  simp only [W, reduceIte, Nat.reduceEqDiff, Nat.reduceAdd, Nat.reduceSub, Nat.reduceLT, Nat.reduceLeDiff, Nat.reduceMul, a86, kN882, wd]
noncomputable def h84l0_2 (z0 : Bool) (z1 : Bool) (z2 : Bool) (v875 : List Int) (v876 : Int) : (Int × Int) → Env × Heap
  | (v873, v874) => ([(0, .int .i64 v873), (1, .int .i64 v874), (2, .func 86 [] [.ptr 0 0, .ptr 2 0])], [.row z0 false [.slice 1 0 v875.length v875.length 1 false], .row z1 true (rowC v875), .row z2 true [.int .i64 v876]])
noncomputable def q84l0_2 (z0 : Bool) (z1 : Bool) (z2 : Bool) (v875 : List Int) (v876 : Int) : (Int) → AExit × Env × Heap
  | r891 => (.exit 0, [(0, .int .i64 r891), (6, .undef)], [.row z0 false [.slice 1 0 v875.length v875.length 1 false], .row z1 true (rowC v875), .row z2 true [.int .i64 v876]])
theorem k84l0_2 (z0 : Bool) (z1 : Bool) (z2 : Bool) (v875 : List Int) (v876 : Int) (s : Int × Int) (o : Int) (h : L84l0_2 v875 v876 s = some o) : Ev fun n => loopAt [0, 1, 2] [0, 6] a84l0b (ex tab n) 3 (h84l0_2 z0 z1 z2 v875 v876 s) = some (q84l0_2 z0 z1 z2 v875 v876 o) := by
  refine iter_sound (S84l0_2 v875 v876) [0, 1, 2] [0, 6] a84l0b 3 (h84l0_2 z0 z1 z2 v875 v876) (q84l0_2 z0 z1 z2 v875 v876) ?_ _ _ _ h
  rintro ⟨v873, v874⟩ z h
  simp only [S84l0_2] at h
  by_cases c890 : v874 ≤ v873
  · rw [if_pos c890] at h
    have c890d := dt c890
    cases h
    refine ⟨0, fun n hn => ?_⟩
    simp only [W, reduceIte, Nat.reduceEqDiff, Nat.reduceAdd, Nat.reduceSub, Nat.reduceLT, Nat.reduceLeDiff, Nat.reduceMul, h84l0_2, q84l0_2, a84l0b, c890d]
  · rw [if_neg c890] at h
    have c890d := df c890
    have d877 := fun x => bin_quo .i64 x 2 (by decide)
    obtain ⟨r888, g886, h⟩ := un1 h
    obtain ⟨N887, kN887⟩ := c86_0 z0 z1 z2 (aw .i64 (v873 + (aw .i64 (Int.tdiv (aw .i64 (v874 - v873)) 2)))) v875 v876 _ g886
    by_cases c889 : r888 = true
    · rw [if_pos c889] at h
      have c889d := c889
      cases h
      refine ⟨N887, fun n hn => ?_⟩
      have kN887 := kN887 n (by omega)
      try simp only [wn] at kN887
      simp only [W, reduceIte, Nat.reduceEqDiff, Nat.reduceAdd, Nat.reduceSub, Nat.reduceLT, Nat.reduceLeDiff, Nat.reduceMul, h84l0_2, q84l0_2, a84l0b, c890d, d877, kN887, c889d]
    · rw [if_neg c889] at h
      have c889d := bf c889
      cases h
      refine ⟨N887, fun n hn => ?_⟩
      have kN887 := kN887 n (by omega)
      try simp only [wn] at kN887
      simp only [W, reduceIte, Nat.reduceEqDiff, Nat.reduceAdd, Nat.reduceSub, Nat.reduceLT, Nat.reduceLeDiff, Nat.reduceMul, h84l0_2, q84l0_2, a84l0b, c890d, d877, kN887, c889d]
theorem c84_2 (z0 : Bool) (z1 : Bool) (z2 : Bool) (v869 : Int) (v870 : Int) (v871 : List Int) (v872 : Int) (r895 : Int) (h : F84_2 v869 v870 v871 v872 = some r895) : Ev fun n => (ex tab n).call 84 [.int .i64 v869, .int .i64 v870, .func 86 [] [.ptr 0 0, .ptr 2 0]] [.row z0 false [.slice 1 0 v871.length v871.length 1 false], .row z1 true (rowC v871), .row z2 true [.int .i64 v872]] = some (.int .i64 r895, [.row z0 false [.slice 1 0 v871.length v871.length 1 false], .row z1 true (rowC v871), .row z2 true [.int .i64 v872]]) := by
  unfold F84_2 at h
  obtain ⟨r894, g892, h⟩ := un1 h
  have kN893 := k84l0_2 z0 z1 z2 v871 v872 (v869, v870) _ g892
  obtain ⟨N893, kN893⟩ := kN893
  cases h
  refine ev_call (fn := a84) rfl ⟨N893, fun n hn => ?_⟩
  have kN893 := kN893 n (by omega)
  simp only [h84l0_2, q84l0_2, wn] at kN893
  simp only [W, reduceIte, Nat.reduceEqDiff, Nat.reduceAdd, Nat.reduceSub, Nat.reduceLT, Nat.reduceLeDiff, Nat.reduceMul, a84, a84l0, kN893, @x_loopAt]
theorem c28_0 (z0 : Bool) (v825 : Int) (v826 : List Int) (r901 : Int) (r902 : Int) (r903 : Int) (h : F28_0 v825 v826 = some (r901, r902, r903)) : Ev fun n => (ex tab n).call 28 [.slice 0 0 v826.length v826.length 1 false, .int .i64 v825] [.row z0 true (rowC v826)] = some (.tup [.agg [.int .i64 r901, .int .i64 r902], .int .i64 r903], [.row z0 true (rowC v826)]) := by
  unfold F28_0 at h
  obtain ⟨r829, g827, h⟩ := un1 h
  obtain ⟨N828, kN828⟩ := c80_0 false v826 _ g827
  obtain ⟨r832, g830, h⟩ := un1 h
  obtain ⟨N831, kN831⟩ := c74_0 v825 0 10000 _ g830
  obtain ⟨r835, g833, h⟩ := un1 h
  obtain ⟨N834, kN834⟩ := c72_0 r832 2 _ g833
  obtain ⟨r838, g836, h⟩ := un1 h
  obtain ⟨N837, kN837⟩ := c71_0 true ([r829, r835] : List Int) _ g836
  by_cases c900 : r838 = 0
  · rw [if_pos c900] at h
    have c900d := dt c900
    obtain ⟨r868, g866, h⟩ := un1 h
    obtain ⟨N867, kN867⟩ := c84_1 true z0 true 0 1000000001 v826 v825 _ g866
    obtain ⟨r898, g896, h⟩ := un1 h
    obtain ⟨N897, kN897⟩ := c84_2 true z0 true r868 1000000001 v826 v825 _ g896
    by_cases c899 : r898 ≤ 1000000000
    · rw [if_pos c899] at h
      have c899d := dt c899
      cases h
      refine ev_call (fn := a28) rfl ⟨N828 + N831 + N834 + N837 + N867 + N897, fun n hn => ?_⟩
      have kN828 := kN828 n (by omega)
      try simp only [wn] at kN828
      have kN831 := kN831 n (by omega)
      try simp only [wn] at kN831
      have kN834 := kN834 n (by omega)
      try simp only [wn] at kN834
      have kN837 := kN837 n (by omega)
      try simp only [wn] at kN837
      have kN867 := kN867 n (by omega)
      try simp only [wn] at kN867
      have kN897 := kN897 n (by omega)
      try simp only [wn] at kN897
      simp only [W, reduceIte, Nat.reduceEqDiff, Nat.reduceAdd, Nat.reduceSub, Nat.reduceLT, Nat.reduceLeDiff, Nat.reduceMul, a28, kN828, kN831, kN834, kN837, c900d, kN867, kN897, c899d, wd]
    · rw [if_neg c899] at h
      have c899d := df c899
      cases h
      refine ev_call (fn := a28) rfl ⟨N828 + N831 + N834 + N837 + N867 + N897, fun n hn => ?_⟩
      have kN828 := kN828 n (by omega)
      try simp only [wn] at kN828
      have kN831 := kN831 n (by omega)
      try simp only [wn] at kN831
      have kN834 := kN834 n (by omega)
      try simp only [wn] at kN834
      have kN837 := kN837 n (by omega)
      try simp only [wn] at kN837
      have kN867 := kN867 n (by omega)
      try simp only [wn] at kN867
      have kN897 := kN897 n (by omega)
      try simp only [wn] at kN897
      simp only [W, reduceIte, Nat.reduceEqDiff, Nat.reduceAdd, Nat.reduceSub, Nat.reduceLT, Nat.reduceLeDiff, Nat.reduceMul, a28, kN828, kN831, kN834, kN837, c900d, kN867, kN897, c899d, wd]
  · rw [if_neg c900] at h
    have c900d := df c900
    cases h
    refine ev_call (fn := a28) rfl ⟨N828 + N831 + N834 + N837, fun n hn => ?_⟩
    have kN828 := kN828 n (by omega)
    try simp only [wn] at kN828
    have kN831 := kN831 n (by omega)
    try simp only [wn] at kN831
    have kN834 := kN834 n (by omega)
    try simp only [wn] at kN834
    have kN837 := kN837 n (by omega)
    try simp only [wn] at kN837
    simp only [W, reduceIte, Nat.reduceEqDiff, Nat.reduceAdd, Nat.reduceSub, Nat.reduceLT, Nat.reduceLeDiff, Nat.reduceMul, a28, kN828, kN831, kN834, kN837, c900d, wd]
end Go.AI
