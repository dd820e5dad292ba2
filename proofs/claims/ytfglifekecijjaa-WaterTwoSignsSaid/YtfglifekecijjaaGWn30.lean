import Derived.Test.YtfglifekecijjaaGAiY
import Derived.Test.YtfglifekecijjaaGAiTab
import Derived.Test.YtfglifekecijjaaGAiAwake
import Derived.Test.YtfglifekecijjaaGWnF
import Derived.Test.YtfglifekecijjaaGWn1
import Derived.Test.YtfglifekecijjaaGWn13
import Derived.Test.YtfglifekecijjaaGWn29
/-
  Functions, walked through: guidevanelaw02.WaterTwoSigns.
-/
set_option linter.unusedVariables false
set_option linter.unusedSimpArgs false
set_option maxRecDepth 100000
set_option maxHeartbeats 4000000
namespace Go.AI
theorem c10_0 (z0 : Bool) (z1 : Bool) (v3869 : Int) (v3870 : Int) (v3871 : List WaterNode) (v3872 : List WaterConduit) (r3967 : Bool) (h : F10_0 v3869 v3870 v3871 v3872 = some r3967) : Ev fun n => (ex tab n).call 10 [.agg [.slice 0 0 v3871.length v3871.length 4 false, .slice 1 0 v3872.length v3872.length 6 false], .agg [.int .i64 v3869, .int .i64 v3870]] [.row z0 true (rowC v3871), .row z1 true (rowC v3872)] = some (.bool r3967, [.row z0 true (rowC v3871), .row z1 true (rowC v3872)]) := by
  unfold F10_0 at h
  obtain ⟨N3873, kN3873⟩ := awake_ev
  obtain ⟨r3876, g3874, h⟩ := un1 h
  obtain ⟨N3875, kN3875⟩ := c15_0 z0 z1 v3871 v3872 _ g3874
  by_cases c3877 : r3876 = true
  · rw [if_pos c3877] at h
    have c3877d := c3877
    obtain ⟨r3880, g3878, h⟩ := un1 h
    obtain ⟨N3879, kN3879⟩ := c38_0 z0 z1 v3871 v3872 _ g3878
    by_cases c3881 : r3880 = 0
    · rw [if_pos c3881] at h
      have c3881d := dt c3881
      obtain ⟨_, g3882, h⟩ := un1 h
      obtain ⟨N3883, kN3883⟩ := c17_0 z0 z1 v3871 v3872 g3882
      obtain ⟨r3886, r3887, r3888, g3884, h⟩ := un3 h
      obtain ⟨N3885, kN3885⟩ := c48_0 true true v3871 v3872 _ _ _ g3884
      by_cases c3889 : r3888 = 0
      · rw [if_pos c3889] at h
        have c3889d := dt c3889
        obtain ⟨r3892, g3890, h⟩ := un1 h
        obtain ⟨N3891, kN3891⟩ := c20_0 r3886 (-200000) 200000 _ g3890
        by_cases c3893 : r3892 = true
        · rw [if_pos c3893] at h
          have c3893d := c3893
          obtain ⟨r3896, g3894, h⟩ := un1 h
          obtain ⟨N3895, kN3895⟩ := c20_0 r3887 r3886 (aw .i64 (r3886 + 1)) _ g3894
          by_cases c3897 : r3896 = true
          · rw [if_pos c3897] at h
            have c3897d := c3897
            obtain ⟨_, g3898, h⟩ := un1 h
            obtain ⟨N3899, kN3899⟩ := c17_0 false false v3871 v3872 g3898
            obtain ⟨r3902, g3900, h⟩ := un1 h
            obtain ⟨N3901, kN3901⟩ := c49_0 true true r3886 r3887 v3871 v3872 _ g3900
            by_cases c3903 : r3902 = 0
            · rw [if_pos c3903] at h
              have c3903d := dt c3903
              obtain ⟨_, g3904, h⟩ := un1 h
              obtain ⟨N3905, kN3905⟩ := c17_0 false false v3871 v3872 g3904
              obtain ⟨r3908, g3906, h⟩ := un1 h
              obtain ⟨N3907, kN3907⟩ := c49_0 true true v3869 v3870 v3871 v3872 _ g3906
              by_cases c3909 : ((decide (r3908 = 0)) == ((decide (v3869 = r3886)) && (decide (v3870 = r3887)))) = true
              · rw [if_pos c3909] at h
                have c3909d := c3909
                obtain ⟨_, g3910, h⟩ := un1 h
                obtain ⟨N3911, kN3911⟩ := c17_0 z0 z1 v3871 v3872 g3910
                obtain ⟨r3914, r3915, r3916, g3912, h⟩ := un3 h
                obtain ⟨N3913, kN3913⟩ := c50_0 true true v3871 v3872 _ _ _ g3912
                by_cases c3917 : r3914 = 0
                · rw [if_pos c3917] at h
                  have c3917d := dt c3917
                  by_cases c3918 : (r3915.length : Int) = (v3872.length : Int)
                  · rw [if_pos c3918] at h
                    have c3918d := dt c3918
                    by_cases c3919 : (r3916.length : Int) = (v3871.length : Int)
                    · rw [if_pos c3919] at h
                      have c3919d := dt c3919
                      obtain ⟨g3939_, g3939, h⟩ := un1 h
                      rcases g3939_ with _ | _
                      · dsimp only at h
                        have kN3940 := k10l0_0 z0 z1 v3871 v3872 r3886 r3887 r3915 r3916 0 _ g3939
                        obtain ⟨N3940, kN3940⟩ := kN3940
                        obtain ⟨_, g3941, h⟩ := un1 h
                        obtain ⟨N3942, kN3942⟩ := c17_0 z0 z1 v3871 v3872 g3941
                        obtain ⟨r3945, r3946, g3943, h⟩ := un2 h
                        obtain ⟨N3944, kN3944⟩ := c39_0 true true v3871 v3872 _ _ g3943
                        by_cases c3947 : r3946 = 0
                        · rw [if_pos c3947] at h
                          have c3947d := dt c3947
                          obtain ⟨_, g3948, h⟩ := un1 h
                          obtain ⟨N3949, kN3949⟩ := c17_0 false false v3871 v3872 g3948
                          obtain ⟨r3952, r3953, g3950, h⟩ := un2 h
                          obtain ⟨N3951, kN3951⟩ := c42_0 true true r3886 v3871 v3872 _ _ g3950
                          obtain ⟨_, g3954, h⟩ := un1 h
                          obtain ⟨N3955, kN3955⟩ := c17_0 false false v3871 v3872 g3954
                          obtain ⟨r3958, r3959, g3956, h⟩ := un2 h
                          obtain ⟨N3957, kN3957⟩ := c42_0 true true r3887 v3871 v3872 _ _ g3956
                          by_cases c3960 : r3953 = 0
                          · rw [if_pos c3960] at h
                            have c3960d := dt c3960
                            by_cases c3961 : r3959 = 0
                            · rw [if_pos c3961] at h
                              have c3961d := dt c3961
                              by_cases c3962 : r3952 ≤ 0
                              · rw [if_pos c3962] at h
                                have c3962d := dt c3962
                                by_cases c3963 : 0 ≤ r3958
                                · rw [if_pos c3963] at h
                                  have c3963d := dt c3963
                                  by_cases c3964 : r3886 = r3887
                                  · rw [if_pos c3964] at h
                                    have c3964d := dt c3964
                                    cases h
                                    refine ev_call (fn := a10) rfl ⟨N3873 + N3875 + N3879 + N3883 + N3885 + N3891 + N3895 + N3899 + N3901 + N3905 + N3907 + N3911 + N3913 + N3940 + N3942 + N3944 + N3949 + N3951 + N3955 + N3957, fun n hn => ?_⟩
                                    have kN3873 := kN3873 n (by omega)
                                    have kN3875 := kN3875 n (by omega)
                                    try simp (maxSteps := 2000000) only [wn] at kN3875
                                    have kN3879 := kN3879 n (by omega)
                                    try simp (maxSteps := 2000000) only [wn] at kN3879
                                    have kN3883 := kN3883 n (by omega)
                                    try simp (maxSteps := 2000000) only [wn] at kN3883
                                    have kN3885 := kN3885 n (by omega)
                                    try simp (maxSteps := 2000000) only [wn] at kN3885
                                    have kN3891 := kN3891 n (by omega)
                                    try simp (maxSteps := 2000000) only [wn] at kN3891
                                    have kN3895 := kN3895 n (by omega)
                                    try simp (maxSteps := 2000000) only [wn] at kN3895
                                    have kN3899 := kN3899 n (by omega)
                                    try simp (maxSteps := 2000000) only [wn] at kN3899
                                    have kN3901 := kN3901 n (by omega)
                                    try simp (maxSteps := 2000000) only [wn] at kN3901
                                    have kN3905 := kN3905 n (by omega)
                                    try simp (maxSteps := 2000000) only [wn] at kN3905
                                    have kN3907 := kN3907 n (by omega)
                                    try simp (maxSteps := 2000000) only [wn] at kN3907
                                    have kN3911 := kN3911 n (by omega)
                                    try simp (maxSteps := 2000000) only [wn] at kN3911
                                    have kN3913 := kN3913 n (by omega)
                                    try simp (maxSteps := 2000000) only [wn] at kN3913
                                    have kN3940 := kN3940 n (by omega)
                                    simp (maxSteps := 2000000) only [h10l0_0, q10l0_0, wn, rc_Range] at kN3940
                                    have kN3942 := kN3942 n (by omega)
                                    try simp (maxSteps := 2000000) only [wn, rc_Range] at kN3942
                                    have kN3944 := kN3944 n (by omega)
                                    try simp (maxSteps := 2000000) only [wn, rc_Range] at kN3944
                                    have kN3949 := kN3949 n (by omega)
                                    try simp (maxSteps := 2000000) only [wn, rc_Range] at kN3949
                                    have kN3951 := kN3951 n (by omega)
                                    try simp (maxSteps := 2000000) only [wn, rc_Range] at kN3951
                                    have kN3955 := kN3955 n (by omega)
                                    try simp (maxSteps := 2000000) only [wn, rc_Range] at kN3955
                                    have kN3957 := kN3957 n (by omega)
                                    try simp (maxSteps := 2000000) only [wn, rc_Range] at kN3957
                                    simp (maxSteps := 2000000) only [W, reduceIte, Nat.reduceEqDiff, Nat.reduceAdd, Nat.reduceSub, Nat.reduceLT, Nat.reduceLeDiff, Nat.reduceMul, a10, a10l0, rc_Range, kN3873, kN3875, c3877d, kN3879, c3881d, kN3883, kN3885, c3889d, kN3891, c3893d, kN3895, c3897d, kN3899, kN3901, c3903d, kN3905, kN3907, c3909d, kN3911, kN3913, c3917d, c3918d, c3919d, kN3940, kN3942, kN3944, c3947d, kN3949, kN3951, kN3955, kN3957, c3960d, c3961d, c3962d, c3963d, c3964d, @x_loopAt, wd]
                                  · rw [if_neg c3964] at h
                                    have c3964d := df c3964
                                    by_cases c3965 : 0 ≤ r3952
                                    · rw [if_pos c3965] at h
                                      have c3965d := dt c3965
                                      cases h
                                      refine ev_call (fn := a10) rfl ⟨N3873 + N3875 + N3879 + N3883 + N3885 + N3891 + N3895 + N3899 + N3901 + N3905 + N3907 + N3911 + N3913 + N3940 + N3942 + N3944 + N3949 + N3951 + N3955 + N3957, fun n hn => ?_⟩
                                      have kN3873 := kN3873 n (by omega)
                                      have kN3875 := kN3875 n (by omega)
                                      try simp (maxSteps := 2000000) only [wn] at kN3875
                                      have kN3879 := kN3879 n (by omega)
                                      try simp (maxSteps := 2000000) only [wn] at kN3879
                                      have kN3883 := kN3883 n (by omega)
                                      try simp (maxSteps := 2000000) only [wn] at kN3883
                                      have kN3885 := kN3885 n (by omega)
                                      try simp (maxSteps := 2000000) only [wn] at kN3885
                                      have kN3891 := kN3891 n (by omega)
                                      try simp (maxSteps := 2000000) only [wn] at kN3891
                                      have kN3895 := kN3895 n (by omega)
                                      try simp (maxSteps := 2000000) only [wn] at kN3895
                                      have kN3899 := kN3899 n (by omega)
                                      try simp (maxSteps := 2000000) only [wn] at kN3899
                                      have kN3901 := kN3901 n (by omega)
                                      try simp (maxSteps := 2000000) only [wn] at kN3901
                                      have kN3905 := kN3905 n (by omega)
                                      try simp (maxSteps := 2000000) only [wn] at kN3905
                                      have kN3907 := kN3907 n (by omega)
                                      try simp (maxSteps := 2000000) only [wn] at kN3907
                                      have kN3911 := kN3911 n (by omega)
                                      try simp (maxSteps := 2000000) only [wn] at kN3911
                                      have kN3913 := kN3913 n (by omega)
                                      try simp (maxSteps := 2000000) only [wn] at kN3913
                                      have kN3940 := kN3940 n (by omega)
                                      simp (maxSteps := 2000000) only [h10l0_0, q10l0_0, wn, rc_Range] at kN3940
                                      have kN3942 := kN3942 n (by omega)
                                      try simp (maxSteps := 2000000) only [wn, rc_Range] at kN3942
                                      have kN3944 := kN3944 n (by omega)
                                      try simp (maxSteps := 2000000) only [wn, rc_Range] at kN3944
                                      have kN3949 := kN3949 n (by omega)
                                      try simp (maxSteps := 2000000) only [wn, rc_Range] at kN3949
                                      have kN3951 := kN3951 n (by omega)
                                      try simp (maxSteps := 2000000) only [wn, rc_Range] at kN3951
                                      have kN3955 := kN3955 n (by omega)
                                      try simp (maxSteps := 2000000) only [wn, rc_Range] at kN3955
                                      have kN3957 := kN3957 n (by omega)
                                      try simp (maxSteps := 2000000) only [wn, rc_Range] at kN3957
                                      simp (maxSteps := 2000000) only [W, reduceIte, Nat.reduceEqDiff, Nat.reduceAdd, Nat.reduceSub, Nat.reduceLT, Nat.reduceLeDiff, Nat.reduceMul, a10, a10l0, rc_Range, kN3873, kN3875, c3877d, kN3879, c3881d, kN3883, kN3885, c3889d, kN3891, c3893d, kN3895, c3897d, kN3899, kN3901, c3903d, kN3905, kN3907, c3909d, kN3911, kN3913, c3917d, c3918d, c3919d, kN3940, kN3942, kN3944, c3947d, kN3949, kN3951, kN3955, kN3957, c3960d, c3961d, c3962d, c3963d, c3964d, c3965d, @x_loopAt, wd]
                                    · rw [if_neg c3965] at h
                                      have c3965d := df c3965
                                      cases h
                                      refine ev_call (fn := a10) rfl ⟨N3873 + N3875 + N3879 + N3883 + N3885 + N3891 + N3895 + N3899 + N3901 + N3905 + N3907 + N3911 + N3913 + N3940 + N3942 + N3944 + N3949 + N3951 + N3955 + N3957, fun n hn => ?_⟩
                                      have kN3873 := kN3873 n (by omega)
                                      have kN3875 := kN3875 n (by omega)
                                      try simp (maxSteps := 2000000) only [wn] at kN3875
                                      have kN3879 := kN3879 n (by omega)
                                      try simp (maxSteps := 2000000) only [wn] at kN3879
                                      have kN3883 := kN3883 n (by omega)
                                      try simp (maxSteps := 2000000) only [wn] at kN3883
                                      have kN3885 := kN3885 n (by omega)
                                      try simp (maxSteps := 2000000) only [wn] at kN3885
                                      have kN3891 := kN3891 n (by omega)
                                      try simp (maxSteps := 2000000) only [wn] at kN3891
                                      have kN3895 := kN3895 n (by omega)
                                      try simp (maxSteps := 2000000) only [wn] at kN3895
                                      have kN3899 := kN3899 n (by omega)
                                      try simp (maxSteps := 2000000) only [wn] at kN3899
                                      have kN3901 := kN3901 n (by omega)
                                      try simp (maxSteps := 2000000) only [wn] at kN3901
                                      have kN3905 := kN3905 n (by omega)
                                      try simp (maxSteps := 2000000) only [wn] at kN3905
                                      have kN3907 := kN3907 n (by omega)
                                      try simp (maxSteps := 2000000) only [wn] at kN3907
                                      have kN3911 := kN3911 n (by omega)
                                      try simp (maxSteps := 2000000) only [wn] at kN3911
                                      have kN3913 := kN3913 n (by omega)
                                      try simp (maxSteps := 2000000) only [wn] at kN3913
                                      have kN3940 := kN3940 n (by omega)
                                      simp (maxSteps := 2000000) only [h10l0_0, q10l0_0, wn, rc_Range] at kN3940
                                      have kN3942 := kN3942 n (by omega)
                                      try simp (maxSteps := 2000000) only [wn, rc_Range] at kN3942
                                      have kN3944 := kN3944 n (by omega)
                                      try simp (maxSteps := 2000000) only [wn, rc_Range] at kN3944
                                      have kN3949 := kN3949 n (by omega)
                                      try simp (maxSteps := 2000000) only [wn, rc_Range] at kN3949
                                      have kN3951 := kN3951 n (by omega)
                                      try simp (maxSteps := 2000000) only [wn, rc_Range] at kN3951
                                      have kN3955 := kN3955 n (by omega)
                                      try simp (maxSteps := 2000000) only [wn, rc_Range] at kN3955
                                      have kN3957 := kN3957 n (by omega)
                                      try simp (maxSteps := 2000000) only [wn, rc_Range] at kN3957
                                      simp (maxSteps := 2000000) only [W, reduceIte, Nat.reduceEqDiff, Nat.reduceAdd, Nat.reduceSub, Nat.reduceLT, Nat.reduceLeDiff, Nat.reduceMul, a10, a10l0, rc_Range, kN3873, kN3875, c3877d, kN3879, c3881d, kN3883, kN3885, c3889d, kN3891, c3893d, kN3895, c3897d, kN3899, kN3901, c3903d, kN3905, kN3907, c3909d, kN3911, kN3913, c3917d, c3918d, c3919d, kN3940, kN3942, kN3944, c3947d, kN3949, kN3951, kN3955, kN3957, c3960d, c3961d, c3962d, c3963d, c3964d, c3965d, @x_loopAt, wd]
                                · rw [if_neg c3963] at h
                                  have c3963d := df c3963
                                  cases h
                                  refine ev_call (fn := a10) rfl ⟨N3873 + N3875 + N3879 + N3883 + N3885 + N3891 + N3895 + N3899 + N3901 + N3905 + N3907 + N3911 + N3913 + N3940 + N3942 + N3944 + N3949 + N3951 + N3955 + N3957, fun n hn => ?_⟩
                                  have kN3873 := kN3873 n (by omega)
                                  have kN3875 := kN3875 n (by omega)
                                  try simp (maxSteps := 2000000) only [wn] at kN3875
                                  have kN3879 := kN3879 n (by omega)
                                  try simp (maxSteps := 2000000) only [wn] at kN3879
                                  have kN3883 := kN3883 n (by omega)
                                  try simp (maxSteps := 2000000) only [wn] at kN3883
                                  have kN3885 := kN3885 n (by omega)
                                  try simp (maxSteps := 2000000) only [wn] at kN3885
                                  have kN3891 := kN3891 n (by omega)
                                  try simp (maxSteps := 2000000) only [wn] at kN3891
                                  have kN3895 := kN3895 n (by omega)
                                  try simp (maxSteps := 2000000) only [wn] at kN3895
                                  have kN3899 := kN3899 n (by omega)
                                  try simp (maxSteps := 2000000) only [wn] at kN3899
                                  have kN3901 := kN3901 n (by omega)
                                  try simp (maxSteps := 2000000) only [wn] at kN3901
                                  have kN3905 := kN3905 n (by omega)
                                  try simp (maxSteps := 2000000) only [wn] at kN3905
                                  have kN3907 := kN3907 n (by omega)
                                  try simp (maxSteps := 2000000) only [wn] at kN3907
                                  have kN3911 := kN3911 n (by omega)
                                  try simp (maxSteps := 2000000) only [wn] at kN3911
                                  have kN3913 := kN3913 n (by omega)
                                  try simp (maxSteps := 2000000) only [wn] at kN3913
                                  have kN3940 := kN3940 n (by omega)
                                  simp (maxSteps := 2000000) only [h10l0_0, q10l0_0, wn, rc_Range] at kN3940
                                  have kN3942 := kN3942 n (by omega)
                                  try simp (maxSteps := 2000000) only [wn, rc_Range] at kN3942
                                  have kN3944 := kN3944 n (by omega)
                                  try simp (maxSteps := 2000000) only [wn, rc_Range] at kN3944
                                  have kN3949 := kN3949 n (by omega)
                                  try simp (maxSteps := 2000000) only [wn, rc_Range] at kN3949
                                  have kN3951 := kN3951 n (by omega)
                                  try simp (maxSteps := 2000000) only [wn, rc_Range] at kN3951
                                  have kN3955 := kN3955 n (by omega)
                                  try simp (maxSteps := 2000000) only [wn, rc_Range] at kN3955
                                  have kN3957 := kN3957 n (by omega)
                                  try simp (maxSteps := 2000000) only [wn, rc_Range] at kN3957
                                  simp (maxSteps := 2000000) only [W, reduceIte, Nat.reduceEqDiff, Nat.reduceAdd, Nat.reduceSub, Nat.reduceLT, Nat.reduceLeDiff, Nat.reduceMul, a10, a10l0, rc_Range, kN3873, kN3875, c3877d, kN3879, c3881d, kN3883, kN3885, c3889d, kN3891, c3893d, kN3895, c3897d, kN3899, kN3901, c3903d, kN3905, kN3907, c3909d, kN3911, kN3913, c3917d, c3918d, c3919d, kN3940, kN3942, kN3944, c3947d, kN3949, kN3951, kN3955, kN3957, c3960d, c3961d, c3962d, c3963d, @x_loopAt, wd]
                              · rw [if_neg c3962] at h
                                have c3962d := df c3962
                                cases h
                                refine ev_call (fn := a10) rfl ⟨N3873 + N3875 + N3879 + N3883 + N3885 + N3891 + N3895 + N3899 + N3901 + N3905 + N3907 + N3911 + N3913 + N3940 + N3942 + N3944 + N3949 + N3951 + N3955 + N3957, fun n hn => ?_⟩
                                have kN3873 := kN3873 n (by omega)
                                have kN3875 := kN3875 n (by omega)
                                try simp (maxSteps := 2000000) only [wn] at kN3875
                                have kN3879 := kN3879 n (by omega)
                                try simp (maxSteps := 2000000) only [wn] at kN3879
                                have kN3883 := kN3883 n (by omega)
                                try simp (maxSteps := 2000000) only [wn] at kN3883
                                have kN3885 := kN3885 n (by omega)
                                try simp (maxSteps := 2000000) only [wn] at kN3885
                                have kN3891 := kN3891 n (by omega)
                                try simp (maxSteps := 2000000) only [wn] at kN3891
                                have kN3895 := kN3895 n (by omega)
                                try simp (maxSteps := 2000000) only [wn] at kN3895
                                have kN3899 := kN3899 n (by omega)
                                try simp (maxSteps := 2000000) only [wn] at kN3899
                                have kN3901 := kN3901 n (by omega)
                                try simp (maxSteps := 2000000) only [wn] at kN3901
                                have kN3905 := kN3905 n (by omega)
                                try simp (maxSteps := 2000000) only [wn] at kN3905
                                have kN3907 := kN3907 n (by omega)
                                try simp (maxSteps := 2000000) only [wn] at kN3907
                                have kN3911 := kN3911 n (by omega)
                                try simp (maxSteps := 2000000) only [wn] at kN3911
                                have kN3913 := kN3913 n (by omega)
                                try simp (maxSteps := 2000000) only [wn] at kN3913
                                have kN3940 := kN3940 n (by omega)
                                simp (maxSteps := 2000000) only [h10l0_0, q10l0_0, wn, rc_Range] at kN3940
                                have kN3942 := kN3942 n (by omega)
                                try simp (maxSteps := 2000000) only [wn, rc_Range] at kN3942
                                have kN3944 := kN3944 n (by omega)
                                try simp (maxSteps := 2000000) only [wn, rc_Range] at kN3944
                                have kN3949 := kN3949 n (by omega)
                                try simp (maxSteps := 2000000) only [wn, rc_Range] at kN3949
                                have kN3951 := kN3951 n (by omega)
                                try simp (maxSteps := 2000000) only [wn, rc_Range] at kN3951
                                have kN3955 := kN3955 n (by omega)
                                try simp (maxSteps := 2000000) only [wn, rc_Range] at kN3955
                                have kN3957 := kN3957 n (by omega)
                                try simp (maxSteps := 2000000) only [wn, rc_Range] at kN3957
                                simp (maxSteps := 2000000) only [W, reduceIte, Nat.reduceEqDiff, Nat.reduceAdd, Nat.reduceSub, Nat.reduceLT, Nat.reduceLeDiff, Nat.reduceMul, a10, a10l0, rc_Range, kN3873, kN3875, c3877d, kN3879, c3881d, kN3883, kN3885, c3889d, kN3891, c3893d, kN3895, c3897d, kN3899, kN3901, c3903d, kN3905, kN3907, c3909d, kN3911, kN3913, c3917d, c3918d, c3919d, kN3940, kN3942, kN3944, c3947d, kN3949, kN3951, kN3955, kN3957, c3960d, c3961d, c3962d, @x_loopAt, wd]
                            · rw [if_neg c3961] at h
                              have c3961d := df c3961
                              cases h
                              refine ev_call (fn := a10) rfl ⟨N3873 + N3875 + N3879 + N3883 + N3885 + N3891 + N3895 + N3899 + N3901 + N3905 + N3907 + N3911 + N3913 + N3940 + N3942 + N3944 + N3949 + N3951 + N3955 + N3957, fun n hn => ?_⟩
                              have kN3873 := kN3873 n (by omega)
                              have kN3875 := kN3875 n (by omega)
                              try simp (maxSteps := 2000000) only [wn] at kN3875
                              have kN3879 := kN3879 n (by omega)
                              try simp (maxSteps := 2000000) only [wn] at kN3879
                              have kN3883 := kN3883 n (by omega)
                              try simp (maxSteps := 2000000) only [wn] at kN3883
                              have kN3885 := kN3885 n (by omega)
                              try simp (maxSteps := 2000000) only [wn] at kN3885
                              have kN3891 := kN3891 n (by omega)
                              try simp (maxSteps := 2000000) only [wn] at kN3891
                              have kN3895 := kN3895 n (by omega)
                              try simp (maxSteps := 2000000) only [wn] at kN3895
                              have kN3899 := kN3899 n (by omega)
                              try simp (maxSteps := 2000000) only [wn] at kN3899
                              have kN3901 := kN3901 n (by omega)
                              try simp (maxSteps := 2000000) only [wn] at kN3901
                              have kN3905 := kN3905 n (by omega)
                              try simp (maxSteps := 2000000) only [wn] at kN3905
                              have kN3907 := kN3907 n (by omega)
                              try simp (maxSteps := 2000000) only [wn] at kN3907
                              have kN3911 := kN3911 n (by omega)
                              try simp (maxSteps := 2000000) only [wn] at kN3911
                              have kN3913 := kN3913 n (by omega)
                              try simp (maxSteps := 2000000) only [wn] at kN3913
                              have kN3940 := kN3940 n (by omega)
                              simp (maxSteps := 2000000) only [h10l0_0, q10l0_0, wn, rc_Range] at kN3940
                              have kN3942 := kN3942 n (by omega)
                              try simp (maxSteps := 2000000) only [wn, rc_Range] at kN3942
                              have kN3944 := kN3944 n (by omega)
                              try simp (maxSteps := 2000000) only [wn, rc_Range] at kN3944
                              have kN3949 := kN3949 n (by omega)
                              try simp (maxSteps := 2000000) only [wn, rc_Range] at kN3949
                              have kN3951 := kN3951 n (by omega)
                              try simp (maxSteps := 2000000) only [wn, rc_Range] at kN3951
                              have kN3955 := kN3955 n (by omega)
                              try simp (maxSteps := 2000000) only [wn, rc_Range] at kN3955
                              have kN3957 := kN3957 n (by omega)
                              try simp (maxSteps := 2000000) only [wn, rc_Range] at kN3957
                              simp (maxSteps := 2000000) only [W, reduceIte, Nat.reduceEqDiff, Nat.reduceAdd, Nat.reduceSub, Nat.reduceLT, Nat.reduceLeDiff, Nat.reduceMul, a10, a10l0, rc_Range, kN3873, kN3875, c3877d, kN3879, c3881d, kN3883, kN3885, c3889d, kN3891, c3893d, kN3895, c3897d, kN3899, kN3901, c3903d, kN3905, kN3907, c3909d, kN3911, kN3913, c3917d, c3918d, c3919d, kN3940, kN3942, kN3944, c3947d, kN3949, kN3951, kN3955, kN3957, c3960d, c3961d, @x_loopAt, wd]
                          · rw [if_neg c3960] at h
                            have c3960d := df c3960
                            cases h
                            refine ev_call (fn := a10) rfl ⟨N3873 + N3875 + N3879 + N3883 + N3885 + N3891 + N3895 + N3899 + N3901 + N3905 + N3907 + N3911 + N3913 + N3940 + N3942 + N3944 + N3949 + N3951 + N3955 + N3957, fun n hn => ?_⟩
                            have kN3873 := kN3873 n (by omega)
                            have kN3875 := kN3875 n (by omega)
                            try simp (maxSteps := 2000000) only [wn] at kN3875
                            have kN3879 := kN3879 n (by omega)
                            try simp (maxSteps := 2000000) only [wn] at kN3879
                            have kN3883 := kN3883 n (by omega)
                            try simp (maxSteps := 2000000) only [wn] at kN3883
                            have kN3885 := kN3885 n (by omega)
                            try simp (maxSteps := 2000000) only [wn] at kN3885
                            have kN3891 := kN3891 n (by omega)
                            try simp (maxSteps := 2000000) only [wn] at kN3891
                            have kN3895 := kN3895 n (by omega)
                            try simp (maxSteps := 2000000) only [wn] at kN3895
                            have kN3899 := kN3899 n (by omega)
                            try simp (maxSteps := 2000000) only [wn] at kN3899
                            have kN3901 := kN3901 n (by omega)
                            try simp (maxSteps := 2000000) only [wn] at kN3901
                            have kN3905 := kN3905 n (by omega)
                            try simp (maxSteps := 2000000) only [wn] at kN3905
                            have kN3907 := kN3907 n (by omega)
                            try simp (maxSteps := 2000000) only [wn] at kN3907
                            have kN3911 := kN3911 n (by omega)
                            try simp (maxSteps := 2000000) only [wn] at kN3911
                            have kN3913 := kN3913 n (by omega)
                            try simp (maxSteps := 2000000) only [wn] at kN3913
                            have kN3940 := kN3940 n (by omega)
                            simp (maxSteps := 2000000) only [h10l0_0, q10l0_0, wn, rc_Range] at kN3940
                            have kN3942 := kN3942 n (by omega)
                            try simp (maxSteps := 2000000) only [wn, rc_Range] at kN3942
                            have kN3944 := kN3944 n (by omega)
                            try simp (maxSteps := 2000000) only [wn, rc_Range] at kN3944
                            have kN3949 := kN3949 n (by omega)
                            try simp (maxSteps := 2000000) only [wn, rc_Range] at kN3949
                            have kN3951 := kN3951 n (by omega)
                            try simp (maxSteps := 2000000) only [wn, rc_Range] at kN3951
                            have kN3955 := kN3955 n (by omega)
                            try simp (maxSteps := 2000000) only [wn, rc_Range] at kN3955
                            have kN3957 := kN3957 n (by omega)
                            try simp (maxSteps := 2000000) only [wn, rc_Range] at kN3957
                            simp (maxSteps := 2000000) only [W, reduceIte, Nat.reduceEqDiff, Nat.reduceAdd, Nat.reduceSub, Nat.reduceLT, Nat.reduceLeDiff, Nat.reduceMul, a10, a10l0, rc_Range, kN3873, kN3875, c3877d, kN3879, c3881d, kN3883, kN3885, c3889d, kN3891, c3893d, kN3895, c3897d, kN3899, kN3901, c3903d, kN3905, kN3907, c3909d, kN3911, kN3913, c3917d, c3918d, c3919d, kN3940, kN3942, kN3944, c3947d, kN3949, kN3951, kN3955, kN3957, c3960d, @x_loopAt, wd]
                        · rw [if_neg c3947] at h
                          have c3947d := df c3947
                          by_cases c3966 : r3946 = 12
                          · rw [if_pos c3966] at h
                            have c3966d := dt c3966
                            cases h
                            refine ev_call (fn := a10) rfl ⟨N3873 + N3875 + N3879 + N3883 + N3885 + N3891 + N3895 + N3899 + N3901 + N3905 + N3907 + N3911 + N3913 + N3940 + N3942 + N3944, fun n hn => ?_⟩
                            have kN3873 := kN3873 n (by omega)
                            have kN3875 := kN3875 n (by omega)
                            try simp (maxSteps := 2000000) only [wn] at kN3875
                            have kN3879 := kN3879 n (by omega)
                            try simp (maxSteps := 2000000) only [wn] at kN3879
                            have kN3883 := kN3883 n (by omega)
                            try simp (maxSteps := 2000000) only [wn] at kN3883
                            have kN3885 := kN3885 n (by omega)
                            try simp (maxSteps := 2000000) only [wn] at kN3885
                            have kN3891 := kN3891 n (by omega)
                            try simp (maxSteps := 2000000) only [wn] at kN3891
                            have kN3895 := kN3895 n (by omega)
                            try simp (maxSteps := 2000000) only [wn] at kN3895
                            have kN3899 := kN3899 n (by omega)
                            try simp (maxSteps := 2000000) only [wn] at kN3899
                            have kN3901 := kN3901 n (by omega)
                            try simp (maxSteps := 2000000) only [wn] at kN3901
                            have kN3905 := kN3905 n (by omega)
                            try simp (maxSteps := 2000000) only [wn] at kN3905
                            have kN3907 := kN3907 n (by omega)
                            try simp (maxSteps := 2000000) only [wn] at kN3907
                            have kN3911 := kN3911 n (by omega)
                            try simp (maxSteps := 2000000) only [wn] at kN3911
                            have kN3913 := kN3913 n (by omega)
                            try simp (maxSteps := 2000000) only [wn] at kN3913
                            have kN3940 := kN3940 n (by omega)
                            simp (maxSteps := 2000000) only [h10l0_0, q10l0_0, wn, rc_Range] at kN3940
                            have kN3942 := kN3942 n (by omega)
                            try simp (maxSteps := 2000000) only [wn, rc_Range] at kN3942
                            have kN3944 := kN3944 n (by omega)
                            try simp (maxSteps := 2000000) only [wn, rc_Range] at kN3944
                            simp (maxSteps := 2000000) only [W, reduceIte, Nat.reduceEqDiff, Nat.reduceAdd, Nat.reduceSub, Nat.reduceLT, Nat.reduceLeDiff, Nat.reduceMul, a10, a10l0, rc_Range, kN3873, kN3875, c3877d, kN3879, c3881d, kN3883, kN3885, c3889d, kN3891, c3893d, kN3895, c3897d, kN3899, kN3901, c3903d, kN3905, kN3907, c3909d, kN3911, kN3913, c3917d, c3918d, c3919d, kN3940, kN3942, kN3944, c3947d, c3966d, @x_loopAt, wd]
                          · rw [if_neg c3966] at h
                            have c3966d := df c3966
                            cases h
                            refine ev_call (fn := a10) rfl ⟨N3873 + N3875 + N3879 + N3883 + N3885 + N3891 + N3895 + N3899 + N3901 + N3905 + N3907 + N3911 + N3913 + N3940 + N3942 + N3944, fun n hn => ?_⟩
                            have kN3873 := kN3873 n (by omega)
                            have kN3875 := kN3875 n (by omega)
                            try simp (maxSteps := 2000000) only [wn] at kN3875
                            have kN3879 := kN3879 n (by omega)
                            try simp (maxSteps := 2000000) only [wn] at kN3879
                            have kN3883 := kN3883 n (by omega)
                            try simp (maxSteps := 2000000) only [wn] at kN3883
                            have kN3885 := kN3885 n (by omega)
                            try simp (maxSteps := 2000000) only [wn] at kN3885
                            have kN3891 := kN3891 n (by omega)
                            try simp (maxSteps := 2000000) only [wn] at kN3891
                            have kN3895 := kN3895 n (by omega)
                            try simp (maxSteps := 2000000) only [wn] at kN3895
                            have kN3899 := kN3899 n (by omega)
                            try simp (maxSteps := 2000000) only [wn] at kN3899
                            have kN3901 := kN3901 n (by omega)
                            try simp (maxSteps := 2000000) only [wn] at kN3901
                            have kN3905 := kN3905 n (by omega)
                            try simp (maxSteps := 2000000) only [wn] at kN3905
                            have kN3907 := kN3907 n (by omega)
                            try simp (maxSteps := 2000000) only [wn] at kN3907
                            have kN3911 := kN3911 n (by omega)
                            try simp (maxSteps := 2000000) only [wn] at kN3911
                            have kN3913 := kN3913 n (by omega)
                            try simp (maxSteps := 2000000) only [wn] at kN3913
                            have kN3940 := kN3940 n (by omega)
                            simp (maxSteps := 2000000) only [h10l0_0, q10l0_0, wn, rc_Range] at kN3940
                            have kN3942 := kN3942 n (by omega)
                            try simp (maxSteps := 2000000) only [wn, rc_Range] at kN3942
                            have kN3944 := kN3944 n (by omega)
                            try simp (maxSteps := 2000000) only [wn, rc_Range] at kN3944
                            simp (maxSteps := 2000000) only [W, reduceIte, Nat.reduceEqDiff, Nat.reduceAdd, Nat.reduceSub, Nat.reduceLT, Nat.reduceLeDiff, Nat.reduceMul, a10, a10l0, rc_Range, kN3873, kN3875, c3877d, kN3879, c3881d, kN3883, kN3885, c3889d, kN3891, c3893d, kN3895, c3897d, kN3899, kN3901, c3903d, kN3905, kN3907, c3909d, kN3911, kN3913, c3917d, c3918d, c3919d, kN3940, kN3942, kN3944, c3947d, c3966d, @x_loopAt, wd]
                      · dsimp only at h
                        have kN3940 := k10l0_0 z0 z1 v3871 v3872 r3886 r3887 r3915 r3916 0 _ g3939
                        obtain ⟨N3940, kN3940⟩ := kN3940
                        cases h
                        refine ev_call (fn := a10) rfl ⟨N3873 + N3875 + N3879 + N3883 + N3885 + N3891 + N3895 + N3899 + N3901 + N3905 + N3907 + N3911 + N3913 + N3940, fun n hn => ?_⟩
                        have kN3873 := kN3873 n (by omega)
                        have kN3875 := kN3875 n (by omega)
                        try simp (maxSteps := 2000000) only [wn] at kN3875
                        have kN3879 := kN3879 n (by omega)
                        try simp (maxSteps := 2000000) only [wn] at kN3879
                        have kN3883 := kN3883 n (by omega)
                        try simp (maxSteps := 2000000) only [wn] at kN3883
                        have kN3885 := kN3885 n (by omega)
                        try simp (maxSteps := 2000000) only [wn] at kN3885
                        have kN3891 := kN3891 n (by omega)
                        try simp (maxSteps := 2000000) only [wn] at kN3891
                        have kN3895 := kN3895 n (by omega)
                        try simp (maxSteps := 2000000) only [wn] at kN3895
                        have kN3899 := kN3899 n (by omega)
                        try simp (maxSteps := 2000000) only [wn] at kN3899
                        have kN3901 := kN3901 n (by omega)
                        try simp (maxSteps := 2000000) only [wn] at kN3901
                        have kN3905 := kN3905 n (by omega)
                        try simp (maxSteps := 2000000) only [wn] at kN3905
                        have kN3907 := kN3907 n (by omega)
                        try simp (maxSteps := 2000000) only [wn] at kN3907
                        have kN3911 := kN3911 n (by omega)
                        try simp (maxSteps := 2000000) only [wn] at kN3911
                        have kN3913 := kN3913 n (by omega)
                        try simp (maxSteps := 2000000) only [wn] at kN3913
                        have kN3940 := kN3940 n (by omega)
                        simp (maxSteps := 2000000) only [h10l0_0, q10l0_0, wn, rc_Range] at kN3940
                        simp (maxSteps := 2000000) only [W, reduceIte, Nat.reduceEqDiff, Nat.reduceAdd, Nat.reduceSub, Nat.reduceLT, Nat.reduceLeDiff, Nat.reduceMul, a10, a10l0, rc_Range, kN3873, kN3875, c3877d, kN3879, c3881d, kN3883, kN3885, c3889d, kN3891, c3893d, kN3895, c3897d, kN3899, kN3901, c3903d, kN3905, kN3907, c3909d, kN3911, kN3913, c3917d, c3918d, c3919d, kN3940, @x_loopAt, wd]
                    · rw [if_neg c3919] at h
                      have c3919d := df c3919
                      cases h
                      refine ev_call (fn := a10) rfl ⟨N3873 + N3875 + N3879 + N3883 + N3885 + N3891 + N3895 + N3899 + N3901 + N3905 + N3907 + N3911 + N3913, fun n hn => ?_⟩
                      have kN3873 := kN3873 n (by omega)
                      have kN3875 := kN3875 n (by omega)
                      try simp (maxSteps := 2000000) only [wn] at kN3875
                      have kN3879 := kN3879 n (by omega)
                      try simp (maxSteps := 2000000) only [wn] at kN3879
                      have kN3883 := kN3883 n (by omega)
                      try simp (maxSteps := 2000000) only [wn] at kN3883
                      have kN3885 := kN3885 n (by omega)
                      try simp (maxSteps := 2000000) only [wn] at kN3885
                      have kN3891 := kN3891 n (by omega)
                      try simp (maxSteps := 2000000) only [wn] at kN3891
                      have kN3895 := kN3895 n (by omega)
                      try simp (maxSteps := 2000000) only [wn] at kN3895
                      have kN3899 := kN3899 n (by omega)
                      try simp (maxSteps := 2000000) only [wn] at kN3899
                      have kN3901 := kN3901 n (by omega)
                      try simp (maxSteps := 2000000) only [wn] at kN3901
                      have kN3905 := kN3905 n (by omega)
                      try simp (maxSteps := 2000000) only [wn] at kN3905
                      have kN3907 := kN3907 n (by omega)
                      try simp (maxSteps := 2000000) only [wn] at kN3907
                      have kN3911 := kN3911 n (by omega)
                      try simp (maxSteps := 2000000) only [wn] at kN3911
                      have kN3913 := kN3913 n (by omega)
                      try simp (maxSteps := 2000000) only [wn] at kN3913
                      simp (maxSteps := 2000000) only [W, reduceIte, Nat.reduceEqDiff, Nat.reduceAdd, Nat.reduceSub, Nat.reduceLT, Nat.reduceLeDiff, Nat.reduceMul, a10, a10l0, rc_Range, kN3873, kN3875, c3877d, kN3879, c3881d, kN3883, kN3885, c3889d, kN3891, c3893d, kN3895, c3897d, kN3899, kN3901, c3903d, kN3905, kN3907, c3909d, kN3911, kN3913, c3917d, c3918d, c3919d, @x_loopAt, wd]
                  · rw [if_neg c3918] at h
                    have c3918d := df c3918
                    cases h
                    refine ev_call (fn := a10) rfl ⟨N3873 + N3875 + N3879 + N3883 + N3885 + N3891 + N3895 + N3899 + N3901 + N3905 + N3907 + N3911 + N3913, fun n hn => ?_⟩
                    have kN3873 := kN3873 n (by omega)
                    have kN3875 := kN3875 n (by omega)
                    try simp (maxSteps := 2000000) only [wn] at kN3875
                    have kN3879 := kN3879 n (by omega)
                    try simp (maxSteps := 2000000) only [wn] at kN3879
                    have kN3883 := kN3883 n (by omega)
                    try simp (maxSteps := 2000000) only [wn] at kN3883
                    have kN3885 := kN3885 n (by omega)
                    try simp (maxSteps := 2000000) only [wn] at kN3885
                    have kN3891 := kN3891 n (by omega)
                    try simp (maxSteps := 2000000) only [wn] at kN3891
                    have kN3895 := kN3895 n (by omega)
                    try simp (maxSteps := 2000000) only [wn] at kN3895
                    have kN3899 := kN3899 n (by omega)
                    try simp (maxSteps := 2000000) only [wn] at kN3899
                    have kN3901 := kN3901 n (by omega)
                    try simp (maxSteps := 2000000) only [wn] at kN3901
                    have kN3905 := kN3905 n (by omega)
                    try simp (maxSteps := 2000000) only [wn] at kN3905
                    have kN3907 := kN3907 n (by omega)
                    try simp (maxSteps := 2000000) only [wn] at kN3907
                    have kN3911 := kN3911 n (by omega)
                    try simp (maxSteps := 2000000) only [wn] at kN3911
                    have kN3913 := kN3913 n (by omega)
                    try simp (maxSteps := 2000000) only [wn] at kN3913
                    simp (maxSteps := 2000000) only [W, reduceIte, Nat.reduceEqDiff, Nat.reduceAdd, Nat.reduceSub, Nat.reduceLT, Nat.reduceLeDiff, Nat.reduceMul, a10, a10l0, rc_Range, kN3873, kN3875, c3877d, kN3879, c3881d, kN3883, kN3885, c3889d, kN3891, c3893d, kN3895, c3897d, kN3899, kN3901, c3903d, kN3905, kN3907, c3909d, kN3911, kN3913, c3917d, c3918d, @x_loopAt, wd]
                · rw [if_neg c3917] at h
                  have c3917d := df c3917
                  cases h
                  refine ev_call (fn := a10) rfl ⟨N3873 + N3875 + N3879 + N3883 + N3885 + N3891 + N3895 + N3899 + N3901 + N3905 + N3907 + N3911 + N3913, fun n hn => ?_⟩
                  have kN3873 := kN3873 n (by omega)
                  have kN3875 := kN3875 n (by omega)
                  try simp (maxSteps := 2000000) only [wn] at kN3875
                  have kN3879 := kN3879 n (by omega)
                  try simp (maxSteps := 2000000) only [wn] at kN3879
                  have kN3883 := kN3883 n (by omega)
                  try simp (maxSteps := 2000000) only [wn] at kN3883
                  have kN3885 := kN3885 n (by omega)
                  try simp (maxSteps := 2000000) only [wn] at kN3885
                  have kN3891 := kN3891 n (by omega)
                  try simp (maxSteps := 2000000) only [wn] at kN3891
                  have kN3895 := kN3895 n (by omega)
                  try simp (maxSteps := 2000000) only [wn] at kN3895
                  have kN3899 := kN3899 n (by omega)
                  try simp (maxSteps := 2000000) only [wn] at kN3899
                  have kN3901 := kN3901 n (by omega)
                  try simp (maxSteps := 2000000) only [wn] at kN3901
                  have kN3905 := kN3905 n (by omega)
                  try simp (maxSteps := 2000000) only [wn] at kN3905
                  have kN3907 := kN3907 n (by omega)
                  try simp (maxSteps := 2000000) only [wn] at kN3907
                  have kN3911 := kN3911 n (by omega)
                  try simp (maxSteps := 2000000) only [wn] at kN3911
                  have kN3913 := kN3913 n (by omega)
                  try simp (maxSteps := 2000000) only [wn] at kN3913
                  simp (maxSteps := 2000000) only [W, reduceIte, Nat.reduceEqDiff, Nat.reduceAdd, Nat.reduceSub, Nat.reduceLT, Nat.reduceLeDiff, Nat.reduceMul, a10, a10l0, rc_Range, kN3873, kN3875, c3877d, kN3879, c3881d, kN3883, kN3885, c3889d, kN3891, c3893d, kN3895, c3897d, kN3899, kN3901, c3903d, kN3905, kN3907, c3909d, kN3911, kN3913, c3917d, @x_loopAt, wd]
              · rw [if_neg c3909] at h
                have c3909d := bf c3909
                cases h
                refine ev_call (fn := a10) rfl ⟨N3873 + N3875 + N3879 + N3883 + N3885 + N3891 + N3895 + N3899 + N3901 + N3905 + N3907, fun n hn => ?_⟩
                have kN3873 := kN3873 n (by omega)
                have kN3875 := kN3875 n (by omega)
                try simp (maxSteps := 2000000) only [wn] at kN3875
                have kN3879 := kN3879 n (by omega)
                try simp (maxSteps := 2000000) only [wn] at kN3879
                have kN3883 := kN3883 n (by omega)
                try simp (maxSteps := 2000000) only [wn] at kN3883
                have kN3885 := kN3885 n (by omega)
                try simp (maxSteps := 2000000) only [wn] at kN3885
                have kN3891 := kN3891 n (by omega)
                try simp (maxSteps := 2000000) only [wn] at kN3891
                have kN3895 := kN3895 n (by omega)
                try simp (maxSteps := 2000000) only [wn] at kN3895
                have kN3899 := kN3899 n (by omega)
                try simp (maxSteps := 2000000) only [wn] at kN3899
                have kN3901 := kN3901 n (by omega)
                try simp (maxSteps := 2000000) only [wn] at kN3901
                have kN3905 := kN3905 n (by omega)
                try simp (maxSteps := 2000000) only [wn] at kN3905
                have kN3907 := kN3907 n (by omega)
                try simp (maxSteps := 2000000) only [wn] at kN3907
                simp (maxSteps := 2000000) only [W, reduceIte, Nat.reduceEqDiff, Nat.reduceAdd, Nat.reduceSub, Nat.reduceLT, Nat.reduceLeDiff, Nat.reduceMul, a10, a10l0, rc_Range, kN3873, kN3875, c3877d, kN3879, c3881d, kN3883, kN3885, c3889d, kN3891, c3893d, kN3895, c3897d, kN3899, kN3901, c3903d, kN3905, kN3907, c3909d, @x_loopAt, wd]
            · rw [if_neg c3903] at h
              have c3903d := df c3903
              cases h
              refine ev_call (fn := a10) rfl ⟨N3873 + N3875 + N3879 + N3883 + N3885 + N3891 + N3895 + N3899 + N3901, fun n hn => ?_⟩
              have kN3873 := kN3873 n (by omega)
              have kN3875 := kN3875 n (by omega)
              try simp (maxSteps := 2000000) only [wn] at kN3875
              have kN3879 := kN3879 n (by omega)
              try simp (maxSteps := 2000000) only [wn] at kN3879
              have kN3883 := kN3883 n (by omega)
              try simp (maxSteps := 2000000) only [wn] at kN3883
              have kN3885 := kN3885 n (by omega)
              try simp (maxSteps := 2000000) only [wn] at kN3885
              have kN3891 := kN3891 n (by omega)
              try simp (maxSteps := 2000000) only [wn] at kN3891
              have kN3895 := kN3895 n (by omega)
              try simp (maxSteps := 2000000) only [wn] at kN3895
              have kN3899 := kN3899 n (by omega)
              try simp (maxSteps := 2000000) only [wn] at kN3899
              have kN3901 := kN3901 n (by omega)
              try simp (maxSteps := 2000000) only [wn] at kN3901
              simp (maxSteps := 2000000) only [W, reduceIte, Nat.reduceEqDiff, Nat.reduceAdd, Nat.reduceSub, Nat.reduceLT, Nat.reduceLeDiff, Nat.reduceMul, a10, a10l0, rc_Range, kN3873, kN3875, c3877d, kN3879, c3881d, kN3883, kN3885, c3889d, kN3891, c3893d, kN3895, c3897d, kN3899, kN3901, c3903d, @x_loopAt, wd]
          · rw [if_neg c3897] at h
            have c3897d := bf c3897
            cases h
            refine ev_call (fn := a10) rfl ⟨N3873 + N3875 + N3879 + N3883 + N3885 + N3891 + N3895, fun n hn => ?_⟩
            have kN3873 := kN3873 n (by omega)
            have kN3875 := kN3875 n (by omega)
            try simp (maxSteps := 2000000) only [wn] at kN3875
            have kN3879 := kN3879 n (by omega)
            try simp (maxSteps := 2000000) only [wn] at kN3879
            have kN3883 := kN3883 n (by omega)
            try simp (maxSteps := 2000000) only [wn] at kN3883
            have kN3885 := kN3885 n (by omega)
            try simp (maxSteps := 2000000) only [wn] at kN3885
            have kN3891 := kN3891 n (by omega)
            try simp (maxSteps := 2000000) only [wn] at kN3891
            have kN3895 := kN3895 n (by omega)
            try simp (maxSteps := 2000000) only [wn] at kN3895
            simp (maxSteps := 2000000) only [W, reduceIte, Nat.reduceEqDiff, Nat.reduceAdd, Nat.reduceSub, Nat.reduceLT, Nat.reduceLeDiff, Nat.reduceMul, a10, a10l0, rc_Range, kN3873, kN3875, c3877d, kN3879, c3881d, kN3883, kN3885, c3889d, kN3891, c3893d, kN3895, c3897d, @x_loopAt, wd]
        · rw [if_neg c3893] at h
          have c3893d := bf c3893
          cases h
          refine ev_call (fn := a10) rfl ⟨N3873 + N3875 + N3879 + N3883 + N3885 + N3891, fun n hn => ?_⟩
          have kN3873 := kN3873 n (by omega)
          have kN3875 := kN3875 n (by omega)
          try simp (maxSteps := 2000000) only [wn] at kN3875
          have kN3879 := kN3879 n (by omega)
          try simp (maxSteps := 2000000) only [wn] at kN3879
          have kN3883 := kN3883 n (by omega)
          try simp (maxSteps := 2000000) only [wn] at kN3883
          have kN3885 := kN3885 n (by omega)
          try simp (maxSteps := 2000000) only [wn] at kN3885
          have kN3891 := kN3891 n (by omega)
          try simp (maxSteps := 2000000) only [wn] at kN3891
          simp (maxSteps := 2000000) only [W, reduceIte, Nat.reduceEqDiff, Nat.reduceAdd, Nat.reduceSub, Nat.reduceLT, Nat.reduceLeDiff, Nat.reduceMul, a10, a10l0, rc_Range, kN3873, kN3875, c3877d, kN3879, c3881d, kN3883, kN3885, c3889d, kN3891, c3893d, @x_loopAt, wd]
      · rw [if_neg c3889] at h
        have c3889d := df c3889
        cases h
        refine ev_call (fn := a10) rfl ⟨N3873 + N3875 + N3879 + N3883 + N3885, fun n hn => ?_⟩
        have kN3873 := kN3873 n (by omega)
        have kN3875 := kN3875 n (by omega)
        try simp (maxSteps := 2000000) only [wn] at kN3875
        have kN3879 := kN3879 n (by omega)
        try simp (maxSteps := 2000000) only [wn] at kN3879
        have kN3883 := kN3883 n (by omega)
        try simp (maxSteps := 2000000) only [wn] at kN3883
        have kN3885 := kN3885 n (by omega)
        try simp (maxSteps := 2000000) only [wn] at kN3885
        simp (maxSteps := 2000000) only [W, reduceIte, Nat.reduceEqDiff, Nat.reduceAdd, Nat.reduceSub, Nat.reduceLT, Nat.reduceLeDiff, Nat.reduceMul, a10, a10l0, rc_Range, kN3873, kN3875, c3877d, kN3879, c3881d, kN3883, kN3885, c3889d, @x_loopAt, wd]
    · rw [if_neg c3881] at h
      have c3881d := df c3881
      cases h
      refine ev_call (fn := a10) rfl ⟨N3873 + N3875 + N3879, fun n hn => ?_⟩
      have kN3873 := kN3873 n (by omega)
      have kN3875 := kN3875 n (by omega)
      try simp (maxSteps := 2000000) only [wn] at kN3875
      have kN3879 := kN3879 n (by omega)
      try simp (maxSteps := 2000000) only [wn] at kN3879
      simp (maxSteps := 2000000) only [W, reduceIte, Nat.reduceEqDiff, Nat.reduceAdd, Nat.reduceSub, Nat.reduceLT, Nat.reduceLeDiff, Nat.reduceMul, a10, a10l0, rc_Range, kN3873, kN3875, c3877d, kN3879, c3881d, @x_loopAt, wd]
  · rw [if_neg c3877] at h
    have c3877d := bf c3877
    cases h
    refine ev_call (fn := a10) rfl ⟨N3873 + N3875, fun n hn => ?_⟩
    have kN3873 := kN3873 n (by omega)
    have kN3875 := kN3875 n (by omega)
    try simp (maxSteps := 2000000) only [wn] at kN3875
    simp (maxSteps := 2000000) only [W, reduceIte, Nat.reduceEqDiff, Nat.reduceAdd, Nat.reduceSub, Nat.reduceLT, Nat.reduceLeDiff, Nat.reduceMul, a10, a10l0, rc_Range, kN3873, kN3875, c3877d, @x_loopAt, wd]
end Go.AI
