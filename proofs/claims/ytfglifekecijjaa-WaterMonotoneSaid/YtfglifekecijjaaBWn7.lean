import Derived.Test.YtfglifekecijjaaBAiY
import Derived.Test.YtfglifekecijjaaBAiTab
import Derived.Test.YtfglifekecijjaaBAiAwake
import Derived.Test.YtfglifekecijjaaBWnF
import Derived.Test.YtfglifekecijjaaBWn6
/-
  Functions, walked through: guidevanelaw02.WaterMonotone.
-/
set_option linter.unusedVariables false
set_option linter.unusedSimpArgs false
set_option maxRecDepth 100000
set_option maxHeartbeats 4000000
namespace Go.AI
theorem c4_0 (z0 : Bool) (v540 : Int) (v541 : Int) (v542 : Int) (v543 : List Int) (r946 : Bool) (h : F4_0 v540 v541 v542 v543 = some r946) : Ev fun n => (ex tab n).call 4 [.slice 0 0 v543.length v543.length 1 false, .agg [.int .i64 v540, .int .i64 v541], .int .i64 v542] [.row z0 true (rowC v543)] = some (.bool r946, [.row z0 true (rowC v543)]) := by
  unfold F4_0 at h
  obtain ⟨N544, kN544⟩ := awake_ev
  obtain ⟨r571, g569, h⟩ := un1 h
  obtain ⟨N570, kN570⟩ := c23_0 z0 v543 _ g569
  by_cases c572 : r571 = 0
  · rw [if_pos c572] at h
    have c572d := dt c572
    have d573 : inx (0 : Int) 2 = some 0 := by rfl
    obtain ⟨r582, g580, h⟩ := un1 h
    obtain ⟨N581, kN581⟩ := c24_0 v540 _ g580
    by_cases c583 : r582 = 0
    · rw [if_pos c583] at h
      have c583d := dt c583
      have d584 : inx (1 : Int) 2 = some 1 := by rfl
      obtain ⟨r587, g585, h⟩ := un1 h
      obtain ⟨N586, kN586⟩ := c24_0 v541 _ g585
      by_cases c588 : r587 = 0
      · rw [if_pos c588] at h
        have c588d := dt c588
        have d589 : inx (0 : Int) 2 = some 0 := by rfl
        have d590 : inx (1 : Int) 2 = some 1 := by rfl
        by_cases c591 : v540 ≤ v541
        · rw [if_pos c591] at h
          have c591d := dt c591
          obtain ⟨r594, g592, h⟩ := un1 h
          obtain ⟨N593, kN593⟩ := c20_0 v542 0 10000 _ g592
          by_cases c595 : r594 = true
          · rw [if_pos c595] at h
            have c595d := c595
            obtain ⟨_, g598, h⟩ := un1 h
            obtain ⟨N599, kN599⟩ := c26_0 false v543 g598
            have d600 : inx (0 : Int) 2 = some 0 := by rfl
            obtain ⟨r747, r748, r749, g745, h⟩ := un3 h
            obtain ⟨N746, kN746⟩ := c25_0 false v540 v543 _ _ _ g745
            obtain ⟨_, g750, h⟩ := un1 h
            obtain ⟨N751, kN751⟩ := c26_0 false v543 g750
            have d752 : inx (1 : Int) 2 = some 1 := by rfl
            obtain ⟨r755, r756, r757, g753, h⟩ := un3 h
            obtain ⟨N754, kN754⟩ := c25_0 false v541 v543 _ _ _ g753
            obtain ⟨j758, g759, h⟩ := un1 h
            try simp only [wn] at g759
            obtain ⟨r769, g767, h⟩ := un1 h
            obtain ⟨N768, kN768⟩ := c26_1 false j758 v543.length v543 _ g767
            have d770 : inx (0 : Int) 2 = some 0 := by rfl
            obtain ⟨r773, r774, r775, g771, h⟩ := un3 h
            obtain ⟨N772, kN772⟩ := c25_0 false v540 r769 _ _ _ g771
            by_cases c776 : r749 = 0
            · rw [if_pos c776] at h
              have c776d := dt c776
              by_cases c777 : r757 = 0
              · rw [if_pos c777] at h
                have c777d := dt c777
                by_cases c778 : r775 = 0
                · rw [if_pos c778] at h
                  have c778d := dt c778
                  obtain ⟨r781, g779, h⟩ := un1 h
                  obtain ⟨N780, kN780⟩ := c20_0 r747 0 r748 _ g779
                  by_cases c782 : r781 = true
                  · rw [if_pos c782] at h
                    have c782d := c782
                    by_cases c783 : r747 ≤ r755
                    · rw [if_pos c783] at h
                      have c783d := dt c783
                      by_cases c784 : r748 ≤ r756
                      · rw [if_pos c784] at h
                        have c784d := dt c784
                        by_cases c785 : r773 ≤ r747
                        · rw [if_pos c785] at h
                          have c785d := dt c785
                          by_cases c786 : r774 ≤ r748
                          · rw [if_pos c786] at h
                            have c786d := dt c786
                            obtain ⟨r789, g787, h⟩ := un1 h
                            obtain ⟨N788, kN788⟩ := c20_0 (aw .i64 (r748 - r747)) 0 (v543.length : Int) _ g787
                            by_cases c790 : r789 = true
                            · rw [if_pos c790] at h
                              have c790d := c790
                              obtain ⟨g835_, g835, h⟩ := un1 h
                              rcases g835_ with _ | _
                              · dsimp only at h
                                have kN836 := k4l0_0 z0 v542 v543 v540 v541 0 _ g835
                                obtain ⟨N836, kN836⟩ := kN836
                                obtain ⟨_, g837, h⟩ := un1 h
                                obtain ⟨N838, kN838⟩ := c26_0 z0 v543 g837
                                obtain ⟨r920, r921, r922, g918, h⟩ := un3 h
                                obtain ⟨N919, kN919⟩ := c28_0 true v542 v543 _ _ _ g918
                                by_cases c923 : r922 = 0
                                · rw [if_pos c923] at h
                                  have c923d := dt c923
                                  obtain ⟨r926, g924, h⟩ := un1 h
                                  obtain ⟨N925, kN925⟩ := c20_0 r920 0 r921 _ g924
                                  by_cases c927 : r926 = true
                                  · rw [if_pos c927] at h
                                    have c927d := c927
                                    by_cases c928 : r921 ≤ 1000000000
                                    · rw [if_pos c928] at h
                                      have c928d := dt c928
                                      obtain ⟨_, g929, h⟩ := un1 h
                                      obtain ⟨N930, kN930⟩ := c26_0 false v543 g929
                                      obtain ⟨r933, r934, r935, g931, h⟩ := un3 h
                                      obtain ⟨N932, kN932⟩ := c25_0 false r920 v543 _ _ _ g931
                                      obtain ⟨_, g936, h⟩ := un1 h
                                      obtain ⟨N937, kN937⟩ := c26_0 false v543 g936
                                      obtain ⟨r940, r941, r942, g938, h⟩ := un3 h
                                      obtain ⟨N939, kN939⟩ := c25_0 false r921 v543 _ _ _ g938
                                      by_cases c943 : r935 = 0
                                      · rw [if_pos c943] at h
                                        have c943d := dt c943
                                        by_cases c944 : r942 = 0
                                        · rw [if_pos c944] at h
                                          have c944d := dt c944
                                          by_cases c945 : v542 ≤ r934
                                          · rw [if_pos c945] at h
                                            have c945d := dt c945
                                            cases h
                                            refine ev_call (fn := a4) rfl ⟨N544 + N570 + N581 + N586 + N593 + N599 + N746 + N751 + N754 + N768 + N772 + N780 + N788 + N836 + N838 + N919 + N925 + N930 + N932 + N937 + N939, fun n hn => ?_⟩
                                            have kN544 := kN544 n (by omega)
                                            have kN570 := kN570 n (by omega)
                                            try simp (maxSteps := 2000000) only [wn] at kN570
                                            have kN581 := kN581 n (by omega)
                                            try simp (maxSteps := 2000000) only [wn] at kN581
                                            have kN586 := kN586 n (by omega)
                                            try simp (maxSteps := 2000000) only [wn] at kN586
                                            have kN593 := kN593 n (by omega)
                                            try simp (maxSteps := 2000000) only [wn] at kN593
                                            have kN599 := kN599 n (by omega)
                                            try simp (maxSteps := 2000000) only [wn] at kN599
                                            have kN746 := kN746 n (by omega)
                                            try simp (maxSteps := 2000000) only [wn] at kN746
                                            have kN751 := kN751 n (by omega)
                                            try simp (maxSteps := 2000000) only [wn] at kN751
                                            have kN754 := kN754 n (by omega)
                                            try simp (maxSteps := 2000000) only [wn] at kN754
                                            have kN768 := kN768 n (by omega)
                                            try simp (maxSteps := 2000000) only [wn] at kN768
                                            have kN772 := kN772 n (by omega)
                                            try simp (maxSteps := 2000000) only [wn] at kN772
                                            have kN780 := kN780 n (by omega)
                                            try simp (maxSteps := 2000000) only [wn] at kN780
                                            have kN788 := kN788 n (by omega)
                                            try simp (maxSteps := 2000000) only [wn] at kN788
                                            have kN836 := kN836 n (by omega)
                                            simp (maxSteps := 2000000) only [h4l0_0, q4l0_0, wn] at kN836
                                            have kN838 := kN838 n (by omega)
                                            try simp (maxSteps := 2000000) only [wn] at kN838
                                            have kN919 := kN919 n (by omega)
                                            try simp (maxSteps := 2000000) only [wn] at kN919
                                            have kN925 := kN925 n (by omega)
                                            try simp (maxSteps := 2000000) only [wn] at kN925
                                            have kN930 := kN930 n (by omega)
                                            try simp (maxSteps := 2000000) only [wn] at kN930
                                            have kN932 := kN932 n (by omega)
                                            try simp (maxSteps := 2000000) only [wn] at kN932
                                            have kN937 := kN937 n (by omega)
                                            try simp (maxSteps := 2000000) only [wn] at kN937
                                            have kN939 := kN939 n (by omega)
                                            try simp (maxSteps := 2000000) only [wn] at kN939
                                            simp (maxSteps := 2000000) only [W, reduceIte, Nat.reduceEqDiff, Nat.reduceAdd, Nat.reduceSub, Nat.reduceLT, Nat.reduceLeDiff, Nat.reduceMul, a4, a4l0, kN544, kN570, c572d, d573, kN581, c583d, d584, kN586, c588d, d589, d590, c591d, kN593, c595d, kN599, d600, kN746, kN751, d752, kN754, g759, kN768, d770, kN772, c776d, c777d, c778d, kN780, c782d, c783d, c784d, c785d, c786d, kN788, c790d, kN836, kN838, kN919, c923d, kN925, c927d, c928d, kN930, kN932, kN937, kN939, c943d, c944d, c945d, @x_loopAt, wd]
                                          · rw [if_neg c945] at h
                                            have c945d := df c945
                                            cases h
                                            refine ev_call (fn := a4) rfl ⟨N544 + N570 + N581 + N586 + N593 + N599 + N746 + N751 + N754 + N768 + N772 + N780 + N788 + N836 + N838 + N919 + N925 + N930 + N932 + N937 + N939, fun n hn => ?_⟩
                                            have kN544 := kN544 n (by omega)
                                            have kN570 := kN570 n (by omega)
                                            try simp (maxSteps := 2000000) only [wn] at kN570
                                            have kN581 := kN581 n (by omega)
                                            try simp (maxSteps := 2000000) only [wn] at kN581
                                            have kN586 := kN586 n (by omega)
                                            try simp (maxSteps := 2000000) only [wn] at kN586
                                            have kN593 := kN593 n (by omega)
                                            try simp (maxSteps := 2000000) only [wn] at kN593
                                            have kN599 := kN599 n (by omega)
                                            try simp (maxSteps := 2000000) only [wn] at kN599
                                            have kN746 := kN746 n (by omega)
                                            try simp (maxSteps := 2000000) only [wn] at kN746
                                            have kN751 := kN751 n (by omega)
                                            try simp (maxSteps := 2000000) only [wn] at kN751
                                            have kN754 := kN754 n (by omega)
                                            try simp (maxSteps := 2000000) only [wn] at kN754
                                            have kN768 := kN768 n (by omega)
                                            try simp (maxSteps := 2000000) only [wn] at kN768
                                            have kN772 := kN772 n (by omega)
                                            try simp (maxSteps := 2000000) only [wn] at kN772
                                            have kN780 := kN780 n (by omega)
                                            try simp (maxSteps := 2000000) only [wn] at kN780
                                            have kN788 := kN788 n (by omega)
                                            try simp (maxSteps := 2000000) only [wn] at kN788
                                            have kN836 := kN836 n (by omega)
                                            simp (maxSteps := 2000000) only [h4l0_0, q4l0_0, wn] at kN836
                                            have kN838 := kN838 n (by omega)
                                            try simp (maxSteps := 2000000) only [wn] at kN838
                                            have kN919 := kN919 n (by omega)
                                            try simp (maxSteps := 2000000) only [wn] at kN919
                                            have kN925 := kN925 n (by omega)
                                            try simp (maxSteps := 2000000) only [wn] at kN925
                                            have kN930 := kN930 n (by omega)
                                            try simp (maxSteps := 2000000) only [wn] at kN930
                                            have kN932 := kN932 n (by omega)
                                            try simp (maxSteps := 2000000) only [wn] at kN932
                                            have kN937 := kN937 n (by omega)
                                            try simp (maxSteps := 2000000) only [wn] at kN937
                                            have kN939 := kN939 n (by omega)
                                            try simp (maxSteps := 2000000) only [wn] at kN939
                                            simp (maxSteps := 2000000) only [W, reduceIte, Nat.reduceEqDiff, Nat.reduceAdd, Nat.reduceSub, Nat.reduceLT, Nat.reduceLeDiff, Nat.reduceMul, a4, a4l0, kN544, kN570, c572d, d573, kN581, c583d, d584, kN586, c588d, d589, d590, c591d, kN593, c595d, kN599, d600, kN746, kN751, d752, kN754, g759, kN768, d770, kN772, c776d, c777d, c778d, kN780, c782d, c783d, c784d, c785d, c786d, kN788, c790d, kN836, kN838, kN919, c923d, kN925, c927d, c928d, kN930, kN932, kN937, kN939, c943d, c944d, c945d, @x_loopAt, wd]
                                        · rw [if_neg c944] at h
                                          have c944d := df c944
                                          cases h
                                          refine ev_call (fn := a4) rfl ⟨N544 + N570 + N581 + N586 + N593 + N599 + N746 + N751 + N754 + N768 + N772 + N780 + N788 + N836 + N838 + N919 + N925 + N930 + N932 + N937 + N939, fun n hn => ?_⟩
                                          have kN544 := kN544 n (by omega)
                                          have kN570 := kN570 n (by omega)
                                          try simp (maxSteps := 2000000) only [wn] at kN570
                                          have kN581 := kN581 n (by omega)
                                          try simp (maxSteps := 2000000) only [wn] at kN581
                                          have kN586 := kN586 n (by omega)
                                          try simp (maxSteps := 2000000) only [wn] at kN586
                                          have kN593 := kN593 n (by omega)
                                          try simp (maxSteps := 2000000) only [wn] at kN593
                                          have kN599 := kN599 n (by omega)
                                          try simp (maxSteps := 2000000) only [wn] at kN599
                                          have kN746 := kN746 n (by omega)
                                          try simp (maxSteps := 2000000) only [wn] at kN746
                                          have kN751 := kN751 n (by omega)
                                          try simp (maxSteps := 2000000) only [wn] at kN751
                                          have kN754 := kN754 n (by omega)
                                          try simp (maxSteps := 2000000) only [wn] at kN754
                                          have kN768 := kN768 n (by omega)
                                          try simp (maxSteps := 2000000) only [wn] at kN768
                                          have kN772 := kN772 n (by omega)
                                          try simp (maxSteps := 2000000) only [wn] at kN772
                                          have kN780 := kN780 n (by omega)
                                          try simp (maxSteps := 2000000) only [wn] at kN780
                                          have kN788 := kN788 n (by omega)
                                          try simp (maxSteps := 2000000) only [wn] at kN788
                                          have kN836 := kN836 n (by omega)
                                          simp (maxSteps := 2000000) only [h4l0_0, q4l0_0, wn] at kN836
                                          have kN838 := kN838 n (by omega)
                                          try simp (maxSteps := 2000000) only [wn] at kN838
                                          have kN919 := kN919 n (by omega)
                                          try simp (maxSteps := 2000000) only [wn] at kN919
                                          have kN925 := kN925 n (by omega)
                                          try simp (maxSteps := 2000000) only [wn] at kN925
                                          have kN930 := kN930 n (by omega)
                                          try simp (maxSteps := 2000000) only [wn] at kN930
                                          have kN932 := kN932 n (by omega)
                                          try simp (maxSteps := 2000000) only [wn] at kN932
                                          have kN937 := kN937 n (by omega)
                                          try simp (maxSteps := 2000000) only [wn] at kN937
                                          have kN939 := kN939 n (by omega)
                                          try simp (maxSteps := 2000000) only [wn] at kN939
                                          simp (maxSteps := 2000000) only [W, reduceIte, Nat.reduceEqDiff, Nat.reduceAdd, Nat.reduceSub, Nat.reduceLT, Nat.reduceLeDiff, Nat.reduceMul, a4, a4l0, kN544, kN570, c572d, d573, kN581, c583d, d584, kN586, c588d, d589, d590, c591d, kN593, c595d, kN599, d600, kN746, kN751, d752, kN754, g759, kN768, d770, kN772, c776d, c777d, c778d, kN780, c782d, c783d, c784d, c785d, c786d, kN788, c790d, kN836, kN838, kN919, c923d, kN925, c927d, c928d, kN930, kN932, kN937, kN939, c943d, c944d, @x_loopAt, wd]
                                      · rw [if_neg c943] at h
                                        have c943d := df c943
                                        cases h
                                        refine ev_call (fn := a4) rfl ⟨N544 + N570 + N581 + N586 + N593 + N599 + N746 + N751 + N754 + N768 + N772 + N780 + N788 + N836 + N838 + N919 + N925 + N930 + N932 + N937 + N939, fun n hn => ?_⟩
                                        have kN544 := kN544 n (by omega)
                                        have kN570 := kN570 n (by omega)
                                        try simp (maxSteps := 2000000) only [wn] at kN570
                                        have kN581 := kN581 n (by omega)
                                        try simp (maxSteps := 2000000) only [wn] at kN581
                                        have kN586 := kN586 n (by omega)
                                        try simp (maxSteps := 2000000) only [wn] at kN586
                                        have kN593 := kN593 n (by omega)
                                        try simp (maxSteps := 2000000) only [wn] at kN593
                                        have kN599 := kN599 n (by omega)
                                        try simp (maxSteps := 2000000) only [wn] at kN599
                                        have kN746 := kN746 n (by omega)
                                        try simp (maxSteps := 2000000) only [wn] at kN746
                                        have kN751 := kN751 n (by omega)
                                        try simp (maxSteps := 2000000) only [wn] at kN751
                                        have kN754 := kN754 n (by omega)
                                        try simp (maxSteps := 2000000) only [wn] at kN754
                                        have kN768 := kN768 n (by omega)
                                        try simp (maxSteps := 2000000) only [wn] at kN768
                                        have kN772 := kN772 n (by omega)
                                        try simp (maxSteps := 2000000) only [wn] at kN772
                                        have kN780 := kN780 n (by omega)
                                        try simp (maxSteps := 2000000) only [wn] at kN780
                                        have kN788 := kN788 n (by omega)
                                        try simp (maxSteps := 2000000) only [wn] at kN788
                                        have kN836 := kN836 n (by omega)
                                        simp (maxSteps := 2000000) only [h4l0_0, q4l0_0, wn] at kN836
                                        have kN838 := kN838 n (by omega)
                                        try simp (maxSteps := 2000000) only [wn] at kN838
                                        have kN919 := kN919 n (by omega)
                                        try simp (maxSteps := 2000000) only [wn] at kN919
                                        have kN925 := kN925 n (by omega)
                                        try simp (maxSteps := 2000000) only [wn] at kN925
                                        have kN930 := kN930 n (by omega)
                                        try simp (maxSteps := 2000000) only [wn] at kN930
                                        have kN932 := kN932 n (by omega)
                                        try simp (maxSteps := 2000000) only [wn] at kN932
                                        have kN937 := kN937 n (by omega)
                                        try simp (maxSteps := 2000000) only [wn] at kN937
                                        have kN939 := kN939 n (by omega)
                                        try simp (maxSteps := 2000000) only [wn] at kN939
                                        simp (maxSteps := 2000000) only [W, reduceIte, Nat.reduceEqDiff, Nat.reduceAdd, Nat.reduceSub, Nat.reduceLT, Nat.reduceLeDiff, Nat.reduceMul, a4, a4l0, kN544, kN570, c572d, d573, kN581, c583d, d584, kN586, c588d, d589, d590, c591d, kN593, c595d, kN599, d600, kN746, kN751, d752, kN754, g759, kN768, d770, kN772, c776d, c777d, c778d, kN780, c782d, c783d, c784d, c785d, c786d, kN788, c790d, kN836, kN838, kN919, c923d, kN925, c927d, c928d, kN930, kN932, kN937, kN939, c943d, @x_loopAt, wd]
                                    · rw [if_neg c928] at h
                                      have c928d := df c928
                                      cases h
                                      refine ev_call (fn := a4) rfl ⟨N544 + N570 + N581 + N586 + N593 + N599 + N746 + N751 + N754 + N768 + N772 + N780 + N788 + N836 + N838 + N919 + N925, fun n hn => ?_⟩
                                      have kN544 := kN544 n (by omega)
                                      have kN570 := kN570 n (by omega)
                                      try simp (maxSteps := 2000000) only [wn] at kN570
                                      have kN581 := kN581 n (by omega)
                                      try simp (maxSteps := 2000000) only [wn] at kN581
                                      have kN586 := kN586 n (by omega)
                                      try simp (maxSteps := 2000000) only [wn] at kN586
                                      have kN593 := kN593 n (by omega)
                                      try simp (maxSteps := 2000000) only [wn] at kN593
                                      have kN599 := kN599 n (by omega)
                                      try simp (maxSteps := 2000000) only [wn] at kN599
                                      have kN746 := kN746 n (by omega)
                                      try simp (maxSteps := 2000000) only [wn] at kN746
                                      have kN751 := kN751 n (by omega)
                                      try simp (maxSteps := 2000000) only [wn] at kN751
                                      have kN754 := kN754 n (by omega)
                                      try simp (maxSteps := 2000000) only [wn] at kN754
                                      have kN768 := kN768 n (by omega)
                                      try simp (maxSteps := 2000000) only [wn] at kN768
                                      have kN772 := kN772 n (by omega)
                                      try simp (maxSteps := 2000000) only [wn] at kN772
                                      have kN780 := kN780 n (by omega)
                                      try simp (maxSteps := 2000000) only [wn] at kN780
                                      have kN788 := kN788 n (by omega)
                                      try simp (maxSteps := 2000000) only [wn] at kN788
                                      have kN836 := kN836 n (by omega)
                                      simp (maxSteps := 2000000) only [h4l0_0, q4l0_0, wn] at kN836
                                      have kN838 := kN838 n (by omega)
                                      try simp (maxSteps := 2000000) only [wn] at kN838
                                      have kN919 := kN919 n (by omega)
                                      try simp (maxSteps := 2000000) only [wn] at kN919
                                      have kN925 := kN925 n (by omega)
                                      try simp (maxSteps := 2000000) only [wn] at kN925
                                      simp (maxSteps := 2000000) only [W, reduceIte, Nat.reduceEqDiff, Nat.reduceAdd, Nat.reduceSub, Nat.reduceLT, Nat.reduceLeDiff, Nat.reduceMul, a4, a4l0, kN544, kN570, c572d, d573, kN581, c583d, d584, kN586, c588d, d589, d590, c591d, kN593, c595d, kN599, d600, kN746, kN751, d752, kN754, g759, kN768, d770, kN772, c776d, c777d, c778d, kN780, c782d, c783d, c784d, c785d, c786d, kN788, c790d, kN836, kN838, kN919, c923d, kN925, c927d, c928d, @x_loopAt, wd]
                                  · rw [if_neg c927] at h
                                    have c927d := bf c927
                                    cases h
                                    refine ev_call (fn := a4) rfl ⟨N544 + N570 + N581 + N586 + N593 + N599 + N746 + N751 + N754 + N768 + N772 + N780 + N788 + N836 + N838 + N919 + N925, fun n hn => ?_⟩
                                    have kN544 := kN544 n (by omega)
                                    have kN570 := kN570 n (by omega)
                                    try simp (maxSteps := 2000000) only [wn] at kN570
                                    have kN581 := kN581 n (by omega)
                                    try simp (maxSteps := 2000000) only [wn] at kN581
                                    have kN586 := kN586 n (by omega)
                                    try simp (maxSteps := 2000000) only [wn] at kN586
                                    have kN593 := kN593 n (by omega)
                                    try simp (maxSteps := 2000000) only [wn] at kN593
                                    have kN599 := kN599 n (by omega)
                                    try simp (maxSteps := 2000000) only [wn] at kN599
                                    have kN746 := kN746 n (by omega)
                                    try simp (maxSteps := 2000000) only [wn] at kN746
                                    have kN751 := kN751 n (by omega)
                                    try simp (maxSteps := 2000000) only [wn] at kN751
                                    have kN754 := kN754 n (by omega)
                                    try simp (maxSteps := 2000000) only [wn] at kN754
                                    have kN768 := kN768 n (by omega)
                                    try simp (maxSteps := 2000000) only [wn] at kN768
                                    have kN772 := kN772 n (by omega)
                                    try simp (maxSteps := 2000000) only [wn] at kN772
                                    have kN780 := kN780 n (by omega)
                                    try simp (maxSteps := 2000000) only [wn] at kN780
                                    have kN788 := kN788 n (by omega)
                                    try simp (maxSteps := 2000000) only [wn] at kN788
                                    have kN836 := kN836 n (by omega)
                                    simp (maxSteps := 2000000) only [h4l0_0, q4l0_0, wn] at kN836
                                    have kN838 := kN838 n (by omega)
                                    try simp (maxSteps := 2000000) only [wn] at kN838
                                    have kN919 := kN919 n (by omega)
                                    try simp (maxSteps := 2000000) only [wn] at kN919
                                    have kN925 := kN925 n (by omega)
                                    try simp (maxSteps := 2000000) only [wn] at kN925
                                    simp (maxSteps := 2000000) only [W, reduceIte, Nat.reduceEqDiff, Nat.reduceAdd, Nat.reduceSub, Nat.reduceLT, Nat.reduceLeDiff, Nat.reduceMul, a4, a4l0, kN544, kN570, c572d, d573, kN581, c583d, d584, kN586, c588d, d589, d590, c591d, kN593, c595d, kN599, d600, kN746, kN751, d752, kN754, g759, kN768, d770, kN772, c776d, c777d, c778d, kN780, c782d, c783d, c784d, c785d, c786d, kN788, c790d, kN836, kN838, kN919, c923d, kN925, c927d, @x_loopAt, wd]
                                · rw [if_neg c923] at h
                                  have c923d := df c923
                                  cases h
                                  refine ev_call (fn := a4) rfl ⟨N544 + N570 + N581 + N586 + N593 + N599 + N746 + N751 + N754 + N768 + N772 + N780 + N788 + N836 + N838 + N919, fun n hn => ?_⟩
                                  have kN544 := kN544 n (by omega)
                                  have kN570 := kN570 n (by omega)
                                  try simp (maxSteps := 2000000) only [wn] at kN570
                                  have kN581 := kN581 n (by omega)
                                  try simp (maxSteps := 2000000) only [wn] at kN581
                                  have kN586 := kN586 n (by omega)
                                  try simp (maxSteps := 2000000) only [wn] at kN586
                                  have kN593 := kN593 n (by omega)
                                  try simp (maxSteps := 2000000) only [wn] at kN593
                                  have kN599 := kN599 n (by omega)
                                  try simp (maxSteps := 2000000) only [wn] at kN599
                                  have kN746 := kN746 n (by omega)
                                  try simp (maxSteps := 2000000) only [wn] at kN746
                                  have kN751 := kN751 n (by omega)
                                  try simp (maxSteps := 2000000) only [wn] at kN751
                                  have kN754 := kN754 n (by omega)
                                  try simp (maxSteps := 2000000) only [wn] at kN754
                                  have kN768 := kN768 n (by omega)
                                  try simp (maxSteps := 2000000) only [wn] at kN768
                                  have kN772 := kN772 n (by omega)
                                  try simp (maxSteps := 2000000) only [wn] at kN772
                                  have kN780 := kN780 n (by omega)
                                  try simp (maxSteps := 2000000) only [wn] at kN780
                                  have kN788 := kN788 n (by omega)
                                  try simp (maxSteps := 2000000) only [wn] at kN788
                                  have kN836 := kN836 n (by omega)
                                  simp (maxSteps := 2000000) only [h4l0_0, q4l0_0, wn] at kN836
                                  have kN838 := kN838 n (by omega)
                                  try simp (maxSteps := 2000000) only [wn] at kN838
                                  have kN919 := kN919 n (by omega)
                                  try simp (maxSteps := 2000000) only [wn] at kN919
                                  simp (maxSteps := 2000000) only [W, reduceIte, Nat.reduceEqDiff, Nat.reduceAdd, Nat.reduceSub, Nat.reduceLT, Nat.reduceLeDiff, Nat.reduceMul, a4, a4l0, kN544, kN570, c572d, d573, kN581, c583d, d584, kN586, c588d, d589, d590, c591d, kN593, c595d, kN599, d600, kN746, kN751, d752, kN754, g759, kN768, d770, kN772, c776d, c777d, c778d, kN780, c782d, c783d, c784d, c785d, c786d, kN788, c790d, kN836, kN838, kN919, c923d, @x_loopAt, wd]
                              · dsimp only at h
                                have kN836 := k4l0_0 z0 v542 v543 v540 v541 0 _ g835
                                obtain ⟨N836, kN836⟩ := kN836
                                cases h
                                refine ev_call (fn := a4) rfl ⟨N544 + N570 + N581 + N586 + N593 + N599 + N746 + N751 + N754 + N768 + N772 + N780 + N788 + N836, fun n hn => ?_⟩
                                have kN544 := kN544 n (by omega)
                                have kN570 := kN570 n (by omega)
                                try simp (maxSteps := 2000000) only [wn] at kN570
                                have kN581 := kN581 n (by omega)
                                try simp (maxSteps := 2000000) only [wn] at kN581
                                have kN586 := kN586 n (by omega)
                                try simp (maxSteps := 2000000) only [wn] at kN586
                                have kN593 := kN593 n (by omega)
                                try simp (maxSteps := 2000000) only [wn] at kN593
                                have kN599 := kN599 n (by omega)
                                try simp (maxSteps := 2000000) only [wn] at kN599
                                have kN746 := kN746 n (by omega)
                                try simp (maxSteps := 2000000) only [wn] at kN746
                                have kN751 := kN751 n (by omega)
                                try simp (maxSteps := 2000000) only [wn] at kN751
                                have kN754 := kN754 n (by omega)
                                try simp (maxSteps := 2000000) only [wn] at kN754
                                have kN768 := kN768 n (by omega)
                                try simp (maxSteps := 2000000) only [wn] at kN768
                                have kN772 := kN772 n (by omega)
                                try simp (maxSteps := 2000000) only [wn] at kN772
                                have kN780 := kN780 n (by omega)
                                try simp (maxSteps := 2000000) only [wn] at kN780
                                have kN788 := kN788 n (by omega)
                                try simp (maxSteps := 2000000) only [wn] at kN788
                                have kN836 := kN836 n (by omega)
                                simp (maxSteps := 2000000) only [h4l0_0, q4l0_0, wn] at kN836
                                simp (maxSteps := 2000000) only [W, reduceIte, Nat.reduceEqDiff, Nat.reduceAdd, Nat.reduceSub, Nat.reduceLT, Nat.reduceLeDiff, Nat.reduceMul, a4, a4l0, kN544, kN570, c572d, d573, kN581, c583d, d584, kN586, c588d, d589, d590, c591d, kN593, c595d, kN599, d600, kN746, kN751, d752, kN754, g759, kN768, d770, kN772, c776d, c777d, c778d, kN780, c782d, c783d, c784d, c785d, c786d, kN788, c790d, kN836, @x_loopAt, wd]
                            · rw [if_neg c790] at h
                              have c790d := bf c790
                              cases h
                              refine ev_call (fn := a4) rfl ⟨N544 + N570 + N581 + N586 + N593 + N599 + N746 + N751 + N754 + N768 + N772 + N780 + N788, fun n hn => ?_⟩
                              have kN544 := kN544 n (by omega)
                              have kN570 := kN570 n (by omega)
                              try simp (maxSteps := 2000000) only [wn] at kN570
                              have kN581 := kN581 n (by omega)
                              try simp (maxSteps := 2000000) only [wn] at kN581
                              have kN586 := kN586 n (by omega)
                              try simp (maxSteps := 2000000) only [wn] at kN586
                              have kN593 := kN593 n (by omega)
                              try simp (maxSteps := 2000000) only [wn] at kN593
                              have kN599 := kN599 n (by omega)
                              try simp (maxSteps := 2000000) only [wn] at kN599
                              have kN746 := kN746 n (by omega)
                              try simp (maxSteps := 2000000) only [wn] at kN746
                              have kN751 := kN751 n (by omega)
                              try simp (maxSteps := 2000000) only [wn] at kN751
                              have kN754 := kN754 n (by omega)
                              try simp (maxSteps := 2000000) only [wn] at kN754
                              have kN768 := kN768 n (by omega)
                              try simp (maxSteps := 2000000) only [wn] at kN768
                              have kN772 := kN772 n (by omega)
                              try simp (maxSteps := 2000000) only [wn] at kN772
                              have kN780 := kN780 n (by omega)
                              try simp (maxSteps := 2000000) only [wn] at kN780
                              have kN788 := kN788 n (by omega)
                              try simp (maxSteps := 2000000) only [wn] at kN788
                              simp (maxSteps := 2000000) only [W, reduceIte, Nat.reduceEqDiff, Nat.reduceAdd, Nat.reduceSub, Nat.reduceLT, Nat.reduceLeDiff, Nat.reduceMul, a4, a4l0, kN544, kN570, c572d, d573, kN581, c583d, d584, kN586, c588d, d589, d590, c591d, kN593, c595d, kN599, d600, kN746, kN751, d752, kN754, g759, kN768, d770, kN772, c776d, c777d, c778d, kN780, c782d, c783d, c784d, c785d, c786d, kN788, c790d, @x_loopAt, wd]
                          · rw [if_neg c786] at h
                            have c786d := df c786
                            cases h
                            refine ev_call (fn := a4) rfl ⟨N544 + N570 + N581 + N586 + N593 + N599 + N746 + N751 + N754 + N768 + N772 + N780, fun n hn => ?_⟩
                            have kN544 := kN544 n (by omega)
                            have kN570 := kN570 n (by omega)
                            try simp (maxSteps := 2000000) only [wn] at kN570
                            have kN581 := kN581 n (by omega)
                            try simp (maxSteps := 2000000) only [wn] at kN581
                            have kN586 := kN586 n (by omega)
                            try simp (maxSteps := 2000000) only [wn] at kN586
                            have kN593 := kN593 n (by omega)
                            try simp (maxSteps := 2000000) only [wn] at kN593
                            have kN599 := kN599 n (by omega)
                            try simp (maxSteps := 2000000) only [wn] at kN599
                            have kN746 := kN746 n (by omega)
                            try simp (maxSteps := 2000000) only [wn] at kN746
                            have kN751 := kN751 n (by omega)
                            try simp (maxSteps := 2000000) only [wn] at kN751
                            have kN754 := kN754 n (by omega)
                            try simp (maxSteps := 2000000) only [wn] at kN754
                            have kN768 := kN768 n (by omega)
                            try simp (maxSteps := 2000000) only [wn] at kN768
                            have kN772 := kN772 n (by omega)
                            try simp (maxSteps := 2000000) only [wn] at kN772
                            have kN780 := kN780 n (by omega)
                            try simp (maxSteps := 2000000) only [wn] at kN780
                            simp (maxSteps := 2000000) only [W, reduceIte, Nat.reduceEqDiff, Nat.reduceAdd, Nat.reduceSub, Nat.reduceLT, Nat.reduceLeDiff, Nat.reduceMul, a4, a4l0, kN544, kN570, c572d, d573, kN581, c583d, d584, kN586, c588d, d589, d590, c591d, kN593, c595d, kN599, d600, kN746, kN751, d752, kN754, g759, kN768, d770, kN772, c776d, c777d, c778d, kN780, c782d, c783d, c784d, c785d, c786d, @x_loopAt, wd]
                        · rw [if_neg c785] at h
                          have c785d := df c785
                          cases h
                          refine ev_call (fn := a4) rfl ⟨N544 + N570 + N581 + N586 + N593 + N599 + N746 + N751 + N754 + N768 + N772 + N780, fun n hn => ?_⟩
                          have kN544 := kN544 n (by omega)
                          have kN570 := kN570 n (by omega)
                          try simp (maxSteps := 2000000) only [wn] at kN570
                          have kN581 := kN581 n (by omega)
                          try simp (maxSteps := 2000000) only [wn] at kN581
                          have kN586 := kN586 n (by omega)
                          try simp (maxSteps := 2000000) only [wn] at kN586
                          have kN593 := kN593 n (by omega)
                          try simp (maxSteps := 2000000) only [wn] at kN593
                          have kN599 := kN599 n (by omega)
                          try simp (maxSteps := 2000000) only [wn] at kN599
                          have kN746 := kN746 n (by omega)
                          try simp (maxSteps := 2000000) only [wn] at kN746
                          have kN751 := kN751 n (by omega)
                          try simp (maxSteps := 2000000) only [wn] at kN751
                          have kN754 := kN754 n (by omega)
                          try simp (maxSteps := 2000000) only [wn] at kN754
                          have kN768 := kN768 n (by omega)
                          try simp (maxSteps := 2000000) only [wn] at kN768
                          have kN772 := kN772 n (by omega)
                          try simp (maxSteps := 2000000) only [wn] at kN772
                          have kN780 := kN780 n (by omega)
                          try simp (maxSteps := 2000000) only [wn] at kN780
                          simp (maxSteps := 2000000) only [W, reduceIte, Nat.reduceEqDiff, Nat.reduceAdd, Nat.reduceSub, Nat.reduceLT, Nat.reduceLeDiff, Nat.reduceMul, a4, a4l0, kN544, kN570, c572d, d573, kN581, c583d, d584, kN586, c588d, d589, d590, c591d, kN593, c595d, kN599, d600, kN746, kN751, d752, kN754, g759, kN768, d770, kN772, c776d, c777d, c778d, kN780, c782d, c783d, c784d, c785d, @x_loopAt, wd]
                      · rw [if_neg c784] at h
                        have c784d := df c784
                        cases h
                        refine ev_call (fn := a4) rfl ⟨N544 + N570 + N581 + N586 + N593 + N599 + N746 + N751 + N754 + N768 + N772 + N780, fun n hn => ?_⟩
                        have kN544 := kN544 n (by omega)
                        have kN570 := kN570 n (by omega)
                        try simp (maxSteps := 2000000) only [wn] at kN570
                        have kN581 := kN581 n (by omega)
                        try simp (maxSteps := 2000000) only [wn] at kN581
                        have kN586 := kN586 n (by omega)
                        try simp (maxSteps := 2000000) only [wn] at kN586
                        have kN593 := kN593 n (by omega)
                        try simp (maxSteps := 2000000) only [wn] at kN593
                        have kN599 := kN599 n (by omega)
                        try simp (maxSteps := 2000000) only [wn] at kN599
                        have kN746 := kN746 n (by omega)
                        try simp (maxSteps := 2000000) only [wn] at kN746
                        have kN751 := kN751 n (by omega)
                        try simp (maxSteps := 2000000) only [wn] at kN751
                        have kN754 := kN754 n (by omega)
                        try simp (maxSteps := 2000000) only [wn] at kN754
                        have kN768 := kN768 n (by omega)
                        try simp (maxSteps := 2000000) only [wn] at kN768
                        have kN772 := kN772 n (by omega)
                        try simp (maxSteps := 2000000) only [wn] at kN772
                        have kN780 := kN780 n (by omega)
                        try simp (maxSteps := 2000000) only [wn] at kN780
                        simp (maxSteps := 2000000) only [W, reduceIte, Nat.reduceEqDiff, Nat.reduceAdd, Nat.reduceSub, Nat.reduceLT, Nat.reduceLeDiff, Nat.reduceMul, a4, a4l0, kN544, kN570, c572d, d573, kN581, c583d, d584, kN586, c588d, d589, d590, c591d, kN593, c595d, kN599, d600, kN746, kN751, d752, kN754, g759, kN768, d770, kN772, c776d, c777d, c778d, kN780, c782d, c783d, c784d, @x_loopAt, wd]
                    · rw [if_neg c783] at h
                      have c783d := df c783
                      cases h
                      refine ev_call (fn := a4) rfl ⟨N544 + N570 + N581 + N586 + N593 + N599 + N746 + N751 + N754 + N768 + N772 + N780, fun n hn => ?_⟩
                      have kN544 := kN544 n (by omega)
                      have kN570 := kN570 n (by omega)
                      try simp (maxSteps := 2000000) only [wn] at kN570
                      have kN581 := kN581 n (by omega)
                      try simp (maxSteps := 2000000) only [wn] at kN581
                      have kN586 := kN586 n (by omega)
                      try simp (maxSteps := 2000000) only [wn] at kN586
                      have kN593 := kN593 n (by omega)
                      try simp (maxSteps := 2000000) only [wn] at kN593
                      have kN599 := kN599 n (by omega)
                      try simp (maxSteps := 2000000) only [wn] at kN599
                      have kN746 := kN746 n (by omega)
                      try simp (maxSteps := 2000000) only [wn] at kN746
                      have kN751 := kN751 n (by omega)
                      try simp (maxSteps := 2000000) only [wn] at kN751
                      have kN754 := kN754 n (by omega)
                      try simp (maxSteps := 2000000) only [wn] at kN754
                      have kN768 := kN768 n (by omega)
                      try simp (maxSteps := 2000000) only [wn] at kN768
                      have kN772 := kN772 n (by omega)
                      try simp (maxSteps := 2000000) only [wn] at kN772
                      have kN780 := kN780 n (by omega)
                      try simp (maxSteps := 2000000) only [wn] at kN780
                      simp (maxSteps := 2000000) only [W, reduceIte, Nat.reduceEqDiff, Nat.reduceAdd, Nat.reduceSub, Nat.reduceLT, Nat.reduceLeDiff, Nat.reduceMul, a4, a4l0, kN544, kN570, c572d, d573, kN581, c583d, d584, kN586, c588d, d589, d590, c591d, kN593, c595d, kN599, d600, kN746, kN751, d752, kN754, g759, kN768, d770, kN772, c776d, c777d, c778d, kN780, c782d, c783d, @x_loopAt, wd]
                  · rw [if_neg c782] at h
                    have c782d := bf c782
                    cases h
                    refine ev_call (fn := a4) rfl ⟨N544 + N570 + N581 + N586 + N593 + N599 + N746 + N751 + N754 + N768 + N772 + N780, fun n hn => ?_⟩
                    have kN544 := kN544 n (by omega)
                    have kN570 := kN570 n (by omega)
                    try simp (maxSteps := 2000000) only [wn] at kN570
                    have kN581 := kN581 n (by omega)
                    try simp (maxSteps := 2000000) only [wn] at kN581
                    have kN586 := kN586 n (by omega)
                    try simp (maxSteps := 2000000) only [wn] at kN586
                    have kN593 := kN593 n (by omega)
                    try simp (maxSteps := 2000000) only [wn] at kN593
                    have kN599 := kN599 n (by omega)
                    try simp (maxSteps := 2000000) only [wn] at kN599
                    have kN746 := kN746 n (by omega)
                    try simp (maxSteps := 2000000) only [wn] at kN746
                    have kN751 := kN751 n (by omega)
                    try simp (maxSteps := 2000000) only [wn] at kN751
                    have kN754 := kN754 n (by omega)
                    try simp (maxSteps := 2000000) only [wn] at kN754
                    have kN768 := kN768 n (by omega)
                    try simp (maxSteps := 2000000) only [wn] at kN768
                    have kN772 := kN772 n (by omega)
                    try simp (maxSteps := 2000000) only [wn] at kN772
                    have kN780 := kN780 n (by omega)
                    try simp (maxSteps := 2000000) only [wn] at kN780
                    simp (maxSteps := 2000000) only [W, reduceIte, Nat.reduceEqDiff, Nat.reduceAdd, Nat.reduceSub, Nat.reduceLT, Nat.reduceLeDiff, Nat.reduceMul, a4, a4l0, kN544, kN570, c572d, d573, kN581, c583d, d584, kN586, c588d, d589, d590, c591d, kN593, c595d, kN599, d600, kN746, kN751, d752, kN754, g759, kN768, d770, kN772, c776d, c777d, c778d, kN780, c782d, @x_loopAt, wd]
                · rw [if_neg c778] at h
                  have c778d := df c778
                  cases h
                  refine ev_call (fn := a4) rfl ⟨N544 + N570 + N581 + N586 + N593 + N599 + N746 + N751 + N754 + N768 + N772, fun n hn => ?_⟩
                  have kN544 := kN544 n (by omega)
                  have kN570 := kN570 n (by omega)
                  try simp (maxSteps := 2000000) only [wn] at kN570
                  have kN581 := kN581 n (by omega)
                  try simp (maxSteps := 2000000) only [wn] at kN581
                  have kN586 := kN586 n (by omega)
                  try simp (maxSteps := 2000000) only [wn] at kN586
                  have kN593 := kN593 n (by omega)
                  try simp (maxSteps := 2000000) only [wn] at kN593
                  have kN599 := kN599 n (by omega)
                  try simp (maxSteps := 2000000) only [wn] at kN599
                  have kN746 := kN746 n (by omega)
                  try simp (maxSteps := 2000000) only [wn] at kN746
                  have kN751 := kN751 n (by omega)
                  try simp (maxSteps := 2000000) only [wn] at kN751
                  have kN754 := kN754 n (by omega)
                  try simp (maxSteps := 2000000) only [wn] at kN754
                  have kN768 := kN768 n (by omega)
                  try simp (maxSteps := 2000000) only [wn] at kN768
                  have kN772 := kN772 n (by omega)
                  try simp (maxSteps := 2000000) only [wn] at kN772
                  simp (maxSteps := 2000000) only [W, reduceIte, Nat.reduceEqDiff, Nat.reduceAdd, Nat.reduceSub, Nat.reduceLT, Nat.reduceLeDiff, Nat.reduceMul, a4, a4l0, kN544, kN570, c572d, d573, kN581, c583d, d584, kN586, c588d, d589, d590, c591d, kN593, c595d, kN599, d600, kN746, kN751, d752, kN754, g759, kN768, d770, kN772, c776d, c777d, c778d, @x_loopAt, wd]
              · rw [if_neg c777] at h
                have c777d := df c777
                cases h
                refine ev_call (fn := a4) rfl ⟨N544 + N570 + N581 + N586 + N593 + N599 + N746 + N751 + N754 + N768 + N772, fun n hn => ?_⟩
                have kN544 := kN544 n (by omega)
                have kN570 := kN570 n (by omega)
                try simp (maxSteps := 2000000) only [wn] at kN570
                have kN581 := kN581 n (by omega)
                try simp (maxSteps := 2000000) only [wn] at kN581
                have kN586 := kN586 n (by omega)
                try simp (maxSteps := 2000000) only [wn] at kN586
                have kN593 := kN593 n (by omega)
                try simp (maxSteps := 2000000) only [wn] at kN593
                have kN599 := kN599 n (by omega)
                try simp (maxSteps := 2000000) only [wn] at kN599
                have kN746 := kN746 n (by omega)
                try simp (maxSteps := 2000000) only [wn] at kN746
                have kN751 := kN751 n (by omega)
                try simp (maxSteps := 2000000) only [wn] at kN751
                have kN754 := kN754 n (by omega)
                try simp (maxSteps := 2000000) only [wn] at kN754
                have kN768 := kN768 n (by omega)
                try simp (maxSteps := 2000000) only [wn] at kN768
                have kN772 := kN772 n (by omega)
                try simp (maxSteps := 2000000) only [wn] at kN772
                simp (maxSteps := 2000000) only [W, reduceIte, Nat.reduceEqDiff, Nat.reduceAdd, Nat.reduceSub, Nat.reduceLT, Nat.reduceLeDiff, Nat.reduceMul, a4, a4l0, kN544, kN570, c572d, d573, kN581, c583d, d584, kN586, c588d, d589, d590, c591d, kN593, c595d, kN599, d600, kN746, kN751, d752, kN754, g759, kN768, d770, kN772, c776d, c777d, @x_loopAt, wd]
            · rw [if_neg c776] at h
              have c776d := df c776
              cases h
              refine ev_call (fn := a4) rfl ⟨N544 + N570 + N581 + N586 + N593 + N599 + N746 + N751 + N754 + N768 + N772, fun n hn => ?_⟩
              have kN544 := kN544 n (by omega)
              have kN570 := kN570 n (by omega)
              try simp (maxSteps := 2000000) only [wn] at kN570
              have kN581 := kN581 n (by omega)
              try simp (maxSteps := 2000000) only [wn] at kN581
              have kN586 := kN586 n (by omega)
              try simp (maxSteps := 2000000) only [wn] at kN586
              have kN593 := kN593 n (by omega)
              try simp (maxSteps := 2000000) only [wn] at kN593
              have kN599 := kN599 n (by omega)
              try simp (maxSteps := 2000000) only [wn] at kN599
              have kN746 := kN746 n (by omega)
              try simp (maxSteps := 2000000) only [wn] at kN746
              have kN751 := kN751 n (by omega)
              try simp (maxSteps := 2000000) only [wn] at kN751
              have kN754 := kN754 n (by omega)
              try simp (maxSteps := 2000000) only [wn] at kN754
              have kN768 := kN768 n (by omega)
              try simp (maxSteps := 2000000) only [wn] at kN768
              have kN772 := kN772 n (by omega)
              try simp (maxSteps := 2000000) only [wn] at kN772
              simp (maxSteps := 2000000) only [W, reduceIte, Nat.reduceEqDiff, Nat.reduceAdd, Nat.reduceSub, Nat.reduceLT, Nat.reduceLeDiff, Nat.reduceMul, a4, a4l0, kN544, kN570, c572d, d573, kN581, c583d, d584, kN586, c588d, d589, d590, c591d, kN593, c595d, kN599, d600, kN746, kN751, d752, kN754, g759, kN768, d770, kN772, c776d, @x_loopAt, wd]
          · rw [if_neg c595] at h
            have c595d := bf c595
            cases h
            refine ev_call (fn := a4) rfl ⟨N544 + N570 + N581 + N586 + N593, fun n hn => ?_⟩
            have kN544 := kN544 n (by omega)
            have kN570 := kN570 n (by omega)
            try simp (maxSteps := 2000000) only [wn] at kN570
            have kN581 := kN581 n (by omega)
            try simp (maxSteps := 2000000) only [wn] at kN581
            have kN586 := kN586 n (by omega)
            try simp (maxSteps := 2000000) only [wn] at kN586
            have kN593 := kN593 n (by omega)
            try simp (maxSteps := 2000000) only [wn] at kN593
            simp (maxSteps := 2000000) only [W, reduceIte, Nat.reduceEqDiff, Nat.reduceAdd, Nat.reduceSub, Nat.reduceLT, Nat.reduceLeDiff, Nat.reduceMul, a4, a4l0, kN544, kN570, c572d, d573, kN581, c583d, d584, kN586, c588d, d589, d590, c591d, kN593, c595d, @x_loopAt, wd]
        · rw [if_neg c591] at h
          have c591d := df c591
          cases h
          refine ev_call (fn := a4) rfl ⟨N544 + N570 + N581 + N586, fun n hn => ?_⟩
          have kN544 := kN544 n (by omega)
          have kN570 := kN570 n (by omega)
          try simp (maxSteps := 2000000) only [wn] at kN570
          have kN581 := kN581 n (by omega)
          try simp (maxSteps := 2000000) only [wn] at kN581
          have kN586 := kN586 n (by omega)
          try simp (maxSteps := 2000000) only [wn] at kN586
          simp (maxSteps := 2000000) only [W, reduceIte, Nat.reduceEqDiff, Nat.reduceAdd, Nat.reduceSub, Nat.reduceLT, Nat.reduceLeDiff, Nat.reduceMul, a4, a4l0, kN544, kN570, c572d, d573, kN581, c583d, d584, kN586, c588d, d589, d590, c591d, @x_loopAt, wd]
      · rw [if_neg c588] at h
        have c588d := df c588
        cases h
        refine ev_call (fn := a4) rfl ⟨N544 + N570 + N581 + N586, fun n hn => ?_⟩
        have kN544 := kN544 n (by omega)
        have kN570 := kN570 n (by omega)
        try simp (maxSteps := 2000000) only [wn] at kN570
        have kN581 := kN581 n (by omega)
        try simp (maxSteps := 2000000) only [wn] at kN581
        have kN586 := kN586 n (by omega)
        try simp (maxSteps := 2000000) only [wn] at kN586
        simp (maxSteps := 2000000) only [W, reduceIte, Nat.reduceEqDiff, Nat.reduceAdd, Nat.reduceSub, Nat.reduceLT, Nat.reduceLeDiff, Nat.reduceMul, a4, a4l0, kN544, kN570, c572d, d573, kN581, c583d, d584, kN586, c588d, @x_loopAt, wd]
    · rw [if_neg c583] at h
      have c583d := df c583
      cases h
      refine ev_call (fn := a4) rfl ⟨N544 + N570 + N581, fun n hn => ?_⟩
      have kN544 := kN544 n (by omega)
      have kN570 := kN570 n (by omega)
      try simp (maxSteps := 2000000) only [wn] at kN570
      have kN581 := kN581 n (by omega)
      try simp (maxSteps := 2000000) only [wn] at kN581
      simp (maxSteps := 2000000) only [W, reduceIte, Nat.reduceEqDiff, Nat.reduceAdd, Nat.reduceSub, Nat.reduceLT, Nat.reduceLeDiff, Nat.reduceMul, a4, a4l0, kN544, kN570, c572d, d573, kN581, c583d, @x_loopAt, wd]
  · rw [if_neg c572] at h
    have c572d := df c572
    cases h
    refine ev_call (fn := a4) rfl ⟨N544 + N570, fun n hn => ?_⟩
    have kN544 := kN544 n (by omega)
    have kN570 := kN570 n (by omega)
    try simp (maxSteps := 2000000) only [wn] at kN570
    simp (maxSteps := 2000000) only [W, reduceIte, Nat.reduceEqDiff, Nat.reduceAdd, Nat.reduceSub, Nat.reduceLT, Nat.reduceLeDiff, Nat.reduceMul, a4, a4l0, kN544, kN570, c572d, @x_loopAt, wd]
end Go.AI
