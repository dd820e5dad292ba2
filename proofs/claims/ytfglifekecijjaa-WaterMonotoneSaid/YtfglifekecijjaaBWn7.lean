/-
  Functions, walked through: guidevanelaw02.WaterMonotone.
-/
import Derived.Test.YtfglifekecijjaaBAiY
import Derived.Test.YtfglifekecijjaaBAiTab
import Derived.Test.YtfglifekecijjaaBAiAwake
import Derived.Test.YtfglifekecijjaaBWnF
import Derived.Test.YtfglifekecijjaaBWn3
import Derived.Test.YtfglifekecijjaaBWn5
import Derived.Test.YtfglifekecijjaaBWn6
set_option linter.unusedVariables false
set_option linter.unusedSimpArgs false
set_option maxRecDepth 100000
set_option maxHeartbeats 4000000
namespace Go.AI
theorem c4_0 (z0 : Bool) (v540 : Int) (v541 : Int) (v542 : Int) (v543 : List Int) (r946 : Bool) (h : F4_0 v540 v541 v542 v543 = some r946) : Ev fun n => (ex tab n).call 4 [.slice 0 0 v543.length v543.length 1 false, .agg [.int .i64 v540, .int .i64 v541], .int .i64 v542] [.row z0 true (rowC v543)] = some (.bool r946, [.row z0 true (rowC v543)]) := by
  unfold F4_0 at h
  obtain ⟨N544, kN544⟩ := awake_ev
  obtain ⟨r571, g569, h⟩ := un1 h
  obtain ⟨N570, kN570⟩ := c23_0 z0 v543 _ g569
  by_cases c945 : r571 = 0
  · rw [if_pos c945] at h
    have c945d := dt c945
    have d572 : inx (0 : Int) 2 = some 0 := by rfl
    obtain ⟨r581, g579, h⟩ := un1 h
    obtain ⟨N580, kN580⟩ := c24_0 v540 _ g579
    by_cases c944 : r581 = 0
    · rw [if_pos c944] at h
      have c944d := dt c944
      have d582 : inx (1 : Int) 2 = some 1 := by rfl
      obtain ⟨r585, g583, h⟩ := un1 h
      obtain ⟨N584, kN584⟩ := c24_0 v541 _ g583
      by_cases c943 : r585 = 0
      · rw [if_pos c943] at h
        have c943d := dt c943
        have d586 : inx (0 : Int) 2 = some 0 := by rfl
        have d587 : inx (1 : Int) 2 = some 1 := by rfl
        by_cases c942 : v540 ≤ v541
        · rw [if_pos c942] at h
          have c942d := dt c942
          obtain ⟨r590, g588, h⟩ := un1 h
          obtain ⟨N589, kN589⟩ := c20_0 v542 0 10000 _ g588
          by_cases c941 : r590 = true
          · rw [if_pos c941] at h
            have c941d := c941
            obtain ⟨_, g593, h⟩ := un1 h
            obtain ⟨N594, kN594⟩ := c26_0 false v543 g593
            have d595 : inx (0 : Int) 2 = some 0 := by rfl
            obtain ⟨r742, r743, r744, g740, h⟩ := un3 h
            obtain ⟨N741, kN741⟩ := c25_0 false v540 v543 _ _ _ g740
            obtain ⟨_, g745, h⟩ := un1 h
            obtain ⟨N746, kN746⟩ := c26_0 false v543 g745
            have d747 : inx (1 : Int) 2 = some 1 := by rfl
            obtain ⟨r750, r751, r752, g748, h⟩ := un3 h
            obtain ⟨N749, kN749⟩ := c25_0 false v541 v543 _ _ _ g748
            obtain ⟨j753, g754, h⟩ := un1 h
            try simp only [wn] at g754
            obtain ⟨r764, g762, h⟩ := un1 h
            obtain ⟨N763, kN763⟩ := c26_1 false j753 v543.length v543 _ g762
            have d765 : inx (0 : Int) 2 = some 0 := by rfl
            obtain ⟨r768, r769, r770, g766, h⟩ := un3 h
            obtain ⟨N767, kN767⟩ := c25_0 false v540 r764 _ _ _ g766
            by_cases c940 : r744 = 0
            · rw [if_pos c940] at h
              have c940d := dt c940
              by_cases c939 : r752 = 0
              · rw [if_pos c939] at h
                have c939d := dt c939
                by_cases c938 : r770 = 0
                · rw [if_pos c938] at h
                  have c938d := dt c938
                  obtain ⟨r773, g771, h⟩ := un1 h
                  obtain ⟨N772, kN772⟩ := c20_0 r742 0 r743 _ g771
                  by_cases c937 : r773 = true
                  · rw [if_pos c937] at h
                    have c937d := c937
                    by_cases c936 : r742 ≤ r750
                    · rw [if_pos c936] at h
                      have c936d := dt c936
                      by_cases c935 : r743 ≤ r751
                      · rw [if_pos c935] at h
                        have c935d := dt c935
                        by_cases c934 : r768 ≤ r742
                        · rw [if_pos c934] at h
                          have c934d := dt c934
                          by_cases c933 : r769 ≤ r743
                          · rw [if_pos c933] at h
                            have c933d := dt c933
                            obtain ⟨r776, g774, h⟩ := un1 h
                            obtain ⟨N775, kN775⟩ := c20_0 (aw .i64 (r743 - r742)) 0 (v543.length : Int) _ g774
                            by_cases c932 : r776 = true
                            · rw [if_pos c932] at h
                              have c932d := c932
                              obtain ⟨g821_, g821, h⟩ := un1 h
                              rcases g821_ with _ | _
                              · dsimp only at h
                                have kN822 := k4l0_0 z0 v542 v543 v540 v541 0 _ g821
                                obtain ⟨N822, kN822⟩ := kN822
                                obtain ⟨_, g823, h⟩ := un1 h
                                obtain ⟨N824, kN824⟩ := c26_0 z0 v543 g823
                                obtain ⟨r906, r907, r908, g904, h⟩ := un3 h
                                obtain ⟨N905, kN905⟩ := c28_0 true v542 v543 _ _ _ g904
                                by_cases c931 : r908 = 0
                                · rw [if_pos c931] at h
                                  have c931d := dt c931
                                  obtain ⟨r911, g909, h⟩ := un1 h
                                  obtain ⟨N910, kN910⟩ := c20_0 r906 0 r907 _ g909
                                  by_cases c930 : r911 = true
                                  · rw [if_pos c930] at h
                                    have c930d := c930
                                    by_cases c929 : r907 ≤ 1000000000
                                    · rw [if_pos c929] at h
                                      have c929d := dt c929
                                      obtain ⟨_, g912, h⟩ := un1 h
                                      obtain ⟨N913, kN913⟩ := c26_0 false v543 g912
                                      obtain ⟨r916, r917, r918, g914, h⟩ := un3 h
                                      obtain ⟨N915, kN915⟩ := c25_0 false r906 v543 _ _ _ g914
                                      obtain ⟨_, g919, h⟩ := un1 h
                                      obtain ⟨N920, kN920⟩ := c26_0 false v543 g919
                                      obtain ⟨r923, r924, r925, g921, h⟩ := un3 h
                                      obtain ⟨N922, kN922⟩ := c25_0 false r907 v543 _ _ _ g921
                                      by_cases c928 : r918 = 0
                                      · rw [if_pos c928] at h
                                        have c928d := dt c928
                                        by_cases c927 : r925 = 0
                                        · rw [if_pos c927] at h
                                          have c927d := dt c927
                                          by_cases c926 : v542 ≤ r917
                                          · rw [if_pos c926] at h
                                            have c926d := dt c926
                                            cases h
                                            refine ev_call (fn := a4) rfl ⟨N544 + N570 + N580 + N584 + N589 + N594 + N741 + N746 + N749 + N763 + N767 + N772 + N775 + N822 + N824 + N905 + N910 + N913 + N915 + N920 + N922, fun n hn => ?_⟩
                                            have kN544 := kN544 n (by omega)
                                            have kN570 := kN570 n (by omega)
                                            try simp only [wn] at kN570
                                            have kN580 := kN580 n (by omega)
                                            try simp only [wn] at kN580
                                            have kN584 := kN584 n (by omega)
                                            try simp only [wn] at kN584
                                            have kN589 := kN589 n (by omega)
                                            try simp only [wn] at kN589
                                            have kN594 := kN594 n (by omega)
                                            try simp only [wn] at kN594
                                            have kN741 := kN741 n (by omega)
                                            try simp only [wn] at kN741
                                            have kN746 := kN746 n (by omega)
                                            try simp only [wn] at kN746
                                            have kN749 := kN749 n (by omega)
                                            try simp only [wn] at kN749
                                            have kN763 := kN763 n (by omega)
                                            try simp only [wn] at kN763
                                            have kN767 := kN767 n (by omega)
                                            try simp only [wn] at kN767
                                            have kN772 := kN772 n (by omega)
                                            try simp only [wn] at kN772
                                            have kN775 := kN775 n (by omega)
                                            try simp only [wn] at kN775
                                            have kN822 := kN822 n (by omega)
                                            simp only [h4l0_0, q4l0_0, wn] at kN822
                                            have kN824 := kN824 n (by omega)
                                            try simp only [wn] at kN824
                                            have kN905 := kN905 n (by omega)
                                            try simp only [wn] at kN905
                                            have kN910 := kN910 n (by omega)
                                            try simp only [wn] at kN910
                                            have kN913 := kN913 n (by omega)
                                            try simp only [wn] at kN913
                                            have kN915 := kN915 n (by omega)
                                            try simp only [wn] at kN915
                                            have kN920 := kN920 n (by omega)
                                            try simp only [wn] at kN920
                                            have kN922 := kN922 n (by omega)
                                            try simp only [wn] at kN922
                                            simp only [W, reduceIte, Nat.reduceEqDiff, Nat.reduceAdd, Nat.reduceSub, Nat.reduceLT, Nat.reduceLeDiff, Nat.reduceMul, a4, a4l0, kN544, kN570, c945d, d572, kN580, c944d, d582, kN584, c943d, d586, d587, c942d, kN589, c941d, kN594, d595, kN741, kN746, d747, kN749, g754, kN763, d765, kN767, c940d, c939d, c938d, kN772, c937d, c936d, c935d, c934d, c933d, kN775, c932d, kN822, kN824, kN905, c931d, kN910, c930d, c929d, kN913, kN915, kN920, kN922, c928d, c927d, c926d, @x_loopAt, wd]
                                          · rw [if_neg c926] at h
                                            have c926d := df c926
                                            cases h
                                            refine ev_call (fn := a4) rfl ⟨N544 + N570 + N580 + N584 + N589 + N594 + N741 + N746 + N749 + N763 + N767 + N772 + N775 + N822 + N824 + N905 + N910 + N913 + N915 + N920 + N922, fun n hn => ?_⟩
                                            have kN544 := kN544 n (by omega)
                                            have kN570 := kN570 n (by omega)
                                            try simp only [wn] at kN570
                                            have kN580 := kN580 n (by omega)
                                            try simp only [wn] at kN580
                                            have kN584 := kN584 n (by omega)
                                            try simp only [wn] at kN584
                                            have kN589 := kN589 n (by omega)
                                            try simp only [wn] at kN589
                                            have kN594 := kN594 n (by omega)
                                            try simp only [wn] at kN594
                                            have kN741 := kN741 n (by omega)
                                            try simp only [wn] at kN741
                                            have kN746 := kN746 n (by omega)
                                            try simp only [wn] at kN746
                                            have kN749 := kN749 n (by omega)
                                            try simp only [wn] at kN749
                                            have kN763 := kN763 n (by omega)
                                            try simp only [wn] at kN763
                                            have kN767 := kN767 n (by omega)
                                            try simp only [wn] at kN767
                                            have kN772 := kN772 n (by omega)
                                            try simp only [wn] at kN772
                                            have kN775 := kN775 n (by omega)
                                            try simp only [wn] at kN775
                                            have kN822 := kN822 n (by omega)
                                            simp only [h4l0_0, q4l0_0, wn] at kN822
                                            have kN824 := kN824 n (by omega)
                                            try simp only [wn] at kN824
                                            have kN905 := kN905 n (by omega)
                                            try simp only [wn] at kN905
                                            have kN910 := kN910 n (by omega)
                                            try simp only [wn] at kN910
                                            have kN913 := kN913 n (by omega)
                                            try simp only [wn] at kN913
                                            have kN915 := kN915 n (by omega)
                                            try simp only [wn] at kN915
                                            have kN920 := kN920 n (by omega)
                                            try simp only [wn] at kN920
                                            have kN922 := kN922 n (by omega)
                                            try simp only [wn] at kN922
                                            simp only [W, reduceIte, Nat.reduceEqDiff, Nat.reduceAdd, Nat.reduceSub, Nat.reduceLT, Nat.reduceLeDiff, Nat.reduceMul, a4, a4l0, kN544, kN570, c945d, d572, kN580, c944d, d582, kN584, c943d, d586, d587, c942d, kN589, c941d, kN594, d595, kN741, kN746, d747, kN749, g754, kN763, d765, kN767, c940d, c939d, c938d, kN772, c937d, c936d, c935d, c934d, c933d, kN775, c932d, kN822, kN824, kN905, c931d, kN910, c930d, c929d, kN913, kN915, kN920, kN922, c928d, c927d, c926d, @x_loopAt, wd]
                                        · rw [if_neg c927] at h
                                          have c927d := df c927
                                          cases h
                                          refine ev_call (fn := a4) rfl ⟨N544 + N570 + N580 + N584 + N589 + N594 + N741 + N746 + N749 + N763 + N767 + N772 + N775 + N822 + N824 + N905 + N910 + N913 + N915 + N920 + N922, fun n hn => ?_⟩
                                          have kN544 := kN544 n (by omega)
                                          have kN570 := kN570 n (by omega)
                                          try simp only [wn] at kN570
                                          have kN580 := kN580 n (by omega)
                                          try simp only [wn] at kN580
                                          have kN584 := kN584 n (by omega)
                                          try simp only [wn] at kN584
                                          have kN589 := kN589 n (by omega)
                                          try simp only [wn] at kN589
                                          have kN594 := kN594 n (by omega)
                                          try simp only [wn] at kN594
                                          have kN741 := kN741 n (by omega)
                                          try simp only [wn] at kN741
                                          have kN746 := kN746 n (by omega)
                                          try simp only [wn] at kN746
                                          have kN749 := kN749 n (by omega)
                                          try simp only [wn] at kN749
                                          have kN763 := kN763 n (by omega)
                                          try simp only [wn] at kN763
                                          have kN767 := kN767 n (by omega)
                                          try simp only [wn] at kN767
                                          have kN772 := kN772 n (by omega)
                                          try simp only [wn] at kN772
                                          have kN775 := kN775 n (by omega)
                                          try simp only [wn] at kN775
                                          have kN822 := kN822 n (by omega)
                                          simp only [h4l0_0, q4l0_0, wn] at kN822
                                          have kN824 := kN824 n (by omega)
                                          try simp only [wn] at kN824
                                          have kN905 := kN905 n (by omega)
                                          try simp only [wn] at kN905
                                          have kN910 := kN910 n (by omega)
                                          try simp only [wn] at kN910
                                          have kN913 := kN913 n (by omega)
                                          try simp only [wn] at kN913
                                          have kN915 := kN915 n (by omega)
                                          try simp only [wn] at kN915
                                          have kN920 := kN920 n (by omega)
                                          try simp only [wn] at kN920
                                          have kN922 := kN922 n (by omega)
                                          try simp only [wn] at kN922
                                          simp only [W, reduceIte, Nat.reduceEqDiff, Nat.reduceAdd, Nat.reduceSub, Nat.reduceLT, Nat.reduceLeDiff, Nat.reduceMul, a4, a4l0, kN544, kN570, c945d, d572, kN580, c944d, d582, kN584, c943d, d586, d587, c942d, kN589, c941d, kN594, d595, kN741, kN746, d747, kN749, g754, kN763, d765, kN767, c940d, c939d, c938d, kN772, c937d, c936d, c935d, c934d, c933d, kN775, c932d, kN822, kN824, kN905, c931d, kN910, c930d, c929d, kN913, kN915, kN920, kN922, c928d, c927d, @x_loopAt, wd]
                                      · rw [if_neg c928] at h
                                        have c928d := df c928
                                        cases h
                                        refine ev_call (fn := a4) rfl ⟨N544 + N570 + N580 + N584 + N589 + N594 + N741 + N746 + N749 + N763 + N767 + N772 + N775 + N822 + N824 + N905 + N910 + N913 + N915 + N920 + N922, fun n hn => ?_⟩
                                        have kN544 := kN544 n (by omega)
                                        have kN570 := kN570 n (by omega)
                                        try simp only [wn] at kN570
                                        have kN580 := kN580 n (by omega)
                                        try simp only [wn] at kN580
                                        have kN584 := kN584 n (by omega)
                                        try simp only [wn] at kN584
                                        have kN589 := kN589 n (by omega)
                                        try simp only [wn] at kN589
                                        have kN594 := kN594 n (by omega)
                                        try simp only [wn] at kN594
                                        have kN741 := kN741 n (by omega)
                                        try simp only [wn] at kN741
                                        have kN746 := kN746 n (by omega)
                                        try simp only [wn] at kN746
                                        have kN749 := kN749 n (by omega)
                                        try simp only [wn] at kN749
                                        have kN763 := kN763 n (by omega)
                                        try simp only [wn] at kN763
                                        have kN767 := kN767 n (by omega)
                                        try simp only [wn] at kN767
                                        have kN772 := kN772 n (by omega)
                                        try simp only [wn] at kN772
                                        have kN775 := kN775 n (by omega)
                                        try simp only [wn] at kN775
                                        have kN822 := kN822 n (by omega)
                                        simp only [h4l0_0, q4l0_0, wn] at kN822
                                        have kN824 := kN824 n (by omega)
                                        try simp only [wn] at kN824
                                        have kN905 := kN905 n (by omega)
                                        try simp only [wn] at kN905
                                        have kN910 := kN910 n (by omega)
                                        try simp only [wn] at kN910
                                        have kN913 := kN913 n (by omega)
                                        try simp only [wn] at kN913
                                        have kN915 := kN915 n (by omega)
                                        try simp only [wn] at kN915
                                        have kN920 := kN920 n (by omega)
                                        try simp only [wn] at kN920
                                        have kN922 := kN922 n (by omega)
                                        try simp only [wn] at kN922
                                        simp only [W, reduceIte, Nat.reduceEqDiff, Nat.reduceAdd, Nat.reduceSub, Nat.reduceLT, Nat.reduceLeDiff, Nat.reduceMul, a4, a4l0, kN544, kN570, c945d, d572, kN580, c944d, d582, kN584, c943d, d586, d587, c942d, kN589, c941d, kN594, d595, kN741, kN746, d747, kN749, g754, kN763, d765, kN767, c940d, c939d, c938d, kN772, c937d, c936d, c935d, c934d, c933d, kN775, c932d, kN822, kN824, kN905, c931d, kN910, c930d, c929d, kN913, kN915, kN920, kN922, c928d, @x_loopAt, wd]
                                    · rw [if_neg c929] at h
                                      have c929d := df c929
                                      cases h
                                      refine ev_call (fn := a4) rfl ⟨N544 + N570 + N580 + N584 + N589 + N594 + N741 + N746 + N749 + N763 + N767 + N772 + N775 + N822 + N824 + N905 + N910, fun n hn => ?_⟩
                                      have kN544 := kN544 n (by omega)
                                      have kN570 := kN570 n (by omega)
                                      try simp only [wn] at kN570
                                      have kN580 := kN580 n (by omega)
                                      try simp only [wn] at kN580
                                      have kN584 := kN584 n (by omega)
                                      try simp only [wn] at kN584
                                      have kN589 := kN589 n (by omega)
                                      try simp only [wn] at kN589
                                      have kN594 := kN594 n (by omega)
                                      try simp only [wn] at kN594
                                      have kN741 := kN741 n (by omega)
                                      try simp only [wn] at kN741
                                      have kN746 := kN746 n (by omega)
                                      try simp only [wn] at kN746
                                      have kN749 := kN749 n (by omega)
                                      try simp only [wn] at kN749
                                      have kN763 := kN763 n (by omega)
                                      try simp only [wn] at kN763
                                      have kN767 := kN767 n (by omega)
                                      try simp only [wn] at kN767
                                      have kN772 := kN772 n (by omega)
                                      try simp only [wn] at kN772
                                      have kN775 := kN775 n (by omega)
                                      try simp only [wn] at kN775
                                      have kN822 := kN822 n (by omega)
                                      simp only [h4l0_0, q4l0_0, wn] at kN822
                                      have kN824 := kN824 n (by omega)
                                      try simp only [wn] at kN824
                                      have kN905 := kN905 n (by omega)
                                      try simp only [wn] at kN905
                                      have kN910 := kN910 n (by omega)
                                      try simp only [wn] at kN910
                                      simp only [W, reduceIte, Nat.reduceEqDiff, Nat.reduceAdd, Nat.reduceSub, Nat.reduceLT, Nat.reduceLeDiff, Nat.reduceMul, a4, a4l0, kN544, kN570, c945d, d572, kN580, c944d, d582, kN584, c943d, d586, d587, c942d, kN589, c941d, kN594, d595, kN741, kN746, d747, kN749, g754, kN763, d765, kN767, c940d, c939d, c938d, kN772, c937d, c936d, c935d, c934d, c933d, kN775, c932d, kN822, kN824, kN905, c931d, kN910, c930d, c929d, @x_loopAt, wd]
                                  · rw [if_neg c930] at h
                                    have c930d := bf c930
                                    cases h
                                    refine ev_call (fn := a4) rfl ⟨N544 + N570 + N580 + N584 + N589 + N594 + N741 + N746 + N749 + N763 + N767 + N772 + N775 + N822 + N824 + N905 + N910, fun n hn => ?_⟩
                                    have kN544 := kN544 n (by omega)
                                    have kN570 := kN570 n (by omega)
                                    try simp only [wn] at kN570
                                    have kN580 := kN580 n (by omega)
                                    try simp only [wn] at kN580
                                    have kN584 := kN584 n (by omega)
                                    try simp only [wn] at kN584
                                    have kN589 := kN589 n (by omega)
                                    try simp only [wn] at kN589
                                    have kN594 := kN594 n (by omega)
                                    try simp only [wn] at kN594
                                    have kN741 := kN741 n (by omega)
                                    try simp only [wn] at kN741
                                    have kN746 := kN746 n (by omega)
                                    try simp only [wn] at kN746
                                    have kN749 := kN749 n (by omega)
                                    try simp only [wn] at kN749
                                    have kN763 := kN763 n (by omega)
                                    try simp only [wn] at kN763
                                    have kN767 := kN767 n (by omega)
                                    try simp only [wn] at kN767
                                    have kN772 := kN772 n (by omega)
                                    try simp only [wn] at kN772
                                    have kN775 := kN775 n (by omega)
                                    try simp only [wn] at kN775
                                    have kN822 := kN822 n (by omega)
                                    simp only [h4l0_0, q4l0_0, wn] at kN822
                                    have kN824 := kN824 n (by omega)
                                    try simp only [wn] at kN824
                                    have kN905 := kN905 n (by omega)
                                    try simp only [wn] at kN905
                                    have kN910 := kN910 n (by omega)
                                    try simp only [wn] at kN910
                                    simp only [W, reduceIte, Nat.reduceEqDiff, Nat.reduceAdd, Nat.reduceSub, Nat.reduceLT, Nat.reduceLeDiff, Nat.reduceMul, a4, a4l0, kN544, kN570, c945d, d572, kN580, c944d, d582, kN584, c943d, d586, d587, c942d, kN589, c941d, kN594, d595, kN741, kN746, d747, kN749, g754, kN763, d765, kN767, c940d, c939d, c938d, kN772, c937d, c936d, c935d, c934d, c933d, kN775, c932d, kN822, kN824, kN905, c931d, kN910, c930d, @x_loopAt, wd]
                                · rw [if_neg c931] at h
                                  have c931d := df c931
                                  cases h
                                  refine ev_call (fn := a4) rfl ⟨N544 + N570 + N580 + N584 + N589 + N594 + N741 + N746 + N749 + N763 + N767 + N772 + N775 + N822 + N824 + N905, fun n hn => ?_⟩
                                  have kN544 := kN544 n (by omega)
                                  have kN570 := kN570 n (by omega)
                                  try simp only [wn] at kN570
                                  have kN580 := kN580 n (by omega)
                                  try simp only [wn] at kN580
                                  have kN584 := kN584 n (by omega)
                                  try simp only [wn] at kN584
                                  have kN589 := kN589 n (by omega)
                                  try simp only [wn] at kN589
                                  have kN594 := kN594 n (by omega)
                                  try simp only [wn] at kN594
                                  have kN741 := kN741 n (by omega)
                                  try simp only [wn] at kN741
                                  have kN746 := kN746 n (by omega)
                                  try simp only [wn] at kN746
                                  have kN749 := kN749 n (by omega)
                                  try simp only [wn] at kN749
                                  have kN763 := kN763 n (by omega)
                                  try simp only [wn] at kN763
                                  have kN767 := kN767 n (by omega)
                                  try simp only [wn] at kN767
                                  have kN772 := kN772 n (by omega)
                                  try simp only [wn] at kN772
                                  have kN775 := kN775 n (by omega)
                                  try simp only [wn] at kN775
                                  have kN822 := kN822 n (by omega)
                                  simp only [h4l0_0, q4l0_0, wn] at kN822
                                  have kN824 := kN824 n (by omega)
                                  try simp only [wn] at kN824
                                  have kN905 := kN905 n (by omega)
                                  try simp only [wn] at kN905
                                  simp only [W, reduceIte, Nat.reduceEqDiff, Nat.reduceAdd, Nat.reduceSub, Nat.reduceLT, Nat.reduceLeDiff, Nat.reduceMul, a4, a4l0, kN544, kN570, c945d, d572, kN580, c944d, d582, kN584, c943d, d586, d587, c942d, kN589, c941d, kN594, d595, kN741, kN746, d747, kN749, g754, kN763, d765, kN767, c940d, c939d, c938d, kN772, c937d, c936d, c935d, c934d, c933d, kN775, c932d, kN822, kN824, kN905, c931d, @x_loopAt, wd]
                              · dsimp only at h
                                have kN822 := k4l0_0 z0 v542 v543 v540 v541 0 _ g821
                                obtain ⟨N822, kN822⟩ := kN822
                                cases h
                                refine ev_call (fn := a4) rfl ⟨N544 + N570 + N580 + N584 + N589 + N594 + N741 + N746 + N749 + N763 + N767 + N772 + N775 + N822, fun n hn => ?_⟩
                                have kN544 := kN544 n (by omega)
                                have kN570 := kN570 n (by omega)
                                try simp only [wn] at kN570
                                have kN580 := kN580 n (by omega)
                                try simp only [wn] at kN580
                                have kN584 := kN584 n (by omega)
                                try simp only [wn] at kN584
                                have kN589 := kN589 n (by omega)
                                try simp only [wn] at kN589
                                have kN594 := kN594 n (by omega)
                                try simp only [wn] at kN594
                                have kN741 := kN741 n (by omega)
                                try simp only [wn] at kN741
                                have kN746 := kN746 n (by omega)
                                try simp only [wn] at kN746
                                have kN749 := kN749 n (by omega)
                                try simp only [wn] at kN749
                                have kN763 := kN763 n (by omega)
                                try simp only [wn] at kN763
                                have kN767 := kN767 n (by omega)
                                try simp only [wn] at kN767
                                have kN772 := kN772 n (by omega)
                                try simp only [wn] at kN772
                                have kN775 := kN775 n (by omega)
                                try simp only [wn] at kN775
                                have kN822 := kN822 n (by omega)
                                simp only [h4l0_0, q4l0_0, wn] at kN822
                                simp only [W, reduceIte, Nat.reduceEqDiff, Nat.reduceAdd, Nat.reduceSub, Nat.reduceLT, Nat.reduceLeDiff, Nat.reduceMul, a4, a4l0, kN544, kN570, c945d, d572, kN580, c944d, d582, kN584, c943d, d586, d587, c942d, kN589, c941d, kN594, d595, kN741, kN746, d747, kN749, g754, kN763, d765, kN767, c940d, c939d, c938d, kN772, c937d, c936d, c935d, c934d, c933d, kN775, c932d, kN822, @x_loopAt, wd]
                            · rw [if_neg c932] at h
                              have c932d := bf c932
                              cases h
                              refine ev_call (fn := a4) rfl ⟨N544 + N570 + N580 + N584 + N589 + N594 + N741 + N746 + N749 + N763 + N767 + N772 + N775, fun n hn => ?_⟩
                              have kN544 := kN544 n (by omega)
                              have kN570 := kN570 n (by omega)
                              try simp only [wn] at kN570
                              have kN580 := kN580 n (by omega)
                              try simp only [wn] at kN580
                              have kN584 := kN584 n (by omega)
                              try simp only [wn] at kN584
                              have kN589 := kN589 n (by omega)
                              try simp only [wn] at kN589
                              have kN594 := kN594 n (by omega)
                              try simp only [wn] at kN594
                              have kN741 := kN741 n (by omega)
                              try simp only [wn] at kN741
                              have kN746 := kN746 n (by omega)
                              try simp only [wn] at kN746
                              have kN749 := kN749 n (by omega)
                              try simp only [wn] at kN749
                              have kN763 := kN763 n (by omega)
                              try simp only [wn] at kN763
                              have kN767 := kN767 n (by omega)
                              try simp only [wn] at kN767
                              have kN772 := kN772 n (by omega)
                              try simp only [wn] at kN772
                              have kN775 := kN775 n (by omega)
                              try simp only [wn] at kN775
                              simp only [W, reduceIte, Nat.reduceEqDiff, Nat.reduceAdd, Nat.reduceSub, Nat.reduceLT, Nat.reduceLeDiff, Nat.reduceMul, a4, a4l0, kN544, kN570, c945d, d572, kN580, c944d, d582, kN584, c943d, d586, d587, c942d, kN589, c941d, kN594, d595, kN741, kN746, d747, kN749, g754, kN763, d765, kN767, c940d, c939d, c938d, kN772, c937d, c936d, c935d, c934d, c933d, kN775, c932d, @x_loopAt, wd]
                          · rw [if_neg c933] at h
                            have c933d := df c933
                            cases h
                            refine ev_call (fn := a4) rfl ⟨N544 + N570 + N580 + N584 + N589 + N594 + N741 + N746 + N749 + N763 + N767 + N772, fun n hn => ?_⟩
                            have kN544 := kN544 n (by omega)
                            have kN570 := kN570 n (by omega)
                            try simp only [wn] at kN570
                            have kN580 := kN580 n (by omega)
                            try simp only [wn] at kN580
                            have kN584 := kN584 n (by omega)
                            try simp only [wn] at kN584
                            have kN589 := kN589 n (by omega)
                            try simp only [wn] at kN589
                            have kN594 := kN594 n (by omega)
                            try simp only [wn] at kN594
                            have kN741 := kN741 n (by omega)
                            try simp only [wn] at kN741
                            have kN746 := kN746 n (by omega)
                            try simp only [wn] at kN746
                            have kN749 := kN749 n (by omega)
                            try simp only [wn] at kN749
                            have kN763 := kN763 n (by omega)
                            try simp only [wn] at kN763
                            have kN767 := kN767 n (by omega)
                            try simp only [wn] at kN767
                            have kN772 := kN772 n (by omega)
                            try simp only [wn] at kN772
                            simp only [W, reduceIte, Nat.reduceEqDiff, Nat.reduceAdd, Nat.reduceSub, Nat.reduceLT, Nat.reduceLeDiff, Nat.reduceMul, a4, a4l0, kN544, kN570, c945d, d572, kN580, c944d, d582, kN584, c943d, d586, d587, c942d, kN589, c941d, kN594, d595, kN741, kN746, d747, kN749, g754, kN763, d765, kN767, c940d, c939d, c938d, kN772, c937d, c936d, c935d, c934d, c933d, @x_loopAt, wd]
                        · rw [if_neg c934] at h
                          have c934d := df c934
                          cases h
                          refine ev_call (fn := a4) rfl ⟨N544 + N570 + N580 + N584 + N589 + N594 + N741 + N746 + N749 + N763 + N767 + N772, fun n hn => ?_⟩
                          have kN544 := kN544 n (by omega)
                          have kN570 := kN570 n (by omega)
                          try simp only [wn] at kN570
                          have kN580 := kN580 n (by omega)
                          try simp only [wn] at kN580
                          have kN584 := kN584 n (by omega)
                          try simp only [wn] at kN584
                          have kN589 := kN589 n (by omega)
                          try simp only [wn] at kN589
                          have kN594 := kN594 n (by omega)
                          try simp only [wn] at kN594
                          have kN741 := kN741 n (by omega)
                          try simp only [wn] at kN741
                          have kN746 := kN746 n (by omega)
                          try simp only [wn] at kN746
                          have kN749 := kN749 n (by omega)
                          try simp only [wn] at kN749
                          have kN763 := kN763 n (by omega)
                          try simp only [wn] at kN763
                          have kN767 := kN767 n (by omega)
                          try simp only [wn] at kN767
                          have kN772 := kN772 n (by omega)
                          try simp only [wn] at kN772
                          simp only [W, reduceIte, Nat.reduceEqDiff, Nat.reduceAdd, Nat.reduceSub, Nat.reduceLT, Nat.reduceLeDiff, Nat.reduceMul, a4, a4l0, kN544, kN570, c945d, d572, kN580, c944d, d582, kN584, c943d, d586, d587, c942d, kN589, c941d, kN594, d595, kN741, kN746, d747, kN749, g754, kN763, d765, kN767, c940d, c939d, c938d, kN772, c937d, c936d, c935d, c934d, @x_loopAt, wd]
                      · rw [if_neg c935] at h
                        have c935d := df c935
                        cases h
                        refine ev_call (fn := a4) rfl ⟨N544 + N570 + N580 + N584 + N589 + N594 + N741 + N746 + N749 + N763 + N767 + N772, fun n hn => ?_⟩
                        have kN544 := kN544 n (by omega)
                        have kN570 := kN570 n (by omega)
                        try simp only [wn] at kN570
                        have kN580 := kN580 n (by omega)
                        try simp only [wn] at kN580
                        have kN584 := kN584 n (by omega)
                        try simp only [wn] at kN584
                        have kN589 := kN589 n (by omega)
                        try simp only [wn] at kN589
                        have kN594 := kN594 n (by omega)
                        try simp only [wn] at kN594
                        have kN741 := kN741 n (by omega)
                        try simp only [wn] at kN741
                        have kN746 := kN746 n (by omega)
                        try simp only [wn] at kN746
                        have kN749 := kN749 n (by omega)
                        try simp only [wn] at kN749
                        have kN763 := kN763 n (by omega)
                        try simp only [wn] at kN763
                        have kN767 := kN767 n (by omega)
                        try simp only [wn] at kN767
                        have kN772 := kN772 n (by omega)
                        try simp only [wn] at kN772
                        simp only [W, reduceIte, Nat.reduceEqDiff, Nat.reduceAdd, Nat.reduceSub, Nat.reduceLT, Nat.reduceLeDiff, Nat.reduceMul, a4, a4l0, kN544, kN570, c945d, d572, kN580, c944d, d582, kN584, c943d, d586, d587, c942d, kN589, c941d, kN594, d595, kN741, kN746, d747, kN749, g754, kN763, d765, kN767, c940d, c939d, c938d, kN772, c937d, c936d, c935d, @x_loopAt, wd]
                    · rw [if_neg c936] at h
                      have c936d := df c936
                      cases h
                      refine ev_call (fn := a4) rfl ⟨N544 + N570 + N580 + N584 + N589 + N594 + N741 + N746 + N749 + N763 + N767 + N772, fun n hn => ?_⟩
                      have kN544 := kN544 n (by omega)
                      have kN570 := kN570 n (by omega)
                      try simp only [wn] at kN570
                      have kN580 := kN580 n (by omega)
                      try simp only [wn] at kN580
                      have kN584 := kN584 n (by omega)
                      try simp only [wn] at kN584
                      have kN589 := kN589 n (by omega)
                      try simp only [wn] at kN589
                      have kN594 := kN594 n (by omega)
                      try simp only [wn] at kN594
                      have kN741 := kN741 n (by omega)
                      try simp only [wn] at kN741
                      have kN746 := kN746 n (by omega)
                      try simp only [wn] at kN746
                      have kN749 := kN749 n (by omega)
                      try simp only [wn] at kN749
                      have kN763 := kN763 n (by omega)
                      try simp only [wn] at kN763
                      have kN767 := kN767 n (by omega)
                      try simp only [wn] at kN767
                      have kN772 := kN772 n (by omega)
                      try simp only [wn] at kN772
                      simp only [W, reduceIte, Nat.reduceEqDiff, Nat.reduceAdd, Nat.reduceSub, Nat.reduceLT, Nat.reduceLeDiff, Nat.reduceMul, a4, a4l0, kN544, kN570, c945d, d572, kN580, c944d, d582, kN584, c943d, d586, d587, c942d, kN589, c941d, kN594, d595, kN741, kN746, d747, kN749, g754, kN763, d765, kN767, c940d, c939d, c938d, kN772, c937d, c936d, @x_loopAt, wd]
                  · rw [if_neg c937] at h
                    have c937d := bf c937
                    cases h
                    refine ev_call (fn := a4) rfl ⟨N544 + N570 + N580 + N584 + N589 + N594 + N741 + N746 + N749 + N763 + N767 + N772, fun n hn => ?_⟩
                    have kN544 := kN544 n (by omega)
                    have kN570 := kN570 n (by omega)
                    try simp only [wn] at kN570
                    have kN580 := kN580 n (by omega)
                    try simp only [wn] at kN580
                    have kN584 := kN584 n (by omega)
                    try simp only [wn] at kN584
                    have kN589 := kN589 n (by omega)
                    try simp only [wn] at kN589
                    have kN594 := kN594 n (by omega)
                    try simp only [wn] at kN594
                    have kN741 := kN741 n (by omega)
                    try simp only [wn] at kN741
                    have kN746 := kN746 n (by omega)
                    try simp only [wn] at kN746
                    have kN749 := kN749 n (by omega)
                    try simp only [wn] at kN749
                    have kN763 := kN763 n (by omega)
                    try simp only [wn] at kN763
                    have kN767 := kN767 n (by omega)
                    try simp only [wn] at kN767
                    have kN772 := kN772 n (by omega)
                    try simp only [wn] at kN772
                    simp only [W, reduceIte, Nat.reduceEqDiff, Nat.reduceAdd, Nat.reduceSub, Nat.reduceLT, Nat.reduceLeDiff, Nat.reduceMul, a4, a4l0, kN544, kN570, c945d, d572, kN580, c944d, d582, kN584, c943d, d586, d587, c942d, kN589, c941d, kN594, d595, kN741, kN746, d747, kN749, g754, kN763, d765, kN767, c940d, c939d, c938d, kN772, c937d, @x_loopAt, wd]
                · rw [if_neg c938] at h
                  have c938d := df c938
                  cases h
                  refine ev_call (fn := a4) rfl ⟨N544 + N570 + N580 + N584 + N589 + N594 + N741 + N746 + N749 + N763 + N767, fun n hn => ?_⟩
                  have kN544 := kN544 n (by omega)
                  have kN570 := kN570 n (by omega)
                  try simp only [wn] at kN570
                  have kN580 := kN580 n (by omega)
                  try simp only [wn] at kN580
                  have kN584 := kN584 n (by omega)
                  try simp only [wn] at kN584
                  have kN589 := kN589 n (by omega)
                  try simp only [wn] at kN589
                  have kN594 := kN594 n (by omega)
                  try simp only [wn] at kN594
                  have kN741 := kN741 n (by omega)
                  try simp only [wn] at kN741
                  have kN746 := kN746 n (by omega)
                  try simp only [wn] at kN746
                  have kN749 := kN749 n (by omega)
                  try simp only [wn] at kN749
                  have kN763 := kN763 n (by omega)
                  try simp only [wn] at kN763
                  have kN767 := kN767 n (by omega)
                  try simp only [wn] at kN767
                  simp only [W, reduceIte, Nat.reduceEqDiff, Nat.reduceAdd, Nat.reduceSub, Nat.reduceLT, Nat.reduceLeDiff, Nat.reduceMul, a4, a4l0, kN544, kN570, c945d, d572, kN580, c944d, d582, kN584, c943d, d586, d587, c942d, kN589, c941d, kN594, d595, kN741, kN746, d747, kN749, g754, kN763, d765, kN767, c940d, c939d, c938d, @x_loopAt, wd]
              · rw [if_neg c939] at h
                have c939d := df c939
                cases h
                refine ev_call (fn := a4) rfl ⟨N544 + N570 + N580 + N584 + N589 + N594 + N741 + N746 + N749 + N763 + N767, fun n hn => ?_⟩
                have kN544 := kN544 n (by omega)
                have kN570 := kN570 n (by omega)
                try simp only [wn] at kN570
                have kN580 := kN580 n (by omega)
                try simp only [wn] at kN580
                have kN584 := kN584 n (by omega)
                try simp only [wn] at kN584
                have kN589 := kN589 n (by omega)
                try simp only [wn] at kN589
                have kN594 := kN594 n (by omega)
                try simp only [wn] at kN594
                have kN741 := kN741 n (by omega)
                try simp only [wn] at kN741
                have kN746 := kN746 n (by omega)
                try simp only [wn] at kN746
                have kN749 := kN749 n (by omega)
                try simp only [wn] at kN749
                have kN763 := kN763 n (by omega)
                try simp only [wn] at kN763
                have kN767 := kN767 n (by omega)
                try simp only [wn] at kN767
                simp only [W, reduceIte, Nat.reduceEqDiff, Nat.reduceAdd, Nat.reduceSub, Nat.reduceLT, Nat.reduceLeDiff, Nat.reduceMul, a4, a4l0, kN544, kN570, c945d, d572, kN580, c944d, d582, kN584, c943d, d586, d587, c942d, kN589, c941d, kN594, d595, kN741, kN746, d747, kN749, g754, kN763, d765, kN767, c940d, c939d, @x_loopAt, wd]
            · rw [if_neg c940] at h
              have c940d := df c940
              cases h
              refine ev_call (fn := a4) rfl ⟨N544 + N570 + N580 + N584 + N589 + N594 + N741 + N746 + N749 + N763 + N767, fun n hn => ?_⟩
              have kN544 := kN544 n (by omega)
              have kN570 := kN570 n (by omega)
              try simp only [wn] at kN570
              have kN580 := kN580 n (by omega)
              try simp only [wn] at kN580
              have kN584 := kN584 n (by omega)
              try simp only [wn] at kN584
              have kN589 := kN589 n (by omega)
              try simp only [wn] at kN589
              have kN594 := kN594 n (by omega)
              try simp only [wn] at kN594
              have kN741 := kN741 n (by omega)
              try simp only [wn] at kN741
              have kN746 := kN746 n (by omega)
              try simp only [wn] at kN746
              have kN749 := kN749 n (by omega)
              try simp only [wn] at kN749
              have kN763 := kN763 n (by omega)
              try simp only [wn] at kN763
              have kN767 := kN767 n (by omega)
              try simp only [wn] at kN767
              simp only [W, reduceIte, Nat.reduceEqDiff, Nat.reduceAdd, Nat.reduceSub, Nat.reduceLT, Nat.reduceLeDiff, Nat.reduceMul, a4, a4l0, kN544, kN570, c945d, d572, kN580, c944d, d582, kN584, c943d, d586, d587, c942d, kN589, c941d, kN594, d595, kN741, kN746, d747, kN749, g754, kN763, d765, kN767, c940d, @x_loopAt, wd]
          · rw [if_neg c941] at h
            have c941d := bf c941
            cases h
            refine ev_call (fn := a4) rfl ⟨N544 + N570 + N580 + N584 + N589, fun n hn => ?_⟩
            have kN544 := kN544 n (by omega)
            have kN570 := kN570 n (by omega)
            try simp only [wn] at kN570
            have kN580 := kN580 n (by omega)
            try simp only [wn] at kN580
            have kN584 := kN584 n (by omega)
            try simp only [wn] at kN584
            have kN589 := kN589 n (by omega)
            try simp only [wn] at kN589
            simp only [W, reduceIte, Nat.reduceEqDiff, Nat.reduceAdd, Nat.reduceSub, Nat.reduceLT, Nat.reduceLeDiff, Nat.reduceMul, a4, a4l0, kN544, kN570, c945d, d572, kN580, c944d, d582, kN584, c943d, d586, d587, c942d, kN589, c941d, @x_loopAt, wd]
        · rw [if_neg c942] at h
          have c942d := df c942
          cases h
          refine ev_call (fn := a4) rfl ⟨N544 + N570 + N580 + N584, fun n hn => ?_⟩
          have kN544 := kN544 n (by omega)
          have kN570 := kN570 n (by omega)
          try simp only [wn] at kN570
          have kN580 := kN580 n (by omega)
          try simp only [wn] at kN580
          have kN584 := kN584 n (by omega)
          try simp only [wn] at kN584
          simp only [W, reduceIte, Nat.reduceEqDiff, Nat.reduceAdd, Nat.reduceSub, Nat.reduceLT, Nat.reduceLeDiff, Nat.reduceMul, a4, a4l0, kN544, kN570, c945d, d572, kN580, c944d, d582, kN584, c943d, d586, d587, c942d, @x_loopAt, wd]
      · rw [if_neg c943] at h
        have c943d := df c943
        cases h
        refine ev_call (fn := a4) rfl ⟨N544 + N570 + N580 + N584, fun n hn => ?_⟩
        have kN544 := kN544 n (by omega)
        have kN570 := kN570 n (by omega)
        try simp only [wn] at kN570
        have kN580 := kN580 n (by omega)
        try simp only [wn] at kN580
        have kN584 := kN584 n (by omega)
        try simp only [wn] at kN584
        simp only [W, reduceIte, Nat.reduceEqDiff, Nat.reduceAdd, Nat.reduceSub, Nat.reduceLT, Nat.reduceLeDiff, Nat.reduceMul, a4, a4l0, kN544, kN570, c945d, d572, kN580, c944d, d582, kN584, c943d, @x_loopAt, wd]
    · rw [if_neg c944] at h
      have c944d := df c944
      cases h
      refine ev_call (fn := a4) rfl ⟨N544 + N570 + N580, fun n hn => ?_⟩
      have kN544 := kN544 n (by omega)
      have kN570 := kN570 n (by omega)
      try simp only [wn] at kN570
      have kN580 := kN580 n (by omega)
      try simp only [wn] at kN580
      simp only [W, reduceIte, Nat.reduceEqDiff, Nat.reduceAdd, Nat.reduceSub, Nat.reduceLT, Nat.reduceLeDiff, Nat.reduceMul, a4, a4l0, kN544, kN570, c945d, d572, kN580, c944d, @x_loopAt, wd]
  · rw [if_neg c945] at h
    have c945d := df c945
    cases h
    refine ev_call (fn := a4) rfl ⟨N544 + N570, fun n hn => ?_⟩
    have kN544 := kN544 n (by omega)
    have kN570 := kN570 n (by omega)
    try simp only [wn] at kN570
    simp only [W, reduceIte, Nat.reduceEqDiff, Nat.reduceAdd, Nat.reduceSub, Nat.reduceLT, Nat.reduceLeDiff, Nat.reduceMul, a4, a4l0, kN544, kN570, c945d, @x_loopAt, wd]
end Go.AI
