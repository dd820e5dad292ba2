import Derived.Test.YtfglifekecijjaaDAiY
import Derived.Test.YtfglifekecijjaaDAiTab
import Derived.Test.YtfglifekecijjaaDAiAwake
import Derived.Test.YtfglifekecijjaaDWnF
import Derived.Test.YtfglifekecijjaaDWn22
/-
  Functions, walked through: guidevanelaw02.WaterSplits.
-/
set_option linter.unusedVariables false
set_option linter.unusedSimpArgs false
set_option maxRecDepth 100000
set_option maxHeartbeats 4000000
namespace Go.AI
theorem c7_0 (z0 : Bool) (v2786 : Int) (v2787 : Int) (v2788 : List Int) (r3116 : Bool) (h : F7_0 v2786 v2787 v2788 = some r3116) : Ev fun n => (ex tab n).call 7 [.slice 0 0 v2788.length v2788.length 1 false, .int .i64 v2786, .int .i64 v2787] [.row z0 true (rowC v2788)] = some (.bool r3116, [.row z0 true (rowC v2788)]) := by
  unfold F7_0 at h
  obtain ⟨N2789, kN2789⟩ := awake_ev
  by_cases c2790 : (v2788.length : Int) ≤ 10
  · rw [if_pos c2790] at h
    have c2790d := dt c2790
    obtain ⟨_, g2791, h⟩ := un1 h
    obtain ⟨N2792, kN2792⟩ := c26_0 z0 v2788 g2791
    obtain ⟨r2814, r2815, g2812, h⟩ := un2 h
    obtain ⟨N2813, kN2813⟩ := c43_0 true v2788 _ _ g2812
    obtain ⟨_, g2816, h⟩ := un1 h
    obtain ⟨N2817, kN2817⟩ := c26_0 z0 v2788 g2816
    obtain ⟨r2820, r2821, r2822, g2818, h⟩ := un3 h
    obtain ⟨N2819, kN2819⟩ := c25_0 true v2786 v2788 _ _ _ g2818
    obtain ⟨_, g2823, h⟩ := un1 h
    obtain ⟨N2824, kN2824⟩ := c26_0 z0 v2788 g2823
    obtain ⟨r2827, r2828, r2829, g2825, h⟩ := un3 h
    obtain ⟨N2826, kN2826⟩ := c28_0 true v2787 v2788 _ _ _ g2825
    obtain ⟨g2919_, g2919, h⟩ := un1 h
    rcases g2919_ with _ | _
    · dsimp only at h
      have kN2920 := k7l0_0 z0 v2786 v2787 r2814 r2815 r2822 r2829 v2788 r2820 r2821 r2827 r2828 0 _ g2919
      obtain ⟨N2920, kN2920⟩ := kN2920
      obtain ⟨r2923, g2921, h⟩ := un1 h
      obtain ⟨N2922, kN2922⟩ := c23_0 z0 v2788 _ g2921
      by_cases c2924 : r2923 = 0
      · rw [if_pos c2924] at h
        have c2924d := dt c2924
        obtain ⟨r2945, g2943, h⟩ := un1 h
        have kN2944 := k7l1_0 z0 v2786 v2787 r2814 r2815 r2822 r2829 v2788 r2820 r2821 r2827 r2828 (0, 0) _ g2943
        obtain ⟨N2944, kN2944⟩ := kN2944
        by_cases c2946 : r2815 = 0
        · rw [if_pos c2946] at h
          have c2946d := dt c2946
          by_cases c2947 : r2814 = r2945
          · rw [if_pos c2947] at h
            have c2947d := dt c2947
            obtain ⟨r2950, g2948, h⟩ := un1 h
            obtain ⟨N2949, kN2949⟩ := c24_0 v2786 _ g2948
            by_cases c2951 : r2950 = 0
            · rw [if_pos c2951] at h
              have c2951d := dt c2951
              by_cases c2952 : r2822 = 0
              · rw [if_pos c2952] at h
                have c2952d := dt c2952
                obtain ⟨r2995, r2996, g2993, h⟩ := un2 h
                obtain ⟨N2994, kN2994⟩ := c46_0 false v2786 v2788 _ _ g2993
                by_cases c2997 : r2820 = r2995
                · rw [if_pos c2997] at h
                  have c2997d := dt c2997
                  by_cases c2998 : r2821 = r2996
                  · rw [if_pos c2998] at h
                    have c2998d := dt c2998
                    obtain ⟨r3001, g2999, h⟩ := un1 h
                    obtain ⟨N3000, kN3000⟩ := c20_0 v2787 0 10000 _ g2999
                    by_cases c3002 : r3001 = true
                    · rw [if_pos c3002] at h
                      have c3002d := c3002
                      obtain ⟨r3083, r3084, r3085, g3081, h⟩ := un3 h
                      obtain ⟨N3082, kN3082⟩ := c47_0 z0 v2787 v2788 _ _ _ g3081
                      by_cases c3086 : r3085 = true
                      · rw [if_pos c3086] at h
                        have c3086d := c3086
                        by_cases c3087 : r2829 = 0
                        · rw [if_pos c3087] at h
                          have c3087d := dt c3087
                          by_cases c3088 : r2827 = r3083
                          · rw [if_pos c3088] at h
                            have c3088d := dt c3088
                            by_cases c3089 : r2828 = r3084
                            · rw [if_pos c3089] at h
                              have c3089d := dt c3089
                              cases h
                              refine ev_call (fn := a7) rfl ⟨N2789 + N2792 + N2813 + N2817 + N2819 + N2824 + N2826 + N2920 + N2922 + N2944 + N2949 + N2994 + N3000 + N3082, fun n hn => ?_⟩
                              have kN2789 := kN2789 n (by omega)
                              have kN2792 := kN2792 n (by omega)
                              try simp (maxSteps := 2000000) only [wn] at kN2792
                              have kN2813 := kN2813 n (by omega)
                              try simp (maxSteps := 2000000) only [wn] at kN2813
                              have kN2817 := kN2817 n (by omega)
                              try simp (maxSteps := 2000000) only [wn] at kN2817
                              have kN2819 := kN2819 n (by omega)
                              try simp (maxSteps := 2000000) only [wn] at kN2819
                              have kN2824 := kN2824 n (by omega)
                              try simp (maxSteps := 2000000) only [wn] at kN2824
                              have kN2826 := kN2826 n (by omega)
                              try simp (maxSteps := 2000000) only [wn] at kN2826
                              have kN2920 := kN2920 n (by omega)
                              simp (maxSteps := 2000000) only [h7l0_0, q7l0_0, wn] at kN2920
                              have kN2922 := kN2922 n (by omega)
                              try simp (maxSteps := 2000000) only [wn] at kN2922
                              have kN2944 := kN2944 n (by omega)
                              simp (maxSteps := 2000000) only [h7l1_0, q7l1_0, wn] at kN2944
                              have kN2949 := kN2949 n (by omega)
                              try simp (maxSteps := 2000000) only [wn] at kN2949
                              have kN2994 := kN2994 n (by omega)
                              try simp (maxSteps := 2000000) only [wn] at kN2994
                              have kN3000 := kN3000 n (by omega)
                              try simp (maxSteps := 2000000) only [wn] at kN3000
                              have kN3082 := kN3082 n (by omega)
                              try simp (maxSteps := 2000000) only [wn] at kN3082
                              simp (maxSteps := 2000000) only [W, reduceIte, Nat.reduceEqDiff, Nat.reduceAdd, Nat.reduceSub, Nat.reduceLT, Nat.reduceLeDiff, Nat.reduceMul, a7, a7l0, a7l1, kN2789, c2790d, kN2792, kN2813, kN2817, kN2819, kN2824, kN2826, kN2920, kN2922, c2924d, kN2944, c2946d, c2947d, kN2949, c2951d, c2952d, kN2994, c2997d, c2998d, kN3000, c3002d, kN3082, c3086d, c3087d, c3088d, c3089d, @x_loopAt, wd]
                            · rw [if_neg c3089] at h
                              have c3089d := df c3089
                              cases h
                              refine ev_call (fn := a7) rfl ⟨N2789 + N2792 + N2813 + N2817 + N2819 + N2824 + N2826 + N2920 + N2922 + N2944 + N2949 + N2994 + N3000 + N3082, fun n hn => ?_⟩
                              have kN2789 := kN2789 n (by omega)
                              have kN2792 := kN2792 n (by omega)
                              try simp (maxSteps := 2000000) only [wn] at kN2792
                              have kN2813 := kN2813 n (by omega)
                              try simp (maxSteps := 2000000) only [wn] at kN2813
                              have kN2817 := kN2817 n (by omega)
                              try simp (maxSteps := 2000000) only [wn] at kN2817
                              have kN2819 := kN2819 n (by omega)
                              try simp (maxSteps := 2000000) only [wn] at kN2819
                              have kN2824 := kN2824 n (by omega)
                              try simp (maxSteps := 2000000) only [wn] at kN2824
                              have kN2826 := kN2826 n (by omega)
                              try simp (maxSteps := 2000000) only [wn] at kN2826
                              have kN2920 := kN2920 n (by omega)
                              simp (maxSteps := 2000000) only [h7l0_0, q7l0_0, wn] at kN2920
                              have kN2922 := kN2922 n (by omega)
                              try simp (maxSteps := 2000000) only [wn] at kN2922
                              have kN2944 := kN2944 n (by omega)
                              simp (maxSteps := 2000000) only [h7l1_0, q7l1_0, wn] at kN2944
                              have kN2949 := kN2949 n (by omega)
                              try simp (maxSteps := 2000000) only [wn] at kN2949
                              have kN2994 := kN2994 n (by omega)
                              try simp (maxSteps := 2000000) only [wn] at kN2994
                              have kN3000 := kN3000 n (by omega)
                              try simp (maxSteps := 2000000) only [wn] at kN3000
                              have kN3082 := kN3082 n (by omega)
                              try simp (maxSteps := 2000000) only [wn] at kN3082
                              simp (maxSteps := 2000000) only [W, reduceIte, Nat.reduceEqDiff, Nat.reduceAdd, Nat.reduceSub, Nat.reduceLT, Nat.reduceLeDiff, Nat.reduceMul, a7, a7l0, a7l1, kN2789, c2790d, kN2792, kN2813, kN2817, kN2819, kN2824, kN2826, kN2920, kN2922, c2924d, kN2944, c2946d, c2947d, kN2949, c2951d, c2952d, kN2994, c2997d, c2998d, kN3000, c3002d, kN3082, c3086d, c3087d, c3088d, c3089d, @x_loopAt, wd]
                          · rw [if_neg c3088] at h
                            have c3088d := df c3088
                            cases h
                            refine ev_call (fn := a7) rfl ⟨N2789 + N2792 + N2813 + N2817 + N2819 + N2824 + N2826 + N2920 + N2922 + N2944 + N2949 + N2994 + N3000 + N3082, fun n hn => ?_⟩
                            have kN2789 := kN2789 n (by omega)
                            have kN2792 := kN2792 n (by omega)
                            try simp (maxSteps := 2000000) only [wn] at kN2792
                            have kN2813 := kN2813 n (by omega)
                            try simp (maxSteps := 2000000) only [wn] at kN2813
                            have kN2817 := kN2817 n (by omega)
                            try simp (maxSteps := 2000000) only [wn] at kN2817
                            have kN2819 := kN2819 n (by omega)
                            try simp (maxSteps := 2000000) only [wn] at kN2819
                            have kN2824 := kN2824 n (by omega)
                            try simp (maxSteps := 2000000) only [wn] at kN2824
                            have kN2826 := kN2826 n (by omega)
                            try simp (maxSteps := 2000000) only [wn] at kN2826
                            have kN2920 := kN2920 n (by omega)
                            simp (maxSteps := 2000000) only [h7l0_0, q7l0_0, wn] at kN2920
                            have kN2922 := kN2922 n (by omega)
                            try simp (maxSteps := 2000000) only [wn] at kN2922
                            have kN2944 := kN2944 n (by omega)
                            simp (maxSteps := 2000000) only [h7l1_0, q7l1_0, wn] at kN2944
                            have kN2949 := kN2949 n (by omega)
                            try simp (maxSteps := 2000000) only [wn] at kN2949
                            have kN2994 := kN2994 n (by omega)
                            try simp (maxSteps := 2000000) only [wn] at kN2994
                            have kN3000 := kN3000 n (by omega)
                            try simp (maxSteps := 2000000) only [wn] at kN3000
                            have kN3082 := kN3082 n (by omega)
                            try simp (maxSteps := 2000000) only [wn] at kN3082
                            simp (maxSteps := 2000000) only [W, reduceIte, Nat.reduceEqDiff, Nat.reduceAdd, Nat.reduceSub, Nat.reduceLT, Nat.reduceLeDiff, Nat.reduceMul, a7, a7l0, a7l1, kN2789, c2790d, kN2792, kN2813, kN2817, kN2819, kN2824, kN2826, kN2920, kN2922, c2924d, kN2944, c2946d, c2947d, kN2949, c2951d, c2952d, kN2994, c2997d, c2998d, kN3000, c3002d, kN3082, c3086d, c3087d, c3088d, @x_loopAt, wd]
                        · rw [if_neg c3087] at h
                          have c3087d := df c3087
                          cases h
                          refine ev_call (fn := a7) rfl ⟨N2789 + N2792 + N2813 + N2817 + N2819 + N2824 + N2826 + N2920 + N2922 + N2944 + N2949 + N2994 + N3000 + N3082, fun n hn => ?_⟩
                          have kN2789 := kN2789 n (by omega)
                          have kN2792 := kN2792 n (by omega)
                          try simp (maxSteps := 2000000) only [wn] at kN2792
                          have kN2813 := kN2813 n (by omega)
                          try simp (maxSteps := 2000000) only [wn] at kN2813
                          have kN2817 := kN2817 n (by omega)
                          try simp (maxSteps := 2000000) only [wn] at kN2817
                          have kN2819 := kN2819 n (by omega)
                          try simp (maxSteps := 2000000) only [wn] at kN2819
                          have kN2824 := kN2824 n (by omega)
                          try simp (maxSteps := 2000000) only [wn] at kN2824
                          have kN2826 := kN2826 n (by omega)
                          try simp (maxSteps := 2000000) only [wn] at kN2826
                          have kN2920 := kN2920 n (by omega)
                          simp (maxSteps := 2000000) only [h7l0_0, q7l0_0, wn] at kN2920
                          have kN2922 := kN2922 n (by omega)
                          try simp (maxSteps := 2000000) only [wn] at kN2922
                          have kN2944 := kN2944 n (by omega)
                          simp (maxSteps := 2000000) only [h7l1_0, q7l1_0, wn] at kN2944
                          have kN2949 := kN2949 n (by omega)
                          try simp (maxSteps := 2000000) only [wn] at kN2949
                          have kN2994 := kN2994 n (by omega)
                          try simp (maxSteps := 2000000) only [wn] at kN2994
                          have kN3000 := kN3000 n (by omega)
                          try simp (maxSteps := 2000000) only [wn] at kN3000
                          have kN3082 := kN3082 n (by omega)
                          try simp (maxSteps := 2000000) only [wn] at kN3082
                          simp (maxSteps := 2000000) only [W, reduceIte, Nat.reduceEqDiff, Nat.reduceAdd, Nat.reduceSub, Nat.reduceLT, Nat.reduceLeDiff, Nat.reduceMul, a7, a7l0, a7l1, kN2789, c2790d, kN2792, kN2813, kN2817, kN2819, kN2824, kN2826, kN2920, kN2922, c2924d, kN2944, c2946d, c2947d, kN2949, c2951d, c2952d, kN2994, c2997d, c2998d, kN3000, c3002d, kN3082, c3086d, c3087d, @x_loopAt, wd]
                      · rw [if_neg c3086] at h
                        have c3086d := bf c3086
                        by_cases c3090 : r2829 = 12
                        · rw [if_pos c3090] at h
                          have c3090d := dt c3090
                          cases h
                          refine ev_call (fn := a7) rfl ⟨N2789 + N2792 + N2813 + N2817 + N2819 + N2824 + N2826 + N2920 + N2922 + N2944 + N2949 + N2994 + N3000 + N3082, fun n hn => ?_⟩
                          have kN2789 := kN2789 n (by omega)
                          have kN2792 := kN2792 n (by omega)
                          try simp (maxSteps := 2000000) only [wn] at kN2792
                          have kN2813 := kN2813 n (by omega)
                          try simp (maxSteps := 2000000) only [wn] at kN2813
                          have kN2817 := kN2817 n (by omega)
                          try simp (maxSteps := 2000000) only [wn] at kN2817
                          have kN2819 := kN2819 n (by omega)
                          try simp (maxSteps := 2000000) only [wn] at kN2819
                          have kN2824 := kN2824 n (by omega)
                          try simp (maxSteps := 2000000) only [wn] at kN2824
                          have kN2826 := kN2826 n (by omega)
                          try simp (maxSteps := 2000000) only [wn] at kN2826
                          have kN2920 := kN2920 n (by omega)
                          simp (maxSteps := 2000000) only [h7l0_0, q7l0_0, wn] at kN2920
                          have kN2922 := kN2922 n (by omega)
                          try simp (maxSteps := 2000000) only [wn] at kN2922
                          have kN2944 := kN2944 n (by omega)
                          simp (maxSteps := 2000000) only [h7l1_0, q7l1_0, wn] at kN2944
                          have kN2949 := kN2949 n (by omega)
                          try simp (maxSteps := 2000000) only [wn] at kN2949
                          have kN2994 := kN2994 n (by omega)
                          try simp (maxSteps := 2000000) only [wn] at kN2994
                          have kN3000 := kN3000 n (by omega)
                          try simp (maxSteps := 2000000) only [wn] at kN3000
                          have kN3082 := kN3082 n (by omega)
                          try simp (maxSteps := 2000000) only [wn] at kN3082
                          simp (maxSteps := 2000000) only [W, reduceIte, Nat.reduceEqDiff, Nat.reduceAdd, Nat.reduceSub, Nat.reduceLT, Nat.reduceLeDiff, Nat.reduceMul, a7, a7l0, a7l1, kN2789, c2790d, kN2792, kN2813, kN2817, kN2819, kN2824, kN2826, kN2920, kN2922, c2924d, kN2944, c2946d, c2947d, kN2949, c2951d, c2952d, kN2994, c2997d, c2998d, kN3000, c3002d, kN3082, c3086d, c3090d, @x_loopAt, wd]
                        · rw [if_neg c3090] at h
                          have c3090d := df c3090
                          cases h
                          refine ev_call (fn := a7) rfl ⟨N2789 + N2792 + N2813 + N2817 + N2819 + N2824 + N2826 + N2920 + N2922 + N2944 + N2949 + N2994 + N3000 + N3082, fun n hn => ?_⟩
                          have kN2789 := kN2789 n (by omega)
                          have kN2792 := kN2792 n (by omega)
                          try simp (maxSteps := 2000000) only [wn] at kN2792
                          have kN2813 := kN2813 n (by omega)
                          try simp (maxSteps := 2000000) only [wn] at kN2813
                          have kN2817 := kN2817 n (by omega)
                          try simp (maxSteps := 2000000) only [wn] at kN2817
                          have kN2819 := kN2819 n (by omega)
                          try simp (maxSteps := 2000000) only [wn] at kN2819
                          have kN2824 := kN2824 n (by omega)
                          try simp (maxSteps := 2000000) only [wn] at kN2824
                          have kN2826 := kN2826 n (by omega)
                          try simp (maxSteps := 2000000) only [wn] at kN2826
                          have kN2920 := kN2920 n (by omega)
                          simp (maxSteps := 2000000) only [h7l0_0, q7l0_0, wn] at kN2920
                          have kN2922 := kN2922 n (by omega)
                          try simp (maxSteps := 2000000) only [wn] at kN2922
                          have kN2944 := kN2944 n (by omega)
                          simp (maxSteps := 2000000) only [h7l1_0, q7l1_0, wn] at kN2944
                          have kN2949 := kN2949 n (by omega)
                          try simp (maxSteps := 2000000) only [wn] at kN2949
                          have kN2994 := kN2994 n (by omega)
                          try simp (maxSteps := 2000000) only [wn] at kN2994
                          have kN3000 := kN3000 n (by omega)
                          try simp (maxSteps := 2000000) only [wn] at kN3000
                          have kN3082 := kN3082 n (by omega)
                          try simp (maxSteps := 2000000) only [wn] at kN3082
                          simp (maxSteps := 2000000) only [W, reduceIte, Nat.reduceEqDiff, Nat.reduceAdd, Nat.reduceSub, Nat.reduceLT, Nat.reduceLeDiff, Nat.reduceMul, a7, a7l0, a7l1, kN2789, c2790d, kN2792, kN2813, kN2817, kN2819, kN2824, kN2826, kN2920, kN2922, c2924d, kN2944, c2946d, c2947d, kN2949, c2951d, c2952d, kN2994, c2997d, c2998d, kN3000, c3002d, kN3082, c3086d, c3090d, @x_loopAt, wd]
                    · rw [if_neg c3002] at h
                      have c3002d := bf c3002
                      by_cases c3091 : r2829 = 2
                      · rw [if_pos c3091] at h
                        have c3091d := dt c3091
                        cases h
                        refine ev_call (fn := a7) rfl ⟨N2789 + N2792 + N2813 + N2817 + N2819 + N2824 + N2826 + N2920 + N2922 + N2944 + N2949 + N2994 + N3000, fun n hn => ?_⟩
                        have kN2789 := kN2789 n (by omega)
                        have kN2792 := kN2792 n (by omega)
                        try simp (maxSteps := 2000000) only [wn] at kN2792
                        have kN2813 := kN2813 n (by omega)
                        try simp (maxSteps := 2000000) only [wn] at kN2813
                        have kN2817 := kN2817 n (by omega)
                        try simp (maxSteps := 2000000) only [wn] at kN2817
                        have kN2819 := kN2819 n (by omega)
                        try simp (maxSteps := 2000000) only [wn] at kN2819
                        have kN2824 := kN2824 n (by omega)
                        try simp (maxSteps := 2000000) only [wn] at kN2824
                        have kN2826 := kN2826 n (by omega)
                        try simp (maxSteps := 2000000) only [wn] at kN2826
                        have kN2920 := kN2920 n (by omega)
                        simp (maxSteps := 2000000) only [h7l0_0, q7l0_0, wn] at kN2920
                        have kN2922 := kN2922 n (by omega)
                        try simp (maxSteps := 2000000) only [wn] at kN2922
                        have kN2944 := kN2944 n (by omega)
                        simp (maxSteps := 2000000) only [h7l1_0, q7l1_0, wn] at kN2944
                        have kN2949 := kN2949 n (by omega)
                        try simp (maxSteps := 2000000) only [wn] at kN2949
                        have kN2994 := kN2994 n (by omega)
                        try simp (maxSteps := 2000000) only [wn] at kN2994
                        have kN3000 := kN3000 n (by omega)
                        try simp (maxSteps := 2000000) only [wn] at kN3000
                        simp (maxSteps := 2000000) only [W, reduceIte, Nat.reduceEqDiff, Nat.reduceAdd, Nat.reduceSub, Nat.reduceLT, Nat.reduceLeDiff, Nat.reduceMul, a7, a7l0, a7l1, kN2789, c2790d, kN2792, kN2813, kN2817, kN2819, kN2824, kN2826, kN2920, kN2922, c2924d, kN2944, c2946d, c2947d, kN2949, c2951d, c2952d, kN2994, c2997d, c2998d, kN3000, c3002d, c3091d, @x_loopAt, wd]
                      · rw [if_neg c3091] at h
                        have c3091d := df c3091
                        cases h
                        refine ev_call (fn := a7) rfl ⟨N2789 + N2792 + N2813 + N2817 + N2819 + N2824 + N2826 + N2920 + N2922 + N2944 + N2949 + N2994 + N3000, fun n hn => ?_⟩
                        have kN2789 := kN2789 n (by omega)
                        have kN2792 := kN2792 n (by omega)
                        try simp (maxSteps := 2000000) only [wn] at kN2792
                        have kN2813 := kN2813 n (by omega)
                        try simp (maxSteps := 2000000) only [wn] at kN2813
                        have kN2817 := kN2817 n (by omega)
                        try simp (maxSteps := 2000000) only [wn] at kN2817
                        have kN2819 := kN2819 n (by omega)
                        try simp (maxSteps := 2000000) only [wn] at kN2819
                        have kN2824 := kN2824 n (by omega)
                        try simp (maxSteps := 2000000) only [wn] at kN2824
                        have kN2826 := kN2826 n (by omega)
                        try simp (maxSteps := 2000000) only [wn] at kN2826
                        have kN2920 := kN2920 n (by omega)
                        simp (maxSteps := 2000000) only [h7l0_0, q7l0_0, wn] at kN2920
                        have kN2922 := kN2922 n (by omega)
                        try simp (maxSteps := 2000000) only [wn] at kN2922
                        have kN2944 := kN2944 n (by omega)
                        simp (maxSteps := 2000000) only [h7l1_0, q7l1_0, wn] at kN2944
                        have kN2949 := kN2949 n (by omega)
                        try simp (maxSteps := 2000000) only [wn] at kN2949
                        have kN2994 := kN2994 n (by omega)
                        try simp (maxSteps := 2000000) only [wn] at kN2994
                        have kN3000 := kN3000 n (by omega)
                        try simp (maxSteps := 2000000) only [wn] at kN3000
                        simp (maxSteps := 2000000) only [W, reduceIte, Nat.reduceEqDiff, Nat.reduceAdd, Nat.reduceSub, Nat.reduceLT, Nat.reduceLeDiff, Nat.reduceMul, a7, a7l0, a7l1, kN2789, c2790d, kN2792, kN2813, kN2817, kN2819, kN2824, kN2826, kN2920, kN2922, c2924d, kN2944, c2946d, c2947d, kN2949, c2951d, c2952d, kN2994, c2997d, c2998d, kN3000, c3002d, c3091d, @x_loopAt, wd]
                  · rw [if_neg c2998] at h
                    have c2998d := df c2998
                    cases h
                    refine ev_call (fn := a7) rfl ⟨N2789 + N2792 + N2813 + N2817 + N2819 + N2824 + N2826 + N2920 + N2922 + N2944 + N2949 + N2994, fun n hn => ?_⟩
                    have kN2789 := kN2789 n (by omega)
                    have kN2792 := kN2792 n (by omega)
                    try simp (maxSteps := 2000000) only [wn] at kN2792
                    have kN2813 := kN2813 n (by omega)
                    try simp (maxSteps := 2000000) only [wn] at kN2813
                    have kN2817 := kN2817 n (by omega)
                    try simp (maxSteps := 2000000) only [wn] at kN2817
                    have kN2819 := kN2819 n (by omega)
                    try simp (maxSteps := 2000000) only [wn] at kN2819
                    have kN2824 := kN2824 n (by omega)
                    try simp (maxSteps := 2000000) only [wn] at kN2824
                    have kN2826 := kN2826 n (by omega)
                    try simp (maxSteps := 2000000) only [wn] at kN2826
                    have kN2920 := kN2920 n (by omega)
                    simp (maxSteps := 2000000) only [h7l0_0, q7l0_0, wn] at kN2920
                    have kN2922 := kN2922 n (by omega)
                    try simp (maxSteps := 2000000) only [wn] at kN2922
                    have kN2944 := kN2944 n (by omega)
                    simp (maxSteps := 2000000) only [h7l1_0, q7l1_0, wn] at kN2944
                    have kN2949 := kN2949 n (by omega)
                    try simp (maxSteps := 2000000) only [wn] at kN2949
                    have kN2994 := kN2994 n (by omega)
                    try simp (maxSteps := 2000000) only [wn] at kN2994
                    simp (maxSteps := 2000000) only [W, reduceIte, Nat.reduceEqDiff, Nat.reduceAdd, Nat.reduceSub, Nat.reduceLT, Nat.reduceLeDiff, Nat.reduceMul, a7, a7l0, a7l1, kN2789, c2790d, kN2792, kN2813, kN2817, kN2819, kN2824, kN2826, kN2920, kN2922, c2924d, kN2944, c2946d, c2947d, kN2949, c2951d, c2952d, kN2994, c2997d, c2998d, @x_loopAt, wd]
                · rw [if_neg c2997] at h
                  have c2997d := df c2997
                  cases h
                  refine ev_call (fn := a7) rfl ⟨N2789 + N2792 + N2813 + N2817 + N2819 + N2824 + N2826 + N2920 + N2922 + N2944 + N2949 + N2994, fun n hn => ?_⟩
                  have kN2789 := kN2789 n (by omega)
                  have kN2792 := kN2792 n (by omega)
                  try simp (maxSteps := 2000000) only [wn] at kN2792
                  have kN2813 := kN2813 n (by omega)
                  try simp (maxSteps := 2000000) only [wn] at kN2813
                  have kN2817 := kN2817 n (by omega)
                  try simp (maxSteps := 2000000) only [wn] at kN2817
                  have kN2819 := kN2819 n (by omega)
                  try simp (maxSteps := 2000000) only [wn] at kN2819
                  have kN2824 := kN2824 n (by omega)
                  try simp (maxSteps := 2000000) only [wn] at kN2824
                  have kN2826 := kN2826 n (by omega)
                  try simp (maxSteps := 2000000) only [wn] at kN2826
                  have kN2920 := kN2920 n (by omega)
                  simp (maxSteps := 2000000) only [h7l0_0, q7l0_0, wn] at kN2920
                  have kN2922 := kN2922 n (by omega)
                  try simp (maxSteps := 2000000) only [wn] at kN2922
                  have kN2944 := kN2944 n (by omega)
                  simp (maxSteps := 2000000) only [h7l1_0, q7l1_0, wn] at kN2944
                  have kN2949 := kN2949 n (by omega)
                  try simp (maxSteps := 2000000) only [wn] at kN2949
                  have kN2994 := kN2994 n (by omega)
                  try simp (maxSteps := 2000000) only [wn] at kN2994
                  simp (maxSteps := 2000000) only [W, reduceIte, Nat.reduceEqDiff, Nat.reduceAdd, Nat.reduceSub, Nat.reduceLT, Nat.reduceLeDiff, Nat.reduceMul, a7, a7l0, a7l1, kN2789, c2790d, kN2792, kN2813, kN2817, kN2819, kN2824, kN2826, kN2920, kN2922, c2924d, kN2944, c2946d, c2947d, kN2949, c2951d, c2952d, kN2994, c2997d, @x_loopAt, wd]
              · rw [if_neg c2952] at h
                have c2952d := df c2952
                cases h
                refine ev_call (fn := a7) rfl ⟨N2789 + N2792 + N2813 + N2817 + N2819 + N2824 + N2826 + N2920 + N2922 + N2944 + N2949, fun n hn => ?_⟩
                have kN2789 := kN2789 n (by omega)
                have kN2792 := kN2792 n (by omega)
                try simp (maxSteps := 2000000) only [wn] at kN2792
                have kN2813 := kN2813 n (by omega)
                try simp (maxSteps := 2000000) only [wn] at kN2813
                have kN2817 := kN2817 n (by omega)
                try simp (maxSteps := 2000000) only [wn] at kN2817
                have kN2819 := kN2819 n (by omega)
                try simp (maxSteps := 2000000) only [wn] at kN2819
                have kN2824 := kN2824 n (by omega)
                try simp (maxSteps := 2000000) only [wn] at kN2824
                have kN2826 := kN2826 n (by omega)
                try simp (maxSteps := 2000000) only [wn] at kN2826
                have kN2920 := kN2920 n (by omega)
                simp (maxSteps := 2000000) only [h7l0_0, q7l0_0, wn] at kN2920
                have kN2922 := kN2922 n (by omega)
                try simp (maxSteps := 2000000) only [wn] at kN2922
                have kN2944 := kN2944 n (by omega)
                simp (maxSteps := 2000000) only [h7l1_0, q7l1_0, wn] at kN2944
                have kN2949 := kN2949 n (by omega)
                try simp (maxSteps := 2000000) only [wn] at kN2949
                simp (maxSteps := 2000000) only [W, reduceIte, Nat.reduceEqDiff, Nat.reduceAdd, Nat.reduceSub, Nat.reduceLT, Nat.reduceLeDiff, Nat.reduceMul, a7, a7l0, a7l1, kN2789, c2790d, kN2792, kN2813, kN2817, kN2819, kN2824, kN2826, kN2920, kN2922, c2924d, kN2944, c2946d, c2947d, kN2949, c2951d, c2952d, @x_loopAt, wd]
            · rw [if_neg c2951] at h
              have c2951d := df c2951
              by_cases c3092 : r2822 = r2950
              · rw [if_pos c3092] at h
                have c3092d := dt c3092
                by_cases c3093 : r2820 = 0
                · rw [if_pos c3093] at h
                  have c3093d := dt c3093
                  by_cases c3094 : r2821 = 0
                  · rw [if_pos c3094] at h
                    have c3094d := dt c3094
                    obtain ⟨r3097, g3095, h⟩ := un1 h
                    obtain ⟨N3096, kN3096⟩ := c20_0 v2787 0 10000 _ g3095
                    by_cases c3098 : r3097 = true
                    · rw [if_pos c3098] at h
                      have c3098d := c3098
                      obtain ⟨r3101, r3102, r3103, g3099, h⟩ := un3 h
                      obtain ⟨N3100, kN3100⟩ := c47_0 z0 v2787 v2788 _ _ _ g3099
                      by_cases c3104 : r3103 = true
                      · rw [if_pos c3104] at h
                        have c3104d := c3104
                        by_cases c3105 : r2829 = 0
                        · rw [if_pos c3105] at h
                          have c3105d := dt c3105
                          by_cases c3106 : r2827 = r3101
                          · rw [if_pos c3106] at h
                            have c3106d := dt c3106
                            by_cases c3107 : r2828 = r3102
                            · rw [if_pos c3107] at h
                              have c3107d := dt c3107
                              cases h
                              refine ev_call (fn := a7) rfl ⟨N2789 + N2792 + N2813 + N2817 + N2819 + N2824 + N2826 + N2920 + N2922 + N2944 + N2949 + N3096 + N3100, fun n hn => ?_⟩
                              have kN2789 := kN2789 n (by omega)
                              have kN2792 := kN2792 n (by omega)
                              try simp (maxSteps := 2000000) only [wn] at kN2792
                              have kN2813 := kN2813 n (by omega)
                              try simp (maxSteps := 2000000) only [wn] at kN2813
                              have kN2817 := kN2817 n (by omega)
                              try simp (maxSteps := 2000000) only [wn] at kN2817
                              have kN2819 := kN2819 n (by omega)
                              try simp (maxSteps := 2000000) only [wn] at kN2819
                              have kN2824 := kN2824 n (by omega)
                              try simp (maxSteps := 2000000) only [wn] at kN2824
                              have kN2826 := kN2826 n (by omega)
                              try simp (maxSteps := 2000000) only [wn] at kN2826
                              have kN2920 := kN2920 n (by omega)
                              simp (maxSteps := 2000000) only [h7l0_0, q7l0_0, wn] at kN2920
                              have kN2922 := kN2922 n (by omega)
                              try simp (maxSteps := 2000000) only [wn] at kN2922
                              have kN2944 := kN2944 n (by omega)
                              simp (maxSteps := 2000000) only [h7l1_0, q7l1_0, wn] at kN2944
                              have kN2949 := kN2949 n (by omega)
                              try simp (maxSteps := 2000000) only [wn] at kN2949
                              have kN3096 := kN3096 n (by omega)
                              try simp (maxSteps := 2000000) only [wn] at kN3096
                              have kN3100 := kN3100 n (by omega)
                              try simp (maxSteps := 2000000) only [wn] at kN3100
                              simp (maxSteps := 2000000) only [W, reduceIte, Nat.reduceEqDiff, Nat.reduceAdd, Nat.reduceSub, Nat.reduceLT, Nat.reduceLeDiff, Nat.reduceMul, a7, a7l0, a7l1, kN2789, c2790d, kN2792, kN2813, kN2817, kN2819, kN2824, kN2826, kN2920, kN2922, c2924d, kN2944, c2946d, c2947d, kN2949, c2951d, c3092d, c3093d, c3094d, kN3096, c3098d, kN3100, c3104d, c3105d, c3106d, c3107d, @x_loopAt, wd]
                            · rw [if_neg c3107] at h
                              have c3107d := df c3107
                              cases h
                              refine ev_call (fn := a7) rfl ⟨N2789 + N2792 + N2813 + N2817 + N2819 + N2824 + N2826 + N2920 + N2922 + N2944 + N2949 + N3096 + N3100, fun n hn => ?_⟩
                              have kN2789 := kN2789 n (by omega)
                              have kN2792 := kN2792 n (by omega)
                              try simp (maxSteps := 2000000) only [wn] at kN2792
                              have kN2813 := kN2813 n (by omega)
                              try simp (maxSteps := 2000000) only [wn] at kN2813
                              have kN2817 := kN2817 n (by omega)
                              try simp (maxSteps := 2000000) only [wn] at kN2817
                              have kN2819 := kN2819 n (by omega)
                              try simp (maxSteps := 2000000) only [wn] at kN2819
                              have kN2824 := kN2824 n (by omega)
                              try simp (maxSteps := 2000000) only [wn] at kN2824
                              have kN2826 := kN2826 n (by omega)
                              try simp (maxSteps := 2000000) only [wn] at kN2826
                              have kN2920 := kN2920 n (by omega)
                              simp (maxSteps := 2000000) only [h7l0_0, q7l0_0, wn] at kN2920
                              have kN2922 := kN2922 n (by omega)
                              try simp (maxSteps := 2000000) only [wn] at kN2922
                              have kN2944 := kN2944 n (by omega)
                              simp (maxSteps := 2000000) only [h7l1_0, q7l1_0, wn] at kN2944
                              have kN2949 := kN2949 n (by omega)
                              try simp (maxSteps := 2000000) only [wn] at kN2949
                              have kN3096 := kN3096 n (by omega)
                              try simp (maxSteps := 2000000) only [wn] at kN3096
                              have kN3100 := kN3100 n (by omega)
                              try simp (maxSteps := 2000000) only [wn] at kN3100
                              simp (maxSteps := 2000000) only [W, reduceIte, Nat.reduceEqDiff, Nat.reduceAdd, Nat.reduceSub, Nat.reduceLT, Nat.reduceLeDiff, Nat.reduceMul, a7, a7l0, a7l1, kN2789, c2790d, kN2792, kN2813, kN2817, kN2819, kN2824, kN2826, kN2920, kN2922, c2924d, kN2944, c2946d, c2947d, kN2949, c2951d, c3092d, c3093d, c3094d, kN3096, c3098d, kN3100, c3104d, c3105d, c3106d, c3107d, @x_loopAt, wd]
                          · rw [if_neg c3106] at h
                            have c3106d := df c3106
                            cases h
                            refine ev_call (fn := a7) rfl ⟨N2789 + N2792 + N2813 + N2817 + N2819 + N2824 + N2826 + N2920 + N2922 + N2944 + N2949 + N3096 + N3100, fun n hn => ?_⟩
                            have kN2789 := kN2789 n (by omega)
                            have kN2792 := kN2792 n (by omega)
                            try simp (maxSteps := 2000000) only [wn] at kN2792
                            have kN2813 := kN2813 n (by omega)
                            try simp (maxSteps := 2000000) only [wn] at kN2813
                            have kN2817 := kN2817 n (by omega)
                            try simp (maxSteps := 2000000) only [wn] at kN2817
                            have kN2819 := kN2819 n (by omega)
                            try simp (maxSteps := 2000000) only [wn] at kN2819
                            have kN2824 := kN2824 n (by omega)
                            try simp (maxSteps := 2000000) only [wn] at kN2824
                            have kN2826 := kN2826 n (by omega)
                            try simp (maxSteps := 2000000) only [wn] at kN2826
                            have kN2920 := kN2920 n (by omega)
                            simp (maxSteps := 2000000) only [h7l0_0, q7l0_0, wn] at kN2920
                            have kN2922 := kN2922 n (by omega)
                            try simp (maxSteps := 2000000) only [wn] at kN2922
                            have kN2944 := kN2944 n (by omega)
                            simp (maxSteps := 2000000) only [h7l1_0, q7l1_0, wn] at kN2944
                            have kN2949 := kN2949 n (by omega)
                            try simp (maxSteps := 2000000) only [wn] at kN2949
                            have kN3096 := kN3096 n (by omega)
                            try simp (maxSteps := 2000000) only [wn] at kN3096
                            have kN3100 := kN3100 n (by omega)
                            try simp (maxSteps := 2000000) only [wn] at kN3100
                            simp (maxSteps := 2000000) only [W, reduceIte, Nat.reduceEqDiff, Nat.reduceAdd, Nat.reduceSub, Nat.reduceLT, Nat.reduceLeDiff, Nat.reduceMul, a7, a7l0, a7l1, kN2789, c2790d, kN2792, kN2813, kN2817, kN2819, kN2824, kN2826, kN2920, kN2922, c2924d, kN2944, c2946d, c2947d, kN2949, c2951d, c3092d, c3093d, c3094d, kN3096, c3098d, kN3100, c3104d, c3105d, c3106d, @x_loopAt, wd]
                        · rw [if_neg c3105] at h
                          have c3105d := df c3105
                          cases h
                          refine ev_call (fn := a7) rfl ⟨N2789 + N2792 + N2813 + N2817 + N2819 + N2824 + N2826 + N2920 + N2922 + N2944 + N2949 + N3096 + N3100, fun n hn => ?_⟩
                          have kN2789 := kN2789 n (by omega)
                          have kN2792 := kN2792 n (by omega)
                          try simp (maxSteps := 2000000) only [wn] at kN2792
                          have kN2813 := kN2813 n (by omega)
                          try simp (maxSteps := 2000000) only [wn] at kN2813
                          have kN2817 := kN2817 n (by omega)
                          try simp (maxSteps := 2000000) only [wn] at kN2817
                          have kN2819 := kN2819 n (by omega)
                          try simp (maxSteps := 2000000) only [wn] at kN2819
                          have kN2824 := kN2824 n (by omega)
                          try simp (maxSteps := 2000000) only [wn] at kN2824
                          have kN2826 := kN2826 n (by omega)
                          try simp (maxSteps := 2000000) only [wn] at kN2826
                          have kN2920 := kN2920 n (by omega)
                          simp (maxSteps := 2000000) only [h7l0_0, q7l0_0, wn] at kN2920
                          have kN2922 := kN2922 n (by omega)
                          try simp (maxSteps := 2000000) only [wn] at kN2922
                          have kN2944 := kN2944 n (by omega)
                          simp (maxSteps := 2000000) only [h7l1_0, q7l1_0, wn] at kN2944
                          have kN2949 := kN2949 n (by omega)
                          try simp (maxSteps := 2000000) only [wn] at kN2949
                          have kN3096 := kN3096 n (by omega)
                          try simp (maxSteps := 2000000) only [wn] at kN3096
                          have kN3100 := kN3100 n (by omega)
                          try simp (maxSteps := 2000000) only [wn] at kN3100
                          simp (maxSteps := 2000000) only [W, reduceIte, Nat.reduceEqDiff, Nat.reduceAdd, Nat.reduceSub, Nat.reduceLT, Nat.reduceLeDiff, Nat.reduceMul, a7, a7l0, a7l1, kN2789, c2790d, kN2792, kN2813, kN2817, kN2819, kN2824, kN2826, kN2920, kN2922, c2924d, kN2944, c2946d, c2947d, kN2949, c2951d, c3092d, c3093d, c3094d, kN3096, c3098d, kN3100, c3104d, c3105d, @x_loopAt, wd]
                      · rw [if_neg c3104] at h
                        have c3104d := bf c3104
                        by_cases c3108 : r2829 = 12
                        · rw [if_pos c3108] at h
                          have c3108d := dt c3108
                          cases h
                          refine ev_call (fn := a7) rfl ⟨N2789 + N2792 + N2813 + N2817 + N2819 + N2824 + N2826 + N2920 + N2922 + N2944 + N2949 + N3096 + N3100, fun n hn => ?_⟩
                          have kN2789 := kN2789 n (by omega)
                          have kN2792 := kN2792 n (by omega)
                          try simp (maxSteps := 2000000) only [wn] at kN2792
                          have kN2813 := kN2813 n (by omega)
                          try simp (maxSteps := 2000000) only [wn] at kN2813
                          have kN2817 := kN2817 n (by omega)
                          try simp (maxSteps := 2000000) only [wn] at kN2817
                          have kN2819 := kN2819 n (by omega)
                          try simp (maxSteps := 2000000) only [wn] at kN2819
                          have kN2824 := kN2824 n (by omega)
                          try simp (maxSteps := 2000000) only [wn] at kN2824
                          have kN2826 := kN2826 n (by omega)
                          try simp (maxSteps := 2000000) only [wn] at kN2826
                          have kN2920 := kN2920 n (by omega)
                          simp (maxSteps := 2000000) only [h7l0_0, q7l0_0, wn] at kN2920
                          have kN2922 := kN2922 n (by omega)
                          try simp (maxSteps := 2000000) only [wn] at kN2922
                          have kN2944 := kN2944 n (by omega)
                          simp (maxSteps := 2000000) only [h7l1_0, q7l1_0, wn] at kN2944
                          have kN2949 := kN2949 n (by omega)
                          try simp (maxSteps := 2000000) only [wn] at kN2949
                          have kN3096 := kN3096 n (by omega)
                          try simp (maxSteps := 2000000) only [wn] at kN3096
                          have kN3100 := kN3100 n (by omega)
                          try simp (maxSteps := 2000000) only [wn] at kN3100
                          simp (maxSteps := 2000000) only [W, reduceIte, Nat.reduceEqDiff, Nat.reduceAdd, Nat.reduceSub, Nat.reduceLT, Nat.reduceLeDiff, Nat.reduceMul, a7, a7l0, a7l1, kN2789, c2790d, kN2792, kN2813, kN2817, kN2819, kN2824, kN2826, kN2920, kN2922, c2924d, kN2944, c2946d, c2947d, kN2949, c2951d, c3092d, c3093d, c3094d, kN3096, c3098d, kN3100, c3104d, c3108d, @x_loopAt, wd]
                        · rw [if_neg c3108] at h
                          have c3108d := df c3108
                          cases h
                          refine ev_call (fn := a7) rfl ⟨N2789 + N2792 + N2813 + N2817 + N2819 + N2824 + N2826 + N2920 + N2922 + N2944 + N2949 + N3096 + N3100, fun n hn => ?_⟩
                          have kN2789 := kN2789 n (by omega)
                          have kN2792 := kN2792 n (by omega)
                          try simp (maxSteps := 2000000) only [wn] at kN2792
                          have kN2813 := kN2813 n (by omega)
                          try simp (maxSteps := 2000000) only [wn] at kN2813
                          have kN2817 := kN2817 n (by omega)
                          try simp (maxSteps := 2000000) only [wn] at kN2817
                          have kN2819 := kN2819 n (by omega)
                          try simp (maxSteps := 2000000) only [wn] at kN2819
                          have kN2824 := kN2824 n (by omega)
                          try simp (maxSteps := 2000000) only [wn] at kN2824
                          have kN2826 := kN2826 n (by omega)
                          try simp (maxSteps := 2000000) only [wn] at kN2826
                          have kN2920 := kN2920 n (by omega)
                          simp (maxSteps := 2000000) only [h7l0_0, q7l0_0, wn] at kN2920
                          have kN2922 := kN2922 n (by omega)
                          try simp (maxSteps := 2000000) only [wn] at kN2922
                          have kN2944 := kN2944 n (by omega)
                          simp (maxSteps := 2000000) only [h7l1_0, q7l1_0, wn] at kN2944
                          have kN2949 := kN2949 n (by omega)
                          try simp (maxSteps := 2000000) only [wn] at kN2949
                          have kN3096 := kN3096 n (by omega)
                          try simp (maxSteps := 2000000) only [wn] at kN3096
                          have kN3100 := kN3100 n (by omega)
                          try simp (maxSteps := 2000000) only [wn] at kN3100
                          simp (maxSteps := 2000000) only [W, reduceIte, Nat.reduceEqDiff, Nat.reduceAdd, Nat.reduceSub, Nat.reduceLT, Nat.reduceLeDiff, Nat.reduceMul, a7, a7l0, a7l1, kN2789, c2790d, kN2792, kN2813, kN2817, kN2819, kN2824, kN2826, kN2920, kN2922, c2924d, kN2944, c2946d, c2947d, kN2949, c2951d, c3092d, c3093d, c3094d, kN3096, c3098d, kN3100, c3104d, c3108d, @x_loopAt, wd]
                    · rw [if_neg c3098] at h
                      have c3098d := bf c3098
                      by_cases c3109 : r2829 = 2
                      · rw [if_pos c3109] at h
                        have c3109d := dt c3109
                        cases h
                        refine ev_call (fn := a7) rfl ⟨N2789 + N2792 + N2813 + N2817 + N2819 + N2824 + N2826 + N2920 + N2922 + N2944 + N2949 + N3096, fun n hn => ?_⟩
                        have kN2789 := kN2789 n (by omega)
                        have kN2792 := kN2792 n (by omega)
                        try simp (maxSteps := 2000000) only [wn] at kN2792
                        have kN2813 := kN2813 n (by omega)
                        try simp (maxSteps := 2000000) only [wn] at kN2813
                        have kN2817 := kN2817 n (by omega)
                        try simp (maxSteps := 2000000) only [wn] at kN2817
                        have kN2819 := kN2819 n (by omega)
                        try simp (maxSteps := 2000000) only [wn] at kN2819
                        have kN2824 := kN2824 n (by omega)
                        try simp (maxSteps := 2000000) only [wn] at kN2824
                        have kN2826 := kN2826 n (by omega)
                        try simp (maxSteps := 2000000) only [wn] at kN2826
                        have kN2920 := kN2920 n (by omega)
                        simp (maxSteps := 2000000) only [h7l0_0, q7l0_0, wn] at kN2920
                        have kN2922 := kN2922 n (by omega)
                        try simp (maxSteps := 2000000) only [wn] at kN2922
                        have kN2944 := kN2944 n (by omega)
                        simp (maxSteps := 2000000) only [h7l1_0, q7l1_0, wn] at kN2944
                        have kN2949 := kN2949 n (by omega)
                        try simp (maxSteps := 2000000) only [wn] at kN2949
                        have kN3096 := kN3096 n (by omega)
                        try simp (maxSteps := 2000000) only [wn] at kN3096
                        simp (maxSteps := 2000000) only [W, reduceIte, Nat.reduceEqDiff, Nat.reduceAdd, Nat.reduceSub, Nat.reduceLT, Nat.reduceLeDiff, Nat.reduceMul, a7, a7l0, a7l1, kN2789, c2790d, kN2792, kN2813, kN2817, kN2819, kN2824, kN2826, kN2920, kN2922, c2924d, kN2944, c2946d, c2947d, kN2949, c2951d, c3092d, c3093d, c3094d, kN3096, c3098d, c3109d, @x_loopAt, wd]
                      · rw [if_neg c3109] at h
                        have c3109d := df c3109
                        cases h
                        refine ev_call (fn := a7) rfl ⟨N2789 + N2792 + N2813 + N2817 + N2819 + N2824 + N2826 + N2920 + N2922 + N2944 + N2949 + N3096, fun n hn => ?_⟩
                        have kN2789 := kN2789 n (by omega)
                        have kN2792 := kN2792 n (by omega)
                        try simp (maxSteps := 2000000) only [wn] at kN2792
                        have kN2813 := kN2813 n (by omega)
                        try simp (maxSteps := 2000000) only [wn] at kN2813
                        have kN2817 := kN2817 n (by omega)
                        try simp (maxSteps := 2000000) only [wn] at kN2817
                        have kN2819 := kN2819 n (by omega)
                        try simp (maxSteps := 2000000) only [wn] at kN2819
                        have kN2824 := kN2824 n (by omega)
                        try simp (maxSteps := 2000000) only [wn] at kN2824
                        have kN2826 := kN2826 n (by omega)
                        try simp (maxSteps := 2000000) only [wn] at kN2826
                        have kN2920 := kN2920 n (by omega)
                        simp (maxSteps := 2000000) only [h7l0_0, q7l0_0, wn] at kN2920
                        have kN2922 := kN2922 n (by omega)
                        try simp (maxSteps := 2000000) only [wn] at kN2922
                        have kN2944 := kN2944 n (by omega)
                        simp (maxSteps := 2000000) only [h7l1_0, q7l1_0, wn] at kN2944
                        have kN2949 := kN2949 n (by omega)
                        try simp (maxSteps := 2000000) only [wn] at kN2949
                        have kN3096 := kN3096 n (by omega)
                        try simp (maxSteps := 2000000) only [wn] at kN3096
                        simp (maxSteps := 2000000) only [W, reduceIte, Nat.reduceEqDiff, Nat.reduceAdd, Nat.reduceSub, Nat.reduceLT, Nat.reduceLeDiff, Nat.reduceMul, a7, a7l0, a7l1, kN2789, c2790d, kN2792, kN2813, kN2817, kN2819, kN2824, kN2826, kN2920, kN2922, c2924d, kN2944, c2946d, c2947d, kN2949, c2951d, c3092d, c3093d, c3094d, kN3096, c3098d, c3109d, @x_loopAt, wd]
                  · rw [if_neg c3094] at h
                    have c3094d := df c3094
                    cases h
                    refine ev_call (fn := a7) rfl ⟨N2789 + N2792 + N2813 + N2817 + N2819 + N2824 + N2826 + N2920 + N2922 + N2944 + N2949, fun n hn => ?_⟩
                    have kN2789 := kN2789 n (by omega)
                    have kN2792 := kN2792 n (by omega)
                    try simp (maxSteps := 2000000) only [wn] at kN2792
                    have kN2813 := kN2813 n (by omega)
                    try simp (maxSteps := 2000000) only [wn] at kN2813
                    have kN2817 := kN2817 n (by omega)
                    try simp (maxSteps := 2000000) only [wn] at kN2817
                    have kN2819 := kN2819 n (by omega)
                    try simp (maxSteps := 2000000) only [wn] at kN2819
                    have kN2824 := kN2824 n (by omega)
                    try simp (maxSteps := 2000000) only [wn] at kN2824
                    have kN2826 := kN2826 n (by omega)
                    try simp (maxSteps := 2000000) only [wn] at kN2826
                    have kN2920 := kN2920 n (by omega)
                    simp (maxSteps := 2000000) only [h7l0_0, q7l0_0, wn] at kN2920
                    have kN2922 := kN2922 n (by omega)
                    try simp (maxSteps := 2000000) only [wn] at kN2922
                    have kN2944 := kN2944 n (by omega)
                    simp (maxSteps := 2000000) only [h7l1_0, q7l1_0, wn] at kN2944
                    have kN2949 := kN2949 n (by omega)
                    try simp (maxSteps := 2000000) only [wn] at kN2949
                    simp (maxSteps := 2000000) only [W, reduceIte, Nat.reduceEqDiff, Nat.reduceAdd, Nat.reduceSub, Nat.reduceLT, Nat.reduceLeDiff, Nat.reduceMul, a7, a7l0, a7l1, kN2789, c2790d, kN2792, kN2813, kN2817, kN2819, kN2824, kN2826, kN2920, kN2922, c2924d, kN2944, c2946d, c2947d, kN2949, c2951d, c3092d, c3093d, c3094d, @x_loopAt, wd]
                · rw [if_neg c3093] at h
                  have c3093d := df c3093
                  cases h
                  refine ev_call (fn := a7) rfl ⟨N2789 + N2792 + N2813 + N2817 + N2819 + N2824 + N2826 + N2920 + N2922 + N2944 + N2949, fun n hn => ?_⟩
                  have kN2789 := kN2789 n (by omega)
                  have kN2792 := kN2792 n (by omega)
                  try simp (maxSteps := 2000000) only [wn] at kN2792
                  have kN2813 := kN2813 n (by omega)
                  try simp (maxSteps := 2000000) only [wn] at kN2813
                  have kN2817 := kN2817 n (by omega)
                  try simp (maxSteps := 2000000) only [wn] at kN2817
                  have kN2819 := kN2819 n (by omega)
                  try simp (maxSteps := 2000000) only [wn] at kN2819
                  have kN2824 := kN2824 n (by omega)
                  try simp (maxSteps := 2000000) only [wn] at kN2824
                  have kN2826 := kN2826 n (by omega)
                  try simp (maxSteps := 2000000) only [wn] at kN2826
                  have kN2920 := kN2920 n (by omega)
                  simp (maxSteps := 2000000) only [h7l0_0, q7l0_0, wn] at kN2920
                  have kN2922 := kN2922 n (by omega)
                  try simp (maxSteps := 2000000) only [wn] at kN2922
                  have kN2944 := kN2944 n (by omega)
                  simp (maxSteps := 2000000) only [h7l1_0, q7l1_0, wn] at kN2944
                  have kN2949 := kN2949 n (by omega)
                  try simp (maxSteps := 2000000) only [wn] at kN2949
                  simp (maxSteps := 2000000) only [W, reduceIte, Nat.reduceEqDiff, Nat.reduceAdd, Nat.reduceSub, Nat.reduceLT, Nat.reduceLeDiff, Nat.reduceMul, a7, a7l0, a7l1, kN2789, c2790d, kN2792, kN2813, kN2817, kN2819, kN2824, kN2826, kN2920, kN2922, c2924d, kN2944, c2946d, c2947d, kN2949, c2951d, c3092d, c3093d, @x_loopAt, wd]
              · rw [if_neg c3092] at h
                have c3092d := df c3092
                cases h
                refine ev_call (fn := a7) rfl ⟨N2789 + N2792 + N2813 + N2817 + N2819 + N2824 + N2826 + N2920 + N2922 + N2944 + N2949, fun n hn => ?_⟩
                have kN2789 := kN2789 n (by omega)
                have kN2792 := kN2792 n (by omega)
                try simp (maxSteps := 2000000) only [wn] at kN2792
                have kN2813 := kN2813 n (by omega)
                try simp (maxSteps := 2000000) only [wn] at kN2813
                have kN2817 := kN2817 n (by omega)
                try simp (maxSteps := 2000000) only [wn] at kN2817
                have kN2819 := kN2819 n (by omega)
                try simp (maxSteps := 2000000) only [wn] at kN2819
                have kN2824 := kN2824 n (by omega)
                try simp (maxSteps := 2000000) only [wn] at kN2824
                have kN2826 := kN2826 n (by omega)
                try simp (maxSteps := 2000000) only [wn] at kN2826
                have kN2920 := kN2920 n (by omega)
                simp (maxSteps := 2000000) only [h7l0_0, q7l0_0, wn] at kN2920
                have kN2922 := kN2922 n (by omega)
                try simp (maxSteps := 2000000) only [wn] at kN2922
                have kN2944 := kN2944 n (by omega)
                simp (maxSteps := 2000000) only [h7l1_0, q7l1_0, wn] at kN2944
                have kN2949 := kN2949 n (by omega)
                try simp (maxSteps := 2000000) only [wn] at kN2949
                simp (maxSteps := 2000000) only [W, reduceIte, Nat.reduceEqDiff, Nat.reduceAdd, Nat.reduceSub, Nat.reduceLT, Nat.reduceLeDiff, Nat.reduceMul, a7, a7l0, a7l1, kN2789, c2790d, kN2792, kN2813, kN2817, kN2819, kN2824, kN2826, kN2920, kN2922, c2924d, kN2944, c2946d, c2947d, kN2949, c2951d, c3092d, @x_loopAt, wd]
          · rw [if_neg c2947] at h
            have c2947d := df c2947
            cases h
            refine ev_call (fn := a7) rfl ⟨N2789 + N2792 + N2813 + N2817 + N2819 + N2824 + N2826 + N2920 + N2922 + N2944, fun n hn => ?_⟩
            have kN2789 := kN2789 n (by omega)
            have kN2792 := kN2792 n (by omega)
            try simp (maxSteps := 2000000) only [wn] at kN2792
            have kN2813 := kN2813 n (by omega)
            try simp (maxSteps := 2000000) only [wn] at kN2813
            have kN2817 := kN2817 n (by omega)
            try simp (maxSteps := 2000000) only [wn] at kN2817
            have kN2819 := kN2819 n (by omega)
            try simp (maxSteps := 2000000) only [wn] at kN2819
            have kN2824 := kN2824 n (by omega)
            try simp (maxSteps := 2000000) only [wn] at kN2824
            have kN2826 := kN2826 n (by omega)
            try simp (maxSteps := 2000000) only [wn] at kN2826
            have kN2920 := kN2920 n (by omega)
            simp (maxSteps := 2000000) only [h7l0_0, q7l0_0, wn] at kN2920
            have kN2922 := kN2922 n (by omega)
            try simp (maxSteps := 2000000) only [wn] at kN2922
            have kN2944 := kN2944 n (by omega)
            simp (maxSteps := 2000000) only [h7l1_0, q7l1_0, wn] at kN2944
            simp (maxSteps := 2000000) only [W, reduceIte, Nat.reduceEqDiff, Nat.reduceAdd, Nat.reduceSub, Nat.reduceLT, Nat.reduceLeDiff, Nat.reduceMul, a7, a7l0, a7l1, kN2789, c2790d, kN2792, kN2813, kN2817, kN2819, kN2824, kN2826, kN2920, kN2922, c2924d, kN2944, c2946d, c2947d, @x_loopAt, wd]
        · rw [if_neg c2946] at h
          have c2946d := df c2946
          cases h
          refine ev_call (fn := a7) rfl ⟨N2789 + N2792 + N2813 + N2817 + N2819 + N2824 + N2826 + N2920 + N2922 + N2944, fun n hn => ?_⟩
          have kN2789 := kN2789 n (by omega)
          have kN2792 := kN2792 n (by omega)
          try simp (maxSteps := 2000000) only [wn] at kN2792
          have kN2813 := kN2813 n (by omega)
          try simp (maxSteps := 2000000) only [wn] at kN2813
          have kN2817 := kN2817 n (by omega)
          try simp (maxSteps := 2000000) only [wn] at kN2817
          have kN2819 := kN2819 n (by omega)
          try simp (maxSteps := 2000000) only [wn] at kN2819
          have kN2824 := kN2824 n (by omega)
          try simp (maxSteps := 2000000) only [wn] at kN2824
          have kN2826 := kN2826 n (by omega)
          try simp (maxSteps := 2000000) only [wn] at kN2826
          have kN2920 := kN2920 n (by omega)
          simp (maxSteps := 2000000) only [h7l0_0, q7l0_0, wn] at kN2920
          have kN2922 := kN2922 n (by omega)
          try simp (maxSteps := 2000000) only [wn] at kN2922
          have kN2944 := kN2944 n (by omega)
          simp (maxSteps := 2000000) only [h7l1_0, q7l1_0, wn] at kN2944
          simp (maxSteps := 2000000) only [W, reduceIte, Nat.reduceEqDiff, Nat.reduceAdd, Nat.reduceSub, Nat.reduceLT, Nat.reduceLeDiff, Nat.reduceMul, a7, a7l0, a7l1, kN2789, c2790d, kN2792, kN2813, kN2817, kN2819, kN2824, kN2826, kN2920, kN2922, c2924d, kN2944, c2946d, @x_loopAt, wd]
      · rw [if_neg c2924] at h
        have c2924d := df c2924
        by_cases c3110 : r2815 = r2923
        · rw [if_pos c3110] at h
          have c3110d := dt c3110
          by_cases c3111 : r2822 = r2923
          · rw [if_pos c3111] at h
            have c3111d := dt c3111
            by_cases c3112 : r2829 = r2923
            · rw [if_pos c3112] at h
              have c3112d := dt c3112
              by_cases c3113 : r2814 = 0
              · rw [if_pos c3113] at h
                have c3113d := dt c3113
                by_cases c3114 : r2820 = 0
                · rw [if_pos c3114] at h
                  have c3114d := dt c3114
                  by_cases c3115 : r2821 = 0
                  · rw [if_pos c3115] at h
                    have c3115d := dt c3115
                    cases h
                    refine ev_call (fn := a7) rfl ⟨N2789 + N2792 + N2813 + N2817 + N2819 + N2824 + N2826 + N2920 + N2922, fun n hn => ?_⟩
                    have kN2789 := kN2789 n (by omega)
                    have kN2792 := kN2792 n (by omega)
                    try simp (maxSteps := 2000000) only [wn] at kN2792
                    have kN2813 := kN2813 n (by omega)
                    try simp (maxSteps := 2000000) only [wn] at kN2813
                    have kN2817 := kN2817 n (by omega)
                    try simp (maxSteps := 2000000) only [wn] at kN2817
                    have kN2819 := kN2819 n (by omega)
                    try simp (maxSteps := 2000000) only [wn] at kN2819
                    have kN2824 := kN2824 n (by omega)
                    try simp (maxSteps := 2000000) only [wn] at kN2824
                    have kN2826 := kN2826 n (by omega)
                    try simp (maxSteps := 2000000) only [wn] at kN2826
                    have kN2920 := kN2920 n (by omega)
                    simp (maxSteps := 2000000) only [h7l0_0, q7l0_0, wn] at kN2920
                    have kN2922 := kN2922 n (by omega)
                    try simp (maxSteps := 2000000) only [wn] at kN2922
                    simp (maxSteps := 2000000) only [W, reduceIte, Nat.reduceEqDiff, Nat.reduceAdd, Nat.reduceSub, Nat.reduceLT, Nat.reduceLeDiff, Nat.reduceMul, a7, a7l0, a7l1, kN2789, c2790d, kN2792, kN2813, kN2817, kN2819, kN2824, kN2826, kN2920, kN2922, c2924d, c3110d, c3111d, c3112d, c3113d, c3114d, c3115d, @x_loopAt, wd]
                  · rw [if_neg c3115] at h
                    have c3115d := df c3115
                    cases h
                    refine ev_call (fn := a7) rfl ⟨N2789 + N2792 + N2813 + N2817 + N2819 + N2824 + N2826 + N2920 + N2922, fun n hn => ?_⟩
                    have kN2789 := kN2789 n (by omega)
                    have kN2792 := kN2792 n (by omega)
                    try simp (maxSteps := 2000000) only [wn] at kN2792
                    have kN2813 := kN2813 n (by omega)
                    try simp (maxSteps := 2000000) only [wn] at kN2813
                    have kN2817 := kN2817 n (by omega)
                    try simp (maxSteps := 2000000) only [wn] at kN2817
                    have kN2819 := kN2819 n (by omega)
                    try simp (maxSteps := 2000000) only [wn] at kN2819
                    have kN2824 := kN2824 n (by omega)
                    try simp (maxSteps := 2000000) only [wn] at kN2824
                    have kN2826 := kN2826 n (by omega)
                    try simp (maxSteps := 2000000) only [wn] at kN2826
                    have kN2920 := kN2920 n (by omega)
                    simp (maxSteps := 2000000) only [h7l0_0, q7l0_0, wn] at kN2920
                    have kN2922 := kN2922 n (by omega)
                    try simp (maxSteps := 2000000) only [wn] at kN2922
                    simp (maxSteps := 2000000) only [W, reduceIte, Nat.reduceEqDiff, Nat.reduceAdd, Nat.reduceSub, Nat.reduceLT, Nat.reduceLeDiff, Nat.reduceMul, a7, a7l0, a7l1, kN2789, c2790d, kN2792, kN2813, kN2817, kN2819, kN2824, kN2826, kN2920, kN2922, c2924d, c3110d, c3111d, c3112d, c3113d, c3114d, c3115d, @x_loopAt, wd]
                · rw [if_neg c3114] at h
                  have c3114d := df c3114
                  cases h
                  refine ev_call (fn := a7) rfl ⟨N2789 + N2792 + N2813 + N2817 + N2819 + N2824 + N2826 + N2920 + N2922, fun n hn => ?_⟩
                  have kN2789 := kN2789 n (by omega)
                  have kN2792 := kN2792 n (by omega)
                  try simp (maxSteps := 2000000) only [wn] at kN2792
                  have kN2813 := kN2813 n (by omega)
                  try simp (maxSteps := 2000000) only [wn] at kN2813
                  have kN2817 := kN2817 n (by omega)
                  try simp (maxSteps := 2000000) only [wn] at kN2817
                  have kN2819 := kN2819 n (by omega)
                  try simp (maxSteps := 2000000) only [wn] at kN2819
                  have kN2824 := kN2824 n (by omega)
                  try simp (maxSteps := 2000000) only [wn] at kN2824
                  have kN2826 := kN2826 n (by omega)
                  try simp (maxSteps := 2000000) only [wn] at kN2826
                  have kN2920 := kN2920 n (by omega)
                  simp (maxSteps := 2000000) only [h7l0_0, q7l0_0, wn] at kN2920
                  have kN2922 := kN2922 n (by omega)
                  try simp (maxSteps := 2000000) only [wn] at kN2922
                  simp (maxSteps := 2000000) only [W, reduceIte, Nat.reduceEqDiff, Nat.reduceAdd, Nat.reduceSub, Nat.reduceLT, Nat.reduceLeDiff, Nat.reduceMul, a7, a7l0, a7l1, kN2789, c2790d, kN2792, kN2813, kN2817, kN2819, kN2824, kN2826, kN2920, kN2922, c2924d, c3110d, c3111d, c3112d, c3113d, c3114d, @x_loopAt, wd]
              · rw [if_neg c3113] at h
                have c3113d := df c3113
                cases h
                refine ev_call (fn := a7) rfl ⟨N2789 + N2792 + N2813 + N2817 + N2819 + N2824 + N2826 + N2920 + N2922, fun n hn => ?_⟩
                have kN2789 := kN2789 n (by omega)
                have kN2792 := kN2792 n (by omega)
                try simp (maxSteps := 2000000) only [wn] at kN2792
                have kN2813 := kN2813 n (by omega)
                try simp (maxSteps := 2000000) only [wn] at kN2813
                have kN2817 := kN2817 n (by omega)
                try simp (maxSteps := 2000000) only [wn] at kN2817
                have kN2819 := kN2819 n (by omega)
                try simp (maxSteps := 2000000) only [wn] at kN2819
                have kN2824 := kN2824 n (by omega)
                try simp (maxSteps := 2000000) only [wn] at kN2824
                have kN2826 := kN2826 n (by omega)
                try simp (maxSteps := 2000000) only [wn] at kN2826
                have kN2920 := kN2920 n (by omega)
                simp (maxSteps := 2000000) only [h7l0_0, q7l0_0, wn] at kN2920
                have kN2922 := kN2922 n (by omega)
                try simp (maxSteps := 2000000) only [wn] at kN2922
                simp (maxSteps := 2000000) only [W, reduceIte, Nat.reduceEqDiff, Nat.reduceAdd, Nat.reduceSub, Nat.reduceLT, Nat.reduceLeDiff, Nat.reduceMul, a7, a7l0, a7l1, kN2789, c2790d, kN2792, kN2813, kN2817, kN2819, kN2824, kN2826, kN2920, kN2922, c2924d, c3110d, c3111d, c3112d, c3113d, @x_loopAt, wd]
            · rw [if_neg c3112] at h
              have c3112d := df c3112
              cases h
              refine ev_call (fn := a7) rfl ⟨N2789 + N2792 + N2813 + N2817 + N2819 + N2824 + N2826 + N2920 + N2922, fun n hn => ?_⟩
              have kN2789 := kN2789 n (by omega)
              have kN2792 := kN2792 n (by omega)
              try simp (maxSteps := 2000000) only [wn] at kN2792
              have kN2813 := kN2813 n (by omega)
              try simp (maxSteps := 2000000) only [wn] at kN2813
              have kN2817 := kN2817 n (by omega)
              try simp (maxSteps := 2000000) only [wn] at kN2817
              have kN2819 := kN2819 n (by omega)
              try simp (maxSteps := 2000000) only [wn] at kN2819
              have kN2824 := kN2824 n (by omega)
              try simp (maxSteps := 2000000) only [wn] at kN2824
              have kN2826 := kN2826 n (by omega)
              try simp (maxSteps := 2000000) only [wn] at kN2826
              have kN2920 := kN2920 n (by omega)
              simp (maxSteps := 2000000) only [h7l0_0, q7l0_0, wn] at kN2920
              have kN2922 := kN2922 n (by omega)
              try simp (maxSteps := 2000000) only [wn] at kN2922
              simp (maxSteps := 2000000) only [W, reduceIte, Nat.reduceEqDiff, Nat.reduceAdd, Nat.reduceSub, Nat.reduceLT, Nat.reduceLeDiff, Nat.reduceMul, a7, a7l0, a7l1, kN2789, c2790d, kN2792, kN2813, kN2817, kN2819, kN2824, kN2826, kN2920, kN2922, c2924d, c3110d, c3111d, c3112d, @x_loopAt, wd]
          · rw [if_neg c3111] at h
            have c3111d := df c3111
            cases h
            refine ev_call (fn := a7) rfl ⟨N2789 + N2792 + N2813 + N2817 + N2819 + N2824 + N2826 + N2920 + N2922, fun n hn => ?_⟩
            have kN2789 := kN2789 n (by omega)
            have kN2792 := kN2792 n (by omega)
            try simp (maxSteps := 2000000) only [wn] at kN2792
            have kN2813 := kN2813 n (by omega)
            try simp (maxSteps := 2000000) only [wn] at kN2813
            have kN2817 := kN2817 n (by omega)
            try simp (maxSteps := 2000000) only [wn] at kN2817
            have kN2819 := kN2819 n (by omega)
            try simp (maxSteps := 2000000) only [wn] at kN2819
            have kN2824 := kN2824 n (by omega)
            try simp (maxSteps := 2000000) only [wn] at kN2824
            have kN2826 := kN2826 n (by omega)
            try simp (maxSteps := 2000000) only [wn] at kN2826
            have kN2920 := kN2920 n (by omega)
            simp (maxSteps := 2000000) only [h7l0_0, q7l0_0, wn] at kN2920
            have kN2922 := kN2922 n (by omega)
            try simp (maxSteps := 2000000) only [wn] at kN2922
            simp (maxSteps := 2000000) only [W, reduceIte, Nat.reduceEqDiff, Nat.reduceAdd, Nat.reduceSub, Nat.reduceLT, Nat.reduceLeDiff, Nat.reduceMul, a7, a7l0, a7l1, kN2789, c2790d, kN2792, kN2813, kN2817, kN2819, kN2824, kN2826, kN2920, kN2922, c2924d, c3110d, c3111d, @x_loopAt, wd]
        · rw [if_neg c3110] at h
          have c3110d := df c3110
          cases h
          refine ev_call (fn := a7) rfl ⟨N2789 + N2792 + N2813 + N2817 + N2819 + N2824 + N2826 + N2920 + N2922, fun n hn => ?_⟩
          have kN2789 := kN2789 n (by omega)
          have kN2792 := kN2792 n (by omega)
          try simp (maxSteps := 2000000) only [wn] at kN2792
          have kN2813 := kN2813 n (by omega)
          try simp (maxSteps := 2000000) only [wn] at kN2813
          have kN2817 := kN2817 n (by omega)
          try simp (maxSteps := 2000000) only [wn] at kN2817
          have kN2819 := kN2819 n (by omega)
          try simp (maxSteps := 2000000) only [wn] at kN2819
          have kN2824 := kN2824 n (by omega)
          try simp (maxSteps := 2000000) only [wn] at kN2824
          have kN2826 := kN2826 n (by omega)
          try simp (maxSteps := 2000000) only [wn] at kN2826
          have kN2920 := kN2920 n (by omega)
          simp (maxSteps := 2000000) only [h7l0_0, q7l0_0, wn] at kN2920
          have kN2922 := kN2922 n (by omega)
          try simp (maxSteps := 2000000) only [wn] at kN2922
          simp (maxSteps := 2000000) only [W, reduceIte, Nat.reduceEqDiff, Nat.reduceAdd, Nat.reduceSub, Nat.reduceLT, Nat.reduceLeDiff, Nat.reduceMul, a7, a7l0, a7l1, kN2789, c2790d, kN2792, kN2813, kN2817, kN2819, kN2824, kN2826, kN2920, kN2922, c2924d, c3110d, @x_loopAt, wd]
    · dsimp only at h
      have kN2920 := k7l0_0 z0 v2786 v2787 r2814 r2815 r2822 r2829 v2788 r2820 r2821 r2827 r2828 0 _ g2919
      obtain ⟨N2920, kN2920⟩ := kN2920
      cases h
      refine ev_call (fn := a7) rfl ⟨N2789 + N2792 + N2813 + N2817 + N2819 + N2824 + N2826 + N2920, fun n hn => ?_⟩
      have kN2789 := kN2789 n (by omega)
      have kN2792 := kN2792 n (by omega)
      try simp (maxSteps := 2000000) only [wn] at kN2792
      have kN2813 := kN2813 n (by omega)
      try simp (maxSteps := 2000000) only [wn] at kN2813
      have kN2817 := kN2817 n (by omega)
      try simp (maxSteps := 2000000) only [wn] at kN2817
      have kN2819 := kN2819 n (by omega)
      try simp (maxSteps := 2000000) only [wn] at kN2819
      have kN2824 := kN2824 n (by omega)
      try simp (maxSteps := 2000000) only [wn] at kN2824
      have kN2826 := kN2826 n (by omega)
      try simp (maxSteps := 2000000) only [wn] at kN2826
      have kN2920 := kN2920 n (by omega)
      simp (maxSteps := 2000000) only [h7l0_0, q7l0_0, wn] at kN2920
      simp (maxSteps := 2000000) only [W, reduceIte, Nat.reduceEqDiff, Nat.reduceAdd, Nat.reduceSub, Nat.reduceLT, Nat.reduceLeDiff, Nat.reduceMul, a7, a7l0, a7l1, kN2789, c2790d, kN2792, kN2813, kN2817, kN2819, kN2824, kN2826, kN2920, @x_loopAt, wd]
  · rw [if_neg c2790] at h
    have c2790d := df c2790
    cases h
    refine ev_call (fn := a7) rfl ⟨N2789, fun n hn => ?_⟩
    have kN2789 := kN2789 n (by omega)
    simp (maxSteps := 2000000) only [W, reduceIte, Nat.reduceEqDiff, Nat.reduceAdd, Nat.reduceSub, Nat.reduceLT, Nat.reduceLeDiff, Nat.reduceMul, a7, a7l0, a7l1, kN2789, c2790d, @x_loopAt, wd]
end Go.AI
