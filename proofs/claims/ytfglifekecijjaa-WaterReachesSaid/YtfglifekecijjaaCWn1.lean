/-
  Functions, walked through: water.CheckNet$1.
-/
import Derived.Test.YtfglifekecijjaaCAiY
import Derived.Test.YtfglifekecijjaaCAiTab
import Derived.Test.YtfglifekecijjaaCAiAwake
import Derived.Test.YtfglifekecijjaaCWnF
import Derived.Test.YtfglifekecijjaaCWn0
set_option linter.unusedVariables false
set_option linter.unusedSimpArgs false
set_option maxRecDepth 100000
set_option maxHeartbeats 4000000
namespace Go.AI
noncomputable def h16l0_0 (z0 : Bool) (z1 : Bool) (v73 : Int) (v75 : List WaterNode) (v76 : List WaterConduit) : (Int × (List (ByteArray × Bool))) → Env × Heap
  | (v74, v77) => ([(1, .ptr 2 0), (7, .map 3), (49, .slice 0 0 v75.length v75.length 4 false), (50, .int .i64 v73), (51, .int .i64 v74)], [.row z0 true (rowC v75), .row z1 true (rowC v76), .row true false [.slice 0 0 v75.length v75.length 4 false, .slice 1 0 v76.length v76.length 6 false], .map true (mapC v77)])
noncomputable def q16l0_0 (z0 : Bool) (z1 : Bool) (v73 : Int) (v75 : List WaterNode) (v76 : List WaterConduit) : ((Unit) ⊕ (Int × Int)) → AExit × Env × Heap
  | .inl (_) => (.exit 0, [(1, .ptr 2 0), (2, .undef), (3, .undef)], [.row z0 true (rowC v75), .row z1 true (rowC v76), .row true false [.slice 0 0 v75.length v75.length 4 false, .slice 1 0 v76.length v76.length 6 false]])
  | .inr (r168, r169) => (.ret, [(1, .ptr 2 0), (2, .int .i64 r168), (3, .int .i64 r169)], [.row z0 true (rowC v75), .row z1 true (rowC v76), .row true false [.slice 0 0 v75.length v75.length 4 false, .slice 1 0 v76.length v76.length 6 false]])
theorem k16l0_0 (z0 : Bool) (z1 : Bool) (v73 : Int) (v75 : List WaterNode) (v76 : List WaterConduit) (s : Int × (List (ByteArray × Bool))) (o : (Unit) ⊕ (Int × Int)) (h : L16l0_0 v73 v75 v76 s = some o) : Ev fun n => loopAt [1, 7, 49, 50, 51] [1, 2, 3] a16l0b (ex tab n) 2 (h16l0_0 z0 z1 v73 v75 v76 s) = some (q16l0_0 z0 z1 v73 v75 v76 o) := by
  refine iter_sound (S16l0_0 v73 v75 v76) [1, 7, 49, 50, 51] [1, 2, 3] a16l0b 2 (h16l0_0 z0 z1 v73 v75 v76) (q16l0_0 z0 z1 v73 v75 v76) ?_ _ _ _ h
  rintro ⟨v74, v77⟩ z h
  simp only [S16l0_0] at h
  by_cases c78 : v73 ≤ v74
  · rw [if_pos c78] at h
    have c78d := dt c78
    cases h
    refine ⟨0, fun n hn => ?_⟩
    simp (maxSteps := 2000000) only [W, reduceIte, Nat.reduceEqDiff, Nat.reduceAdd, Nat.reduceSub, Nat.reduceLT, Nat.reduceLeDiff, Nat.reduceMul, h16l0_0, q16l0_0, a16l0b, rc_WaterNode, c78d, wd]
  · rw [if_neg c78] at h
    have c78d := df c78
    obtain ⟨j79, x80, g81, h⟩ := un2 h
    obtain ⟨g811, g812⟩ := geti_in g81
    have g813 := ac_WaterNode g812
    try simp only [wn] at g811
    obtain ⟨r95, g93, h⟩ := un1 h
    obtain ⟨N94, kN94⟩ := c73_0 x80.fDraw 10000 _ g93
    by_cases c96 : x80.fLake = true
    · rw [if_pos c96] at h
      have c96d := c96
      obtain ⟨r99, g97, h⟩ := un1 h
      obtain ⟨N98, kN98⟩ := c74_0 x80.fHead 0 1000000 _ g97
      obtain ⟨r132, g130, h⟩ := un1 h
      obtain ⟨N131, kN131⟩ := c75_0 x80.fName _ g130
      obtain ⟨r135, g133, h⟩ := un1 h
      obtain ⟨N134, kN134⟩ := c72_0 r132 4 _ g133
      obtain ⟨r138, g136, h⟩ := un1 h
      obtain ⟨N137, kN137⟩ := c72_0 (!(getM x80.fName false v77)) 5 _ g136
      obtain ⟨r141, g139, h⟩ := un1 h
      obtain ⟨N140, kN140⟩ := c72_0 r99 2 _ g139
      obtain ⟨r144, g142, h⟩ := un1 h
      obtain ⟨N143, kN143⟩ := c72_0 (decide (x80.fDraw = 0)) 3 _ g142
      obtain ⟨r147, g145, h⟩ := un1 h
      obtain ⟨N146, kN146⟩ := c71_0 true ([r135, r138, r141, r144] : List Int) _ g145
      by_cases c148 : r147 = 0
      · rw [if_pos c148] at h
        have c148d := dt c148
        cases h
        refine ⟨N94 + N98 + N131 + N134 + N137 + N140 + N143 + N146, fun n hn => ?_⟩
        have kN94 := kN94 n (by omega)
        try simp (maxSteps := 2000000) only [wn, rc_WaterNode, c96d] at kN94
        have kN98 := kN98 n (by omega)
        try simp (maxSteps := 2000000) only [wn, rc_WaterNode, c96d] at kN98
        have kN131 := kN131 n (by omega)
        try simp (maxSteps := 2000000) only [wn, rc_WaterNode, c96d] at kN131
        have kN134 := kN134 n (by omega)
        try simp (maxSteps := 2000000) only [wn, rc_WaterNode, c96d] at kN134
        have kN137 := kN137 n (by omega)
        try simp (maxSteps := 2000000) only [wn, rc_WaterNode, c96d] at kN137
        have kN140 := kN140 n (by omega)
        try simp (maxSteps := 2000000) only [wn, rc_WaterNode, c96d] at kN140
        have kN143 := kN143 n (by omega)
        try simp (maxSteps := 2000000) only [wn, rc_WaterNode, c96d] at kN143
        have kN146 := kN146 n (by omega)
        try simp (maxSteps := 2000000) only [wn, rc_WaterNode, c96d] at kN146
        simp (maxSteps := 2000000) only [W, reduceIte, Nat.reduceEqDiff, Nat.reduceAdd, Nat.reduceSub, Nat.reduceLT, Nat.reduceLeDiff, Nat.reduceMul, h16l0_0, q16l0_0, a16l0b, rc_WaterNode, c78d, g811, g813, kN94, c96d, kN98, kN131, kN134, kN137, kN140, kN143, kN146, c148d, wd]
      · rw [if_neg c148] at h
        have c148d := df c148
        cases h
        refine ⟨N94 + N98 + N131 + N134 + N137 + N140 + N143 + N146, fun n hn => ?_⟩
        have kN94 := kN94 n (by omega)
        try simp (maxSteps := 2000000) only [wn, rc_WaterNode, c96d] at kN94
        have kN98 := kN98 n (by omega)
        try simp (maxSteps := 2000000) only [wn, rc_WaterNode, c96d] at kN98
        have kN131 := kN131 n (by omega)
        try simp (maxSteps := 2000000) only [wn, rc_WaterNode, c96d] at kN131
        have kN134 := kN134 n (by omega)
        try simp (maxSteps := 2000000) only [wn, rc_WaterNode, c96d] at kN134
        have kN137 := kN137 n (by omega)
        try simp (maxSteps := 2000000) only [wn, rc_WaterNode, c96d] at kN137
        have kN140 := kN140 n (by omega)
        try simp (maxSteps := 2000000) only [wn, rc_WaterNode, c96d] at kN140
        have kN143 := kN143 n (by omega)
        try simp (maxSteps := 2000000) only [wn, rc_WaterNode, c96d] at kN143
        have kN146 := kN146 n (by omega)
        try simp (maxSteps := 2000000) only [wn, rc_WaterNode, c96d] at kN146
        simp (maxSteps := 2000000) only [W, reduceIte, Nat.reduceEqDiff, Nat.reduceAdd, Nat.reduceSub, Nat.reduceLT, Nat.reduceLeDiff, Nat.reduceMul, h16l0_0, q16l0_0, a16l0b, rc_WaterNode, c78d, g811, g813, kN94, c96d, kN98, kN131, kN134, kN137, kN140, kN143, kN146, c148d, wd]
    · rw [if_neg c96] at h
      have c96d := bf c96
      obtain ⟨r151, g149, h⟩ := un1 h
      obtain ⟨N150, kN150⟩ := c75_0 x80.fName _ g149
      obtain ⟨r154, g152, h⟩ := un1 h
      obtain ⟨N153, kN153⟩ := c72_0 r151 4 _ g152
      obtain ⟨r157, g155, h⟩ := un1 h
      obtain ⟨N156, kN156⟩ := c72_0 (!(getM x80.fName false v77)) 5 _ g155
      obtain ⟨r160, g158, h⟩ := un1 h
      obtain ⟨N159, kN159⟩ := c72_0 r95 2 _ g158
      obtain ⟨r163, g161, h⟩ := un1 h
      obtain ⟨N162, kN162⟩ := c72_0 (decide (x80.fHead = 0)) 3 _ g161
      obtain ⟨r166, g164, h⟩ := un1 h
      obtain ⟨N165, kN165⟩ := c71_0 true ([r154, r157, r160, r163] : List Int) _ g164
      by_cases c167 : r166 = 0
      · rw [if_pos c167] at h
        have c167d := dt c167
        cases h
        refine ⟨N94 + N150 + N153 + N156 + N159 + N162 + N165, fun n hn => ?_⟩
        have kN94 := kN94 n (by omega)
        try simp (maxSteps := 2000000) only [wn, rc_WaterNode, c96d] at kN94
        have kN150 := kN150 n (by omega)
        try simp (maxSteps := 2000000) only [wn, rc_WaterNode, c96d] at kN150
        have kN153 := kN153 n (by omega)
        try simp (maxSteps := 2000000) only [wn, rc_WaterNode, c96d] at kN153
        have kN156 := kN156 n (by omega)
        try simp (maxSteps := 2000000) only [wn, rc_WaterNode, c96d] at kN156
        have kN159 := kN159 n (by omega)
        try simp (maxSteps := 2000000) only [wn, rc_WaterNode, c96d] at kN159
        have kN162 := kN162 n (by omega)
        try simp (maxSteps := 2000000) only [wn, rc_WaterNode, c96d] at kN162
        have kN165 := kN165 n (by omega)
        try simp (maxSteps := 2000000) only [wn, rc_WaterNode, c96d] at kN165
        simp (maxSteps := 2000000) only [W, reduceIte, Nat.reduceEqDiff, Nat.reduceAdd, Nat.reduceSub, Nat.reduceLT, Nat.reduceLeDiff, Nat.reduceMul, h16l0_0, q16l0_0, a16l0b, rc_WaterNode, c78d, g811, g813, kN94, c96d, kN150, kN153, kN156, kN159, kN162, kN165, c167d, wd]
      · rw [if_neg c167] at h
        have c167d := df c167
        cases h
        refine ⟨N94 + N150 + N153 + N156 + N159 + N162 + N165, fun n hn => ?_⟩
        have kN94 := kN94 n (by omega)
        try simp (maxSteps := 2000000) only [wn, rc_WaterNode, c96d] at kN94
        have kN150 := kN150 n (by omega)
        try simp (maxSteps := 2000000) only [wn, rc_WaterNode, c96d] at kN150
        have kN153 := kN153 n (by omega)
        try simp (maxSteps := 2000000) only [wn, rc_WaterNode, c96d] at kN153
        have kN156 := kN156 n (by omega)
        try simp (maxSteps := 2000000) only [wn, rc_WaterNode, c96d] at kN156
        have kN159 := kN159 n (by omega)
        try simp (maxSteps := 2000000) only [wn, rc_WaterNode, c96d] at kN159
        have kN162 := kN162 n (by omega)
        try simp (maxSteps := 2000000) only [wn, rc_WaterNode, c96d] at kN162
        have kN165 := kN165 n (by omega)
        try simp (maxSteps := 2000000) only [wn, rc_WaterNode, c96d] at kN165
        simp (maxSteps := 2000000) only [W, reduceIte, Nat.reduceEqDiff, Nat.reduceAdd, Nat.reduceSub, Nat.reduceLT, Nat.reduceLeDiff, Nat.reduceMul, h16l0_0, q16l0_0, a16l0b, rc_WaterNode, c78d, g811, g813, kN94, c96d, kN150, kN153, kN156, kN159, kN162, kN165, c167d, wd]
theorem c76_0 (z0 : Bool) (z1 : Bool) (z2 : Bool) (v190 : Int) (v191 : List WaterNode) (v192 : List WaterConduit) (r196 : Bool) (h : F76_0 v190 v191 v192 = some r196) : Ev fun n => (ex tab n).call 76 [.int .i64 v190, .ptr 0 0] [.row z0 false [.slice 1 0 v191.length v191.length 4 false, .slice 2 0 v192.length v192.length 6 false], .row z1 true (rowC v191), .row z2 true (rowC v192)] = some (.bool r196, [.row z0 false [.slice 1 0 v191.length v191.length 4 false, .slice 2 0 v192.length v192.length 6 false], .row z1 true (rowC v191), .row z2 true (rowC v192)]) := by
  unfold F76_0 at h
  obtain ⟨r195, g193, h⟩ := un1 h
  obtain ⟨N194, kN194⟩ := c74_0 v190 0 (aw .i64 ((v191.length : Int) - 1)) _ g193
  cases h
  refine ev_call (fn := a76) rfl ⟨N194, fun n hn => ?_⟩
  have kN194 := kN194 n (by omega)
  try simp (maxSteps := 2000000) only [wn] at kN194
  simp (maxSteps := 2000000) only [W, reduceIte, Nat.reduceEqDiff, Nat.reduceAdd, Nat.reduceSub, Nat.reduceLT, Nat.reduceLeDiff, Nat.reduceMul, a76, kN194]
noncomputable def h16l1_0 (z0 : Bool) (z1 : Bool) (v172 : Int) (v174 : List WaterNode) (v175 : List WaterConduit) : (Int × (List (ByteArray × Bool))) → Env × Heap
  | (v173, v176) => ([(13, .func 76 [] [.ptr 2 0]), (14, .map 3), (96, .slice 1 0 v175.length v175.length 6 false), (97, .int .i64 v172), (98, .int .i64 v173)], [.row z0 true (rowC v174), .row z1 true (rowC v175), .row true false [.slice 0 0 v174.length v174.length 4 false, .slice 1 0 v175.length v175.length 6 false], .map true (mapC v176)])
noncomputable def q16l1_0 (z0 : Bool) (z1 : Bool) (v172 : Int) (v174 : List WaterNode) (v175 : List WaterConduit) : ((Unit) ⊕ (Int × Int)) → AExit × Env × Heap
  | .inl (_) => (.exit 2, [(2, .undef), (3, .undef)], [.row z0 true (rowC v174), .row z1 true (rowC v175)])
  | .inr (r258, r259) => (.ret, [(2, .int .i64 r258), (3, .int .i64 r259)], [.row z0 true (rowC v174), .row z1 true (rowC v175)])
theorem k16l1_0 (z0 : Bool) (z1 : Bool) (v172 : Int) (v174 : List WaterNode) (v175 : List WaterConduit) (s : Int × (List (ByteArray × Bool))) (o : (Unit) ⊕ (Int × Int)) (h : L16l1_0 v172 v174 v175 s = some o) : Ev fun n => loopAt [13, 14, 96, 97, 98] [2, 3] a16l1b (ex tab n) 2 (h16l1_0 z0 z1 v172 v174 v175 s) = some (q16l1_0 z0 z1 v172 v174 v175 o) := by
  refine iter_sound (S16l1_0 v172 v174 v175) [13, 14, 96, 97, 98] [2, 3] a16l1b 2 (h16l1_0 z0 z1 v172 v174 v175) (q16l1_0 z0 z1 v172 v174 v175) ?_ _ _ _ h
  rintro ⟨v173, v176⟩ z h
  simp only [S16l1_0] at h
  by_cases c177 : v172 ≤ v173
  · rw [if_pos c177] at h
    have c177d := dt c177
    cases h
    refine ⟨0, fun n hn => ?_⟩
    simp (maxSteps := 2000000) only [W, reduceIte, Nat.reduceEqDiff, Nat.reduceAdd, Nat.reduceSub, Nat.reduceLT, Nat.reduceLeDiff, Nat.reduceMul, h16l1_0, q16l1_0, a16l1b, rc_WaterConduit, c177d, wd]
  · rw [if_neg c177] at h
    have c177d := df c177
    obtain ⟨j178, x179, g180, h⟩ := un2 h
    obtain ⟨g1801, g1802⟩ := geti_in g180
    have g1803 := ac_WaterConduit g1802
    try simp only [wn] at g1801
    obtain ⟨r183, g181, h⟩ := un1 h
    obtain ⟨N182, kN182⟩ := c75_0 x179.fName _ g181
    obtain ⟨r186, g184, h⟩ := un1 h
    obtain ⟨N185, kN185⟩ := c72_0 r183 4 _ g184
    obtain ⟨r189, g187, h⟩ := un1 h
    obtain ⟨N188, kN188⟩ := c72_0 (!(getM x179.fName false v176)) 5 _ g187
    obtain ⟨r199, g197, h⟩ := un1 h
    obtain ⟨N198, kN198⟩ := c76_0 false false false x179.fFrom v174 v175 _ g197
    by_cases c200 : r199 = true
    · rw [if_pos c200] at h
      have c200d := c200
      obtain ⟨r203, g201, h⟩ := un1 h
      obtain ⟨N202, kN202⟩ := c76_0 false false false x179.fTo v174 v175 _ g201
      obtain ⟨r206, g204, h⟩ := un1 h
      obtain ⟨N205, kN205⟩ := c72_0 r203 6 _ g204
      obtain ⟨r209, g207, h⟩ := un1 h
      obtain ⟨N208, kN208⟩ := c72_0 (!(decide (x179.fFrom = x179.fTo))) 13 _ g207
      obtain ⟨r212, g210, h⟩ := un1 h
      obtain ⟨N211, kN211⟩ := c74_0 x179.fResist 0 1000 _ g210
      obtain ⟨r215, g213, h⟩ := un1 h
      obtain ⟨N214, kN214⟩ := c72_0 r212 2 _ g213
      by_cases c216 : x179.fValve = true
      · rw [if_pos c216] at h
        have c216d := c216
        obtain ⟨r219, g217, h⟩ := un1 h
        obtain ⟨N218, kN218⟩ := c72_0 true 3 _ g217
        obtain ⟨r222, g220, h⟩ := un1 h
        obtain ⟨N221, kN221⟩ := c71_0 true ([r186, r189, r206, r209, r215, r219] : List Int) _ g220
        by_cases c223 : r222 = 0
        · rw [if_pos c223] at h
          have c223d := dt c223
          cases h
          refine ⟨N182 + N185 + N188 + N198 + N202 + N205 + N208 + N211 + N214 + N218 + N221, fun n hn => ?_⟩
          have kN182 := kN182 n (by omega)
          try simp (maxSteps := 2000000) only [wn, rc_WaterConduit, c216d] at kN182
          have kN185 := kN185 n (by omega)
          try simp (maxSteps := 2000000) only [wn, rc_WaterConduit, c216d] at kN185
          have kN188 := kN188 n (by omega)
          try simp (maxSteps := 2000000) only [wn, rc_WaterConduit, c216d] at kN188
          have kN198 := kN198 n (by omega)
          try simp (maxSteps := 2000000) only [wn, rc_WaterConduit, c216d] at kN198
          have kN202 := kN202 n (by omega)
          try simp (maxSteps := 2000000) only [wn, rc_WaterConduit, c216d] at kN202
          have kN205 := kN205 n (by omega)
          try simp (maxSteps := 2000000) only [wn, rc_WaterConduit, c216d] at kN205
          have kN208 := kN208 n (by omega)
          try simp (maxSteps := 2000000) only [wn, rc_WaterConduit, c216d] at kN208
          have kN211 := kN211 n (by omega)
          try simp (maxSteps := 2000000) only [wn, rc_WaterConduit, c216d] at kN211
          have kN214 := kN214 n (by omega)
          try simp (maxSteps := 2000000) only [wn, rc_WaterConduit, c216d] at kN214
          have kN218 := kN218 n (by omega)
          try simp (maxSteps := 2000000) only [wn, rc_WaterConduit, c216d] at kN218
          have kN221 := kN221 n (by omega)
          try simp (maxSteps := 2000000) only [wn, rc_WaterConduit, c216d] at kN221
          simp (maxSteps := 2000000) only [W, reduceIte, Nat.reduceEqDiff, Nat.reduceAdd, Nat.reduceSub, Nat.reduceLT, Nat.reduceLeDiff, Nat.reduceMul, h16l1_0, q16l1_0, a16l1b, rc_WaterConduit, c177d, g1801, g1803, kN182, kN185, kN188, kN198, c200d, kN202, kN205, kN208, kN211, kN214, c216d, kN218, kN221, c223d, wd]
        · rw [if_neg c223] at h
          have c223d := df c223
          cases h
          refine ⟨N182 + N185 + N188 + N198 + N202 + N205 + N208 + N211 + N214 + N218 + N221, fun n hn => ?_⟩
          have kN182 := kN182 n (by omega)
          try simp (maxSteps := 2000000) only [wn, rc_WaterConduit, c216d] at kN182
          have kN185 := kN185 n (by omega)
          try simp (maxSteps := 2000000) only [wn, rc_WaterConduit, c216d] at kN185
          have kN188 := kN188 n (by omega)
          try simp (maxSteps := 2000000) only [wn, rc_WaterConduit, c216d] at kN188
          have kN198 := kN198 n (by omega)
          try simp (maxSteps := 2000000) only [wn, rc_WaterConduit, c216d] at kN198
          have kN202 := kN202 n (by omega)
          try simp (maxSteps := 2000000) only [wn, rc_WaterConduit, c216d] at kN202
          have kN205 := kN205 n (by omega)
          try simp (maxSteps := 2000000) only [wn, rc_WaterConduit, c216d] at kN205
          have kN208 := kN208 n (by omega)
          try simp (maxSteps := 2000000) only [wn, rc_WaterConduit, c216d] at kN208
          have kN211 := kN211 n (by omega)
          try simp (maxSteps := 2000000) only [wn, rc_WaterConduit, c216d] at kN211
          have kN214 := kN214 n (by omega)
          try simp (maxSteps := 2000000) only [wn, rc_WaterConduit, c216d] at kN214
          have kN218 := kN218 n (by omega)
          try simp (maxSteps := 2000000) only [wn, rc_WaterConduit, c216d] at kN218
          have kN221 := kN221 n (by omega)
          try simp (maxSteps := 2000000) only [wn, rc_WaterConduit, c216d] at kN221
          simp (maxSteps := 2000000) only [W, reduceIte, Nat.reduceEqDiff, Nat.reduceAdd, Nat.reduceSub, Nat.reduceLT, Nat.reduceLeDiff, Nat.reduceMul, h16l1_0, q16l1_0, a16l1b, rc_WaterConduit, c177d, g1801, g1803, kN182, kN185, kN188, kN198, c200d, kN202, kN205, kN208, kN211, kN214, c216d, kN218, kN221, c223d, wd]
      · rw [if_neg c216] at h
        have c216d := bf c216
        obtain ⟨r226, g224, h⟩ := un1 h
        obtain ⟨N225, kN225⟩ := c72_0 x179.fOpen 3 _ g224
        obtain ⟨r229, g227, h⟩ := un1 h
        obtain ⟨N228, kN228⟩ := c71_0 true ([r186, r189, r206, r209, r215, r226] : List Int) _ g227
        by_cases c230 : r229 = 0
        · rw [if_pos c230] at h
          have c230d := dt c230
          cases h
          refine ⟨N182 + N185 + N188 + N198 + N202 + N205 + N208 + N211 + N214 + N225 + N228, fun n hn => ?_⟩
          have kN182 := kN182 n (by omega)
          try simp (maxSteps := 2000000) only [wn, rc_WaterConduit, c216d] at kN182
          have kN185 := kN185 n (by omega)
          try simp (maxSteps := 2000000) only [wn, rc_WaterConduit, c216d] at kN185
          have kN188 := kN188 n (by omega)
          try simp (maxSteps := 2000000) only [wn, rc_WaterConduit, c216d] at kN188
          have kN198 := kN198 n (by omega)
          try simp (maxSteps := 2000000) only [wn, rc_WaterConduit, c216d] at kN198
          have kN202 := kN202 n (by omega)
          try simp (maxSteps := 2000000) only [wn, rc_WaterConduit, c216d] at kN202
          have kN205 := kN205 n (by omega)
          try simp (maxSteps := 2000000) only [wn, rc_WaterConduit, c216d] at kN205
          have kN208 := kN208 n (by omega)
          try simp (maxSteps := 2000000) only [wn, rc_WaterConduit, c216d] at kN208
          have kN211 := kN211 n (by omega)
          try simp (maxSteps := 2000000) only [wn, rc_WaterConduit, c216d] at kN211
          have kN214 := kN214 n (by omega)
          try simp (maxSteps := 2000000) only [wn, rc_WaterConduit, c216d] at kN214
          have kN225 := kN225 n (by omega)
          try simp (maxSteps := 2000000) only [wn, rc_WaterConduit, c216d] at kN225
          have kN228 := kN228 n (by omega)
          try simp (maxSteps := 2000000) only [wn, rc_WaterConduit, c216d] at kN228
          simp (maxSteps := 2000000) only [W, reduceIte, Nat.reduceEqDiff, Nat.reduceAdd, Nat.reduceSub, Nat.reduceLT, Nat.reduceLeDiff, Nat.reduceMul, h16l1_0, q16l1_0, a16l1b, rc_WaterConduit, c177d, g1801, g1803, kN182, kN185, kN188, kN198, c200d, kN202, kN205, kN208, kN211, kN214, c216d, kN225, kN228, c230d, wd]
        · rw [if_neg c230] at h
          have c230d := df c230
          cases h
          refine ⟨N182 + N185 + N188 + N198 + N202 + N205 + N208 + N211 + N214 + N225 + N228, fun n hn => ?_⟩
          have kN182 := kN182 n (by omega)
          try simp (maxSteps := 2000000) only [wn, rc_WaterConduit, c216d] at kN182
          have kN185 := kN185 n (by omega)
          try simp (maxSteps := 2000000) only [wn, rc_WaterConduit, c216d] at kN185
          have kN188 := kN188 n (by omega)
          try simp (maxSteps := 2000000) only [wn, rc_WaterConduit, c216d] at kN188
          have kN198 := kN198 n (by omega)
          try simp (maxSteps := 2000000) only [wn, rc_WaterConduit, c216d] at kN198
          have kN202 := kN202 n (by omega)
          try simp (maxSteps := 2000000) only [wn, rc_WaterConduit, c216d] at kN202
          have kN205 := kN205 n (by omega)
          try simp (maxSteps := 2000000) only [wn, rc_WaterConduit, c216d] at kN205
          have kN208 := kN208 n (by omega)
          try simp (maxSteps := 2000000) only [wn, rc_WaterConduit, c216d] at kN208
          have kN211 := kN211 n (by omega)
          try simp (maxSteps := 2000000) only [wn, rc_WaterConduit, c216d] at kN211
          have kN214 := kN214 n (by omega)
          try simp (maxSteps := 2000000) only [wn, rc_WaterConduit, c216d] at kN214
          have kN225 := kN225 n (by omega)
          try simp (maxSteps := 2000000) only [wn, rc_WaterConduit, c216d] at kN225
          have kN228 := kN228 n (by omega)
          try simp (maxSteps := 2000000) only [wn, rc_WaterConduit, c216d] at kN228
          simp (maxSteps := 2000000) only [W, reduceIte, Nat.reduceEqDiff, Nat.reduceAdd, Nat.reduceSub, Nat.reduceLT, Nat.reduceLeDiff, Nat.reduceMul, h16l1_0, q16l1_0, a16l1b, rc_WaterConduit, c177d, g1801, g1803, kN182, kN185, kN188, kN198, c200d, kN202, kN205, kN208, kN211, kN214, c216d, kN225, kN228, c230d, wd]
    · rw [if_neg c200] at h
      have c200d := bf c200
      obtain ⟨r233, g231, h⟩ := un1 h
      obtain ⟨N232, kN232⟩ := c72_0 false 6 _ g231
      obtain ⟨r236, g234, h⟩ := un1 h
      obtain ⟨N235, kN235⟩ := c72_0 (!(decide (x179.fFrom = x179.fTo))) 13 _ g234
      obtain ⟨r239, g237, h⟩ := un1 h
      obtain ⟨N238, kN238⟩ := c74_0 x179.fResist 0 1000 _ g237
      obtain ⟨r242, g240, h⟩ := un1 h
      obtain ⟨N241, kN241⟩ := c72_0 r239 2 _ g240
      by_cases c243 : x179.fValve = true
      · rw [if_pos c243] at h
        have c243d := c243
        obtain ⟨r246, g244, h⟩ := un1 h
        obtain ⟨N245, kN245⟩ := c72_0 true 3 _ g244
        obtain ⟨r249, g247, h⟩ := un1 h
        obtain ⟨N248, kN248⟩ := c71_0 true ([r186, r189, r233, r236, r242, r246] : List Int) _ g247
        by_cases c250 : r249 = 0
        · rw [if_pos c250] at h
          have c250d := dt c250
          cases h
          refine ⟨N182 + N185 + N188 + N198 + N232 + N235 + N238 + N241 + N245 + N248, fun n hn => ?_⟩
          have kN182 := kN182 n (by omega)
          try simp (maxSteps := 2000000) only [wn, rc_WaterConduit, c243d] at kN182
          have kN185 := kN185 n (by omega)
          try simp (maxSteps := 2000000) only [wn, rc_WaterConduit, c243d] at kN185
          have kN188 := kN188 n (by omega)
          try simp (maxSteps := 2000000) only [wn, rc_WaterConduit, c243d] at kN188
          have kN198 := kN198 n (by omega)
          try simp (maxSteps := 2000000) only [wn, rc_WaterConduit, c243d] at kN198
          have kN232 := kN232 n (by omega)
          try simp (maxSteps := 2000000) only [wn, rc_WaterConduit, c243d] at kN232
          have kN235 := kN235 n (by omega)
          try simp (maxSteps := 2000000) only [wn, rc_WaterConduit, c243d] at kN235
          have kN238 := kN238 n (by omega)
          try simp (maxSteps := 2000000) only [wn, rc_WaterConduit, c243d] at kN238
          have kN241 := kN241 n (by omega)
          try simp (maxSteps := 2000000) only [wn, rc_WaterConduit, c243d] at kN241
          have kN245 := kN245 n (by omega)
          try simp (maxSteps := 2000000) only [wn, rc_WaterConduit, c243d] at kN245
          have kN248 := kN248 n (by omega)
          try simp (maxSteps := 2000000) only [wn, rc_WaterConduit, c243d] at kN248
          simp (maxSteps := 2000000) only [W, reduceIte, Nat.reduceEqDiff, Nat.reduceAdd, Nat.reduceSub, Nat.reduceLT, Nat.reduceLeDiff, Nat.reduceMul, h16l1_0, q16l1_0, a16l1b, rc_WaterConduit, c177d, g1801, g1803, kN182, kN185, kN188, kN198, c200d, kN232, kN235, kN238, kN241, c243d, kN245, kN248, c250d, wd]
        · rw [if_neg c250] at h
          have c250d := df c250
          cases h
          refine ⟨N182 + N185 + N188 + N198 + N232 + N235 + N238 + N241 + N245 + N248, fun n hn => ?_⟩
          have kN182 := kN182 n (by omega)
          try simp (maxSteps := 2000000) only [wn, rc_WaterConduit, c243d] at kN182
          have kN185 := kN185 n (by omega)
          try simp (maxSteps := 2000000) only [wn, rc_WaterConduit, c243d] at kN185
          have kN188 := kN188 n (by omega)
          try simp (maxSteps := 2000000) only [wn, rc_WaterConduit, c243d] at kN188
          have kN198 := kN198 n (by omega)
          try simp (maxSteps := 2000000) only [wn, rc_WaterConduit, c243d] at kN198
          have kN232 := kN232 n (by omega)
          try simp (maxSteps := 2000000) only [wn, rc_WaterConduit, c243d] at kN232
          have kN235 := kN235 n (by omega)
          try simp (maxSteps := 2000000) only [wn, rc_WaterConduit, c243d] at kN235
          have kN238 := kN238 n (by omega)
          try simp (maxSteps := 2000000) only [wn, rc_WaterConduit, c243d] at kN238
          have kN241 := kN241 n (by omega)
          try simp (maxSteps := 2000000) only [wn, rc_WaterConduit, c243d] at kN241
          have kN245 := kN245 n (by omega)
          try simp (maxSteps := 2000000) only [wn, rc_WaterConduit, c243d] at kN245
          have kN248 := kN248 n (by omega)
          try simp (maxSteps := 2000000) only [wn, rc_WaterConduit, c243d] at kN248
          simp (maxSteps := 2000000) only [W, reduceIte, Nat.reduceEqDiff, Nat.reduceAdd, Nat.reduceSub, Nat.reduceLT, Nat.reduceLeDiff, Nat.reduceMul, h16l1_0, q16l1_0, a16l1b, rc_WaterConduit, c177d, g1801, g1803, kN182, kN185, kN188, kN198, c200d, kN232, kN235, kN238, kN241, c243d, kN245, kN248, c250d, wd]
      · rw [if_neg c243] at h
        have c243d := bf c243
        obtain ⟨r253, g251, h⟩ := un1 h
        obtain ⟨N252, kN252⟩ := c72_0 x179.fOpen 3 _ g251
        obtain ⟨r256, g254, h⟩ := un1 h
        obtain ⟨N255, kN255⟩ := c71_0 true ([r186, r189, r233, r236, r242, r253] : List Int) _ g254
        by_cases c257 : r256 = 0
        · rw [if_pos c257] at h
          have c257d := dt c257
          cases h
          refine ⟨N182 + N185 + N188 + N198 + N232 + N235 + N238 + N241 + N252 + N255, fun n hn => ?_⟩
          have kN182 := kN182 n (by omega)
          try simp (maxSteps := 2000000) only [wn, rc_WaterConduit, c243d] at kN182
          have kN185 := kN185 n (by omega)
          try simp (maxSteps := 2000000) only [wn, rc_WaterConduit, c243d] at kN185
          have kN188 := kN188 n (by omega)
          try simp (maxSteps := 2000000) only [wn, rc_WaterConduit, c243d] at kN188
          have kN198 := kN198 n (by omega)
          try simp (maxSteps := 2000000) only [wn, rc_WaterConduit, c243d] at kN198
          have kN232 := kN232 n (by omega)
          try simp (maxSteps := 2000000) only [wn, rc_WaterConduit, c243d] at kN232
          have kN235 := kN235 n (by omega)
          try simp (maxSteps := 2000000) only [wn, rc_WaterConduit, c243d] at kN235
          have kN238 := kN238 n (by omega)
          try simp (maxSteps := 2000000) only [wn, rc_WaterConduit, c243d] at kN238
          have kN241 := kN241 n (by omega)
          try simp (maxSteps := 2000000) only [wn, rc_WaterConduit, c243d] at kN241
          have kN252 := kN252 n (by omega)
          try simp (maxSteps := 2000000) only [wn, rc_WaterConduit, c243d] at kN252
          have kN255 := kN255 n (by omega)
          try simp (maxSteps := 2000000) only [wn, rc_WaterConduit, c243d] at kN255
          simp (maxSteps := 2000000) only [W, reduceIte, Nat.reduceEqDiff, Nat.reduceAdd, Nat.reduceSub, Nat.reduceLT, Nat.reduceLeDiff, Nat.reduceMul, h16l1_0, q16l1_0, a16l1b, rc_WaterConduit, c177d, g1801, g1803, kN182, kN185, kN188, kN198, c200d, kN232, kN235, kN238, kN241, c243d, kN252, kN255, c257d, wd]
        · rw [if_neg c257] at h
          have c257d := df c257
          cases h
          refine ⟨N182 + N185 + N188 + N198 + N232 + N235 + N238 + N241 + N252 + N255, fun n hn => ?_⟩
          have kN182 := kN182 n (by omega)
          try simp (maxSteps := 2000000) only [wn, rc_WaterConduit, c243d] at kN182
          have kN185 := kN185 n (by omega)
          try simp (maxSteps := 2000000) only [wn, rc_WaterConduit, c243d] at kN185
          have kN188 := kN188 n (by omega)
          try simp (maxSteps := 2000000) only [wn, rc_WaterConduit, c243d] at kN188
          have kN198 := kN198 n (by omega)
          try simp (maxSteps := 2000000) only [wn, rc_WaterConduit, c243d] at kN198
          have kN232 := kN232 n (by omega)
          try simp (maxSteps := 2000000) only [wn, rc_WaterConduit, c243d] at kN232
          have kN235 := kN235 n (by omega)
          try simp (maxSteps := 2000000) only [wn, rc_WaterConduit, c243d] at kN235
          have kN238 := kN238 n (by omega)
          try simp (maxSteps := 2000000) only [wn, rc_WaterConduit, c243d] at kN238
          have kN241 := kN241 n (by omega)
          try simp (maxSteps := 2000000) only [wn, rc_WaterConduit, c243d] at kN241
          have kN252 := kN252 n (by omega)
          try simp (maxSteps := 2000000) only [wn, rc_WaterConduit, c243d] at kN252
          have kN255 := kN255 n (by omega)
          try simp (maxSteps := 2000000) only [wn, rc_WaterConduit, c243d] at kN255
          simp (maxSteps := 2000000) only [W, reduceIte, Nat.reduceEqDiff, Nat.reduceAdd, Nat.reduceSub, Nat.reduceLT, Nat.reduceLeDiff, Nat.reduceMul, h16l1_0, q16l1_0, a16l1b, rc_WaterConduit, c177d, g1801, g1803, kN182, kN185, kN188, kN198, c200d, kN232, kN235, kN238, kN241, c243d, kN252, kN255, c257d, wd]
end Go.AI
