/-
  Functions, walked through: water.CheckNet, water.loss, water.LossOf.
-/
import Derived.Test.YtfglifekecijjaaCAiY
import Derived.Test.YtfglifekecijjaaCAiTab
import Derived.Test.YtfglifekecijjaaCAiAwake
import Derived.Test.YtfglifekecijjaaCWnF
import Derived.Test.YtfglifekecijjaaCWn0
import Derived.Test.YtfglifekecijjaaCWn1
set_option linter.unusedVariables false
set_option linter.unusedSimpArgs false
set_option maxRecDepth 100000
set_option maxHeartbeats 4000000
namespace Go.AI
theorem c16_0 (z0 : Bool) (z1 : Bool) (v41 : List WaterNode) (v42 : List WaterConduit) (r321 : Int) (r322 : Int) (h : F16_0 v41 v42 = some (r321, r322)) : Ev fun n => (ex tab n).call 16 [.agg [.slice 0 0 v41.length v41.length 4 false, .slice 1 0 v42.length v42.length 6 false]] [.row z0 true (rowC v41), .row z1 true (rowC v42)] = some (.tup [.int .i64 r321, .int .i64 r322], [.row z0 true (rowC v41), .row z1 true (rowC v42)]) := by
  unfold F16_0 at h
  by_cases c43 : (v41.length : Int) ≤ 0
  · rw [if_pos c43] at h
    have c43d := dt c43
    by_cases c44 : (v41.length : Int) ≤ 10
    · rw [if_pos c44] at h
      have c44d := dt c44
      obtain ⟨r51, g49, h⟩ := un1 h
      obtain ⟨N50, kN50⟩ := c72_0 false 10 _ g49
      obtain ⟨r54, g52, h⟩ := un1 h
      obtain ⟨N53, kN53⟩ := c72_0 (decide ((v42.length : Int) ≤ 14)) 8 _ g52
      obtain ⟨r71, g69, h⟩ := un1 h
      obtain ⟨N70, kN70⟩ := c71_0 true ([r51, r54] : List Int) _ g69
      by_cases c72 : r71 = 0
      · rw [if_pos c72] at h
        have c72d := dt c72
        obtain ⟨g170_, g170, h⟩ := un1 h
        rcases g170_ with _ | ⟨r264, r265⟩
        · dsimp only at h
          have kN171 := k16l0_0 z0 z1 (v41.length : Int) v41 v42 (0, ([] : List (ByteArray × Bool))) _ g170
          obtain ⟨N171, kN171⟩ := kN171
          obtain ⟨g260_, g260, h⟩ := un1 h
          rcases g260_ with _ | ⟨r262, r263⟩
          · dsimp only at h
            have kN261 := k16l1_0 z0 z1 (v42.length : Int) v41 v42 (0, ([] : List (ByteArray × Bool))) _ g260
            obtain ⟨N261, kN261⟩ := kN261
            cases h
            refine ev_call (fn := a16) rfl ⟨N50 + N53 + N70 + N171 + N261, fun n hn => ?_⟩
            have kN50 := kN50 n (by omega)
            try simp (maxSteps := 2000000) only [wn] at kN50
            have kN53 := kN53 n (by omega)
            try simp (maxSteps := 2000000) only [wn] at kN53
            have kN70 := kN70 n (by omega)
            try simp (maxSteps := 2000000) only [wn] at kN70
            have kN171 := kN171 n (by omega)
            simp (maxSteps := 2000000) only [h16l0_0, q16l0_0, wn, rc_WaterNode] at kN171
            have kN261 := kN261 n (by omega)
            simp (maxSteps := 2000000) only [h16l1_0, q16l1_0, wn, rc_WaterConduit, rc_WaterNode] at kN261
            simp (maxSteps := 2000000) only [W, reduceIte, Nat.reduceEqDiff, Nat.reduceAdd, Nat.reduceSub, Nat.reduceLT, Nat.reduceLeDiff, Nat.reduceMul, a16, a16l0, a16l1, rc_WaterConduit, rc_WaterNode, c43d, c44d, kN50, kN53, kN70, c72d, kN171, kN261, @x_loopAt]
          · dsimp only at h
            have kN261 := k16l1_0 z0 z1 (v42.length : Int) v41 v42 (0, ([] : List (ByteArray × Bool))) _ g260
            obtain ⟨N261, kN261⟩ := kN261
            cases h
            refine ev_call (fn := a16) rfl ⟨N50 + N53 + N70 + N171 + N261, fun n hn => ?_⟩
            have kN50 := kN50 n (by omega)
            try simp (maxSteps := 2000000) only [wn] at kN50
            have kN53 := kN53 n (by omega)
            try simp (maxSteps := 2000000) only [wn] at kN53
            have kN70 := kN70 n (by omega)
            try simp (maxSteps := 2000000) only [wn] at kN70
            have kN171 := kN171 n (by omega)
            simp (maxSteps := 2000000) only [h16l0_0, q16l0_0, wn, rc_WaterNode] at kN171
            have kN261 := kN261 n (by omega)
            simp (maxSteps := 2000000) only [h16l1_0, q16l1_0, wn, rc_WaterConduit, rc_WaterNode] at kN261
            simp (maxSteps := 2000000) only [W, reduceIte, Nat.reduceEqDiff, Nat.reduceAdd, Nat.reduceSub, Nat.reduceLT, Nat.reduceLeDiff, Nat.reduceMul, a16, a16l0, a16l1, rc_WaterConduit, rc_WaterNode, c43d, c44d, kN50, kN53, kN70, c72d, kN171, kN261, @x_loopAt]
        · dsimp only at h
          have kN171 := k16l0_0 z0 z1 (v41.length : Int) v41 v42 (0, ([] : List (ByteArray × Bool))) _ g170
          obtain ⟨N171, kN171⟩ := kN171
          cases h
          refine ev_call (fn := a16) rfl ⟨N50 + N53 + N70 + N171, fun n hn => ?_⟩
          have kN50 := kN50 n (by omega)
          try simp (maxSteps := 2000000) only [wn] at kN50
          have kN53 := kN53 n (by omega)
          try simp (maxSteps := 2000000) only [wn] at kN53
          have kN70 := kN70 n (by omega)
          try simp (maxSteps := 2000000) only [wn] at kN70
          have kN171 := kN171 n (by omega)
          simp (maxSteps := 2000000) only [h16l0_0, q16l0_0, wn, rc_WaterConduit, rc_WaterNode] at kN171
          simp (maxSteps := 2000000) only [W, reduceIte, Nat.reduceEqDiff, Nat.reduceAdd, Nat.reduceSub, Nat.reduceLT, Nat.reduceLeDiff, Nat.reduceMul, a16, a16l0, a16l1, rc_WaterConduit, rc_WaterNode, c43d, c44d, kN50, kN53, kN70, c72d, kN171, @x_loopAt]
      · rw [if_neg c72] at h
        have c72d := df c72
        cases h
        refine ev_call (fn := a16) rfl ⟨N50 + N53 + N70, fun n hn => ?_⟩
        have kN50 := kN50 n (by omega)
        try simp (maxSteps := 2000000) only [wn] at kN50
        have kN53 := kN53 n (by omega)
        try simp (maxSteps := 2000000) only [wn] at kN53
        have kN70 := kN70 n (by omega)
        try simp (maxSteps := 2000000) only [wn] at kN70
        simp (maxSteps := 2000000) only [W, reduceIte, Nat.reduceEqDiff, Nat.reduceAdd, Nat.reduceSub, Nat.reduceLT, Nat.reduceLeDiff, Nat.reduceMul, a16, a16l0, a16l1, rc_WaterConduit, rc_WaterNode, c43d, c44d, kN50, kN53, kN70, c72d, @x_loopAt]
    · rw [if_neg c44] at h
      have c44d := df c44
      obtain ⟨r268, g266, h⟩ := un1 h
      obtain ⟨N267, kN267⟩ := c72_0 false 10 _ g266
      obtain ⟨r271, g269, h⟩ := un1 h
      obtain ⟨N270, kN270⟩ := c72_0 false 8 _ g269
      obtain ⟨r274, g272, h⟩ := un1 h
      obtain ⟨N273, kN273⟩ := c71_0 true ([r268, r271] : List Int) _ g272
      by_cases c275 : r274 = 0
      · rw [if_pos c275] at h
        have c275d := dt c275
        obtain ⟨g276_, g276, h⟩ := un1 h
        rcases g276_ with _ | ⟨r282, r283⟩
        · dsimp only at h
          have kN277 := k16l0_0 z0 z1 (v41.length : Int) v41 v42 (0, ([] : List (ByteArray × Bool))) _ g276
          obtain ⟨N277, kN277⟩ := kN277
          obtain ⟨g278_, g278, h⟩ := un1 h
          rcases g278_ with _ | ⟨r280, r281⟩
          · dsimp only at h
            have kN279 := k16l1_0 z0 z1 (v42.length : Int) v41 v42 (0, ([] : List (ByteArray × Bool))) _ g278
            obtain ⟨N279, kN279⟩ := kN279
            cases h
            refine ev_call (fn := a16) rfl ⟨N267 + N270 + N273 + N277 + N279, fun n hn => ?_⟩
            have kN267 := kN267 n (by omega)
            try simp (maxSteps := 2000000) only [wn, rc_WaterConduit, rc_WaterNode] at kN267
            have kN270 := kN270 n (by omega)
            try simp (maxSteps := 2000000) only [wn, rc_WaterConduit, rc_WaterNode] at kN270
            have kN273 := kN273 n (by omega)
            try simp (maxSteps := 2000000) only [wn, rc_WaterConduit, rc_WaterNode] at kN273
            have kN277 := kN277 n (by omega)
            simp (maxSteps := 2000000) only [h16l0_0, q16l0_0, wn, rc_WaterConduit, rc_WaterNode] at kN277
            have kN279 := kN279 n (by omega)
            simp (maxSteps := 2000000) only [h16l1_0, q16l1_0, wn, rc_WaterConduit, rc_WaterNode] at kN279
            simp (maxSteps := 2000000) only [W, reduceIte, Nat.reduceEqDiff, Nat.reduceAdd, Nat.reduceSub, Nat.reduceLT, Nat.reduceLeDiff, Nat.reduceMul, a16, a16l0, a16l1, rc_WaterConduit, rc_WaterNode, c43d, c44d, kN267, kN270, kN273, c275d, kN277, kN279, @x_loopAt]
          · dsimp only at h
            have kN279 := k16l1_0 z0 z1 (v42.length : Int) v41 v42 (0, ([] : List (ByteArray × Bool))) _ g278
            obtain ⟨N279, kN279⟩ := kN279
            cases h
            refine ev_call (fn := a16) rfl ⟨N267 + N270 + N273 + N277 + N279, fun n hn => ?_⟩
            have kN267 := kN267 n (by omega)
            try simp (maxSteps := 2000000) only [wn, rc_WaterConduit, rc_WaterNode] at kN267
            have kN270 := kN270 n (by omega)
            try simp (maxSteps := 2000000) only [wn, rc_WaterConduit, rc_WaterNode] at kN270
            have kN273 := kN273 n (by omega)
            try simp (maxSteps := 2000000) only [wn, rc_WaterConduit, rc_WaterNode] at kN273
            have kN277 := kN277 n (by omega)
            simp (maxSteps := 2000000) only [h16l0_0, q16l0_0, wn, rc_WaterConduit, rc_WaterNode] at kN277
            have kN279 := kN279 n (by omega)
            simp (maxSteps := 2000000) only [h16l1_0, q16l1_0, wn, rc_WaterConduit, rc_WaterNode] at kN279
            simp (maxSteps := 2000000) only [W, reduceIte, Nat.reduceEqDiff, Nat.reduceAdd, Nat.reduceSub, Nat.reduceLT, Nat.reduceLeDiff, Nat.reduceMul, a16, a16l0, a16l1, rc_WaterConduit, rc_WaterNode, c43d, c44d, kN267, kN270, kN273, c275d, kN277, kN279, @x_loopAt]
        · dsimp only at h
          have kN277 := k16l0_0 z0 z1 (v41.length : Int) v41 v42 (0, ([] : List (ByteArray × Bool))) _ g276
          obtain ⟨N277, kN277⟩ := kN277
          cases h
          refine ev_call (fn := a16) rfl ⟨N267 + N270 + N273 + N277, fun n hn => ?_⟩
          have kN267 := kN267 n (by omega)
          try simp (maxSteps := 2000000) only [wn, rc_WaterConduit, rc_WaterNode] at kN267
          have kN270 := kN270 n (by omega)
          try simp (maxSteps := 2000000) only [wn, rc_WaterConduit, rc_WaterNode] at kN270
          have kN273 := kN273 n (by omega)
          try simp (maxSteps := 2000000) only [wn, rc_WaterConduit, rc_WaterNode] at kN273
          have kN277 := kN277 n (by omega)
          simp (maxSteps := 2000000) only [h16l0_0, q16l0_0, wn, rc_WaterConduit, rc_WaterNode] at kN277
          simp (maxSteps := 2000000) only [W, reduceIte, Nat.reduceEqDiff, Nat.reduceAdd, Nat.reduceSub, Nat.reduceLT, Nat.reduceLeDiff, Nat.reduceMul, a16, a16l0, a16l1, rc_WaterConduit, rc_WaterNode, c43d, c44d, kN267, kN270, kN273, c275d, kN277, @x_loopAt]
      · rw [if_neg c275] at h
        have c275d := df c275
        cases h
        refine ev_call (fn := a16) rfl ⟨N267 + N270 + N273, fun n hn => ?_⟩
        have kN267 := kN267 n (by omega)
        try simp (maxSteps := 2000000) only [wn, rc_WaterConduit, rc_WaterNode] at kN267
        have kN270 := kN270 n (by omega)
        try simp (maxSteps := 2000000) only [wn, rc_WaterConduit, rc_WaterNode] at kN270
        have kN273 := kN273 n (by omega)
        try simp (maxSteps := 2000000) only [wn, rc_WaterConduit, rc_WaterNode] at kN273
        simp (maxSteps := 2000000) only [W, reduceIte, Nat.reduceEqDiff, Nat.reduceAdd, Nat.reduceSub, Nat.reduceLT, Nat.reduceLeDiff, Nat.reduceMul, a16, a16l0, a16l1, rc_WaterConduit, rc_WaterNode, c43d, c44d, kN267, kN270, kN273, c275d, @x_loopAt]
  · rw [if_neg c43] at h
    have c43d := df c43
    by_cases c284 : (v41.length : Int) ≤ 10
    · rw [if_pos c284] at h
      have c284d := dt c284
      obtain ⟨r287, g285, h⟩ := un1 h
      obtain ⟨N286, kN286⟩ := c72_0 (!(decide ((v42.length : Int) ≤ 0))) 10 _ g285
      obtain ⟨r290, g288, h⟩ := un1 h
      obtain ⟨N289, kN289⟩ := c72_0 (decide ((v42.length : Int) ≤ 14)) 8 _ g288
      obtain ⟨r293, g291, h⟩ := un1 h
      obtain ⟨N292, kN292⟩ := c71_0 true ([r287, r290] : List Int) _ g291
      by_cases c294 : r293 = 0
      · rw [if_pos c294] at h
        have c294d := dt c294
        obtain ⟨g295_, g295, h⟩ := un1 h
        rcases g295_ with _ | ⟨r301, r302⟩
        · dsimp only at h
          have kN296 := k16l0_0 z0 z1 (v41.length : Int) v41 v42 (0, ([] : List (ByteArray × Bool))) _ g295
          obtain ⟨N296, kN296⟩ := kN296
          obtain ⟨g297_, g297, h⟩ := un1 h
          rcases g297_ with _ | ⟨r299, r300⟩
          · dsimp only at h
            have kN298 := k16l1_0 z0 z1 (v42.length : Int) v41 v42 (0, ([] : List (ByteArray × Bool))) _ g297
            obtain ⟨N298, kN298⟩ := kN298
            cases h
            refine ev_call (fn := a16) rfl ⟨N286 + N289 + N292 + N296 + N298, fun n hn => ?_⟩
            have kN286 := kN286 n (by omega)
            try simp (maxSteps := 2000000) only [wn, rc_WaterConduit, rc_WaterNode] at kN286
            have kN289 := kN289 n (by omega)
            try simp (maxSteps := 2000000) only [wn, rc_WaterConduit, rc_WaterNode] at kN289
            have kN292 := kN292 n (by omega)
            try simp (maxSteps := 2000000) only [wn, rc_WaterConduit, rc_WaterNode] at kN292
            have kN296 := kN296 n (by omega)
            simp (maxSteps := 2000000) only [h16l0_0, q16l0_0, wn, rc_WaterConduit, rc_WaterNode] at kN296
            have kN298 := kN298 n (by omega)
            simp (maxSteps := 2000000) only [h16l1_0, q16l1_0, wn, rc_WaterConduit, rc_WaterNode] at kN298
            simp (maxSteps := 2000000) only [W, reduceIte, Nat.reduceEqDiff, Nat.reduceAdd, Nat.reduceSub, Nat.reduceLT, Nat.reduceLeDiff, Nat.reduceMul, a16, a16l0, a16l1, rc_WaterConduit, rc_WaterNode, c43d, c284d, kN286, kN289, kN292, c294d, kN296, kN298, @x_loopAt]
          · dsimp only at h
            have kN298 := k16l1_0 z0 z1 (v42.length : Int) v41 v42 (0, ([] : List (ByteArray × Bool))) _ g297
            obtain ⟨N298, kN298⟩ := kN298
            cases h
            refine ev_call (fn := a16) rfl ⟨N286 + N289 + N292 + N296 + N298, fun n hn => ?_⟩
            have kN286 := kN286 n (by omega)
            try simp (maxSteps := 2000000) only [wn, rc_WaterConduit, rc_WaterNode] at kN286
            have kN289 := kN289 n (by omega)
            try simp (maxSteps := 2000000) only [wn, rc_WaterConduit, rc_WaterNode] at kN289
            have kN292 := kN292 n (by omega)
            try simp (maxSteps := 2000000) only [wn, rc_WaterConduit, rc_WaterNode] at kN292
            have kN296 := kN296 n (by omega)
            simp (maxSteps := 2000000) only [h16l0_0, q16l0_0, wn, rc_WaterConduit, rc_WaterNode] at kN296
            have kN298 := kN298 n (by omega)
            simp (maxSteps := 2000000) only [h16l1_0, q16l1_0, wn, rc_WaterConduit, rc_WaterNode] at kN298
            simp (maxSteps := 2000000) only [W, reduceIte, Nat.reduceEqDiff, Nat.reduceAdd, Nat.reduceSub, Nat.reduceLT, Nat.reduceLeDiff, Nat.reduceMul, a16, a16l0, a16l1, rc_WaterConduit, rc_WaterNode, c43d, c284d, kN286, kN289, kN292, c294d, kN296, kN298, @x_loopAt]
        · dsimp only at h
          have kN296 := k16l0_0 z0 z1 (v41.length : Int) v41 v42 (0, ([] : List (ByteArray × Bool))) _ g295
          obtain ⟨N296, kN296⟩ := kN296
          cases h
          refine ev_call (fn := a16) rfl ⟨N286 + N289 + N292 + N296, fun n hn => ?_⟩
          have kN286 := kN286 n (by omega)
          try simp (maxSteps := 2000000) only [wn, rc_WaterConduit, rc_WaterNode] at kN286
          have kN289 := kN289 n (by omega)
          try simp (maxSteps := 2000000) only [wn, rc_WaterConduit, rc_WaterNode] at kN289
          have kN292 := kN292 n (by omega)
          try simp (maxSteps := 2000000) only [wn, rc_WaterConduit, rc_WaterNode] at kN292
          have kN296 := kN296 n (by omega)
          simp (maxSteps := 2000000) only [h16l0_0, q16l0_0, wn, rc_WaterConduit, rc_WaterNode] at kN296
          simp (maxSteps := 2000000) only [W, reduceIte, Nat.reduceEqDiff, Nat.reduceAdd, Nat.reduceSub, Nat.reduceLT, Nat.reduceLeDiff, Nat.reduceMul, a16, a16l0, a16l1, rc_WaterConduit, rc_WaterNode, c43d, c284d, kN286, kN289, kN292, c294d, kN296, @x_loopAt]
      · rw [if_neg c294] at h
        have c294d := df c294
        cases h
        refine ev_call (fn := a16) rfl ⟨N286 + N289 + N292, fun n hn => ?_⟩
        have kN286 := kN286 n (by omega)
        try simp (maxSteps := 2000000) only [wn, rc_WaterConduit, rc_WaterNode] at kN286
        have kN289 := kN289 n (by omega)
        try simp (maxSteps := 2000000) only [wn, rc_WaterConduit, rc_WaterNode] at kN289
        have kN292 := kN292 n (by omega)
        try simp (maxSteps := 2000000) only [wn, rc_WaterConduit, rc_WaterNode] at kN292
        simp (maxSteps := 2000000) only [W, reduceIte, Nat.reduceEqDiff, Nat.reduceAdd, Nat.reduceSub, Nat.reduceLT, Nat.reduceLeDiff, Nat.reduceMul, a16, a16l0, a16l1, rc_WaterConduit, rc_WaterNode, c43d, c284d, kN286, kN289, kN292, c294d, @x_loopAt]
    · rw [if_neg c284] at h
      have c284d := df c284
      obtain ⟨r305, g303, h⟩ := un1 h
      obtain ⟨N304, kN304⟩ := c72_0 (!(decide ((v42.length : Int) ≤ 0))) 10 _ g303
      obtain ⟨r308, g306, h⟩ := un1 h
      obtain ⟨N307, kN307⟩ := c72_0 false 8 _ g306
      obtain ⟨r311, g309, h⟩ := un1 h
      obtain ⟨N310, kN310⟩ := c71_0 true ([r305, r308] : List Int) _ g309
      by_cases c312 : r311 = 0
      · rw [if_pos c312] at h
        have c312d := dt c312
        obtain ⟨g313_, g313, h⟩ := un1 h
        rcases g313_ with _ | ⟨r319, r320⟩
        · dsimp only at h
          have kN314 := k16l0_0 z0 z1 (v41.length : Int) v41 v42 (0, ([] : List (ByteArray × Bool))) _ g313
          obtain ⟨N314, kN314⟩ := kN314
          obtain ⟨g315_, g315, h⟩ := un1 h
          rcases g315_ with _ | ⟨r317, r318⟩
          · dsimp only at h
            have kN316 := k16l1_0 z0 z1 (v42.length : Int) v41 v42 (0, ([] : List (ByteArray × Bool))) _ g315
            obtain ⟨N316, kN316⟩ := kN316
            cases h
            refine ev_call (fn := a16) rfl ⟨N304 + N307 + N310 + N314 + N316, fun n hn => ?_⟩
            have kN304 := kN304 n (by omega)
            try simp (maxSteps := 2000000) only [wn, rc_WaterConduit, rc_WaterNode] at kN304
            have kN307 := kN307 n (by omega)
            try simp (maxSteps := 2000000) only [wn, rc_WaterConduit, rc_WaterNode] at kN307
            have kN310 := kN310 n (by omega)
            try simp (maxSteps := 2000000) only [wn, rc_WaterConduit, rc_WaterNode] at kN310
            have kN314 := kN314 n (by omega)
            simp (maxSteps := 2000000) only [h16l0_0, q16l0_0, wn, rc_WaterConduit, rc_WaterNode] at kN314
            have kN316 := kN316 n (by omega)
            simp (maxSteps := 2000000) only [h16l1_0, q16l1_0, wn, rc_WaterConduit, rc_WaterNode] at kN316
            simp (maxSteps := 2000000) only [W, reduceIte, Nat.reduceEqDiff, Nat.reduceAdd, Nat.reduceSub, Nat.reduceLT, Nat.reduceLeDiff, Nat.reduceMul, a16, a16l0, a16l1, rc_WaterConduit, rc_WaterNode, c43d, c284d, kN304, kN307, kN310, c312d, kN314, kN316, @x_loopAt]
          · dsimp only at h
            have kN316 := k16l1_0 z0 z1 (v42.length : Int) v41 v42 (0, ([] : List (ByteArray × Bool))) _ g315
            obtain ⟨N316, kN316⟩ := kN316
            cases h
            refine ev_call (fn := a16) rfl ⟨N304 + N307 + N310 + N314 + N316, fun n hn => ?_⟩
            have kN304 := kN304 n (by omega)
            try simp (maxSteps := 2000000) only [wn, rc_WaterConduit, rc_WaterNode] at kN304
            have kN307 := kN307 n (by omega)
            try simp (maxSteps := 2000000) only [wn, rc_WaterConduit, rc_WaterNode] at kN307
            have kN310 := kN310 n (by omega)
            try simp (maxSteps := 2000000) only [wn, rc_WaterConduit, rc_WaterNode] at kN310
            have kN314 := kN314 n (by omega)
            simp (maxSteps := 2000000) only [h16l0_0, q16l0_0, wn, rc_WaterConduit, rc_WaterNode] at kN314
            have kN316 := kN316 n (by omega)
            simp (maxSteps := 2000000) only [h16l1_0, q16l1_0, wn, rc_WaterConduit, rc_WaterNode] at kN316
            simp (maxSteps := 2000000) only [W, reduceIte, Nat.reduceEqDiff, Nat.reduceAdd, Nat.reduceSub, Nat.reduceLT, Nat.reduceLeDiff, Nat.reduceMul, a16, a16l0, a16l1, rc_WaterConduit, rc_WaterNode, c43d, c284d, kN304, kN307, kN310, c312d, kN314, kN316, @x_loopAt]
        · dsimp only at h
          have kN314 := k16l0_0 z0 z1 (v41.length : Int) v41 v42 (0, ([] : List (ByteArray × Bool))) _ g313
          obtain ⟨N314, kN314⟩ := kN314
          cases h
          refine ev_call (fn := a16) rfl ⟨N304 + N307 + N310 + N314, fun n hn => ?_⟩
          have kN304 := kN304 n (by omega)
          try simp (maxSteps := 2000000) only [wn, rc_WaterConduit, rc_WaterNode] at kN304
          have kN307 := kN307 n (by omega)
          try simp (maxSteps := 2000000) only [wn, rc_WaterConduit, rc_WaterNode] at kN307
          have kN310 := kN310 n (by omega)
          try simp (maxSteps := 2000000) only [wn, rc_WaterConduit, rc_WaterNode] at kN310
          have kN314 := kN314 n (by omega)
          simp (maxSteps := 2000000) only [h16l0_0, q16l0_0, wn, rc_WaterConduit, rc_WaterNode] at kN314
          simp (maxSteps := 2000000) only [W, reduceIte, Nat.reduceEqDiff, Nat.reduceAdd, Nat.reduceSub, Nat.reduceLT, Nat.reduceLeDiff, Nat.reduceMul, a16, a16l0, a16l1, rc_WaterConduit, rc_WaterNode, c43d, c284d, kN304, kN307, kN310, c312d, kN314, @x_loopAt]
      · rw [if_neg c312] at h
        have c312d := df c312
        cases h
        refine ev_call (fn := a16) rfl ⟨N304 + N307 + N310, fun n hn => ?_⟩
        have kN304 := kN304 n (by omega)
        try simp (maxSteps := 2000000) only [wn, rc_WaterConduit, rc_WaterNode] at kN304
        have kN307 := kN307 n (by omega)
        try simp (maxSteps := 2000000) only [wn, rc_WaterConduit, rc_WaterNode] at kN307
        have kN310 := kN310 n (by omega)
        try simp (maxSteps := 2000000) only [wn, rc_WaterConduit, rc_WaterNode] at kN310
        simp (maxSteps := 2000000) only [W, reduceIte, Nat.reduceEqDiff, Nat.reduceAdd, Nat.reduceSub, Nat.reduceLT, Nat.reduceLeDiff, Nat.reduceMul, a16, a16l0, a16l1, rc_WaterConduit, rc_WaterNode, c43d, c284d, kN304, kN307, kN310, c312d, @x_loopAt]
end Go.AI
