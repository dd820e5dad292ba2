import Derived.Test.YtfglifekecijjaaEAiY
import Derived.Test.YtfglifekecijjaaEAiTab
import Derived.Test.YtfglifekecijjaaEAiAwake
import Derived.Test.YtfglifekecijjaaEWnF
import Derived.Test.YtfglifekecijjaaEWn1
section
/-
  Functions, walked through: water.CheckNet, water.loss, water.LossOf.
-/
set_option linter.unusedVariables false
set_option linter.unusedSimpArgs false
set_option maxRecDepth 100000
set_option maxHeartbeats 4000000
namespace Go.AI
theorem c16_0 (z0 : Bool) (z1 : Bool) (v41 : List WaterNode) (v42 : List WaterConduit) (r321 : Int) (r322 : Int) (h : F16_0 v41 v42 = some (r321, r322)) : Ev fun n => (ex tab n).call 16 [.agg [.slice 0 0 v41.length v41.length 4 false, .slice 1 0 v42.length v42.length 6 false]] [.row z0 true (rowC v41), .row z1 true (rowC v42)] = some (.tup [.int .i64 r321, .int .i64 r322], [.row z0 true (rowC v41), .row z1 true (rowC v42)]) := by
  unfold F16_0 at h
  by_cases c43 : (v41.length : Int) ≤ 0
  · rw [if_pos c43] at h
    have c43d := dt c43
    by_cases c44 : (v41.length : Int) ≤ 10
    · rw [if_pos c44] at h
      have c44d := dt c44
      obtain ⟨r51, g49, h⟩ := un1 h
      obtain ⟨N50, kN50⟩ := c72_0 false 10 _ g49
      obtain ⟨r54, g52, h⟩ := un1 h
      obtain ⟨N53, kN53⟩ := c72_0 (decide ((v42.length : Int) ≤ 14)) 8 _ g52
      obtain ⟨r71, g69, h⟩ := un1 h
      obtain ⟨N70, kN70⟩ := c71_0 true ([r51, r54] : List Int) _ g69
      by_cases c72 : r71 = 0
      · rw [if_pos c72] at h
        have c72d := dt c72
        obtain ⟨g170_, g170, h⟩ := un1 h
        rcases g170_ with _ | ⟨r264, r265⟩
        · dsimp only at h
          have kN171 := k16l0_0 z0 z1 (v41.length : Int) v41 v42 (0, ([] : List (ByteArray × Bool))) _ g170
          obtain ⟨N171, kN171⟩ := kN171
          obtain ⟨g260_, g260, h⟩ := un1 h
          rcases g260_ with _ | ⟨r262, r263⟩
          · dsimp only at h
            have kN261 := k16l1_0 z0 z1 (v42.length : Int) v41 v42 (0, ([] : List (ByteArray × Bool))) _ g260
            obtain ⟨N261, kN261⟩ := kN261
            cases h
            refine ev_call (fn := a16) rfl ⟨N50 + N53 + N70 + N171 + N261, fun n hn => ?_⟩
            have kN50 := kN50 n (by omega)
            try simp (maxSteps := 2000000) only [wn] at kN50
            have kN53 := kN53 n (by omega)
            try simp (maxSteps := 2000000) only [wn] at kN53
            have kN70 := kN70 n (by omega)
            try simp (maxSteps := 2000000) only [wn] at kN70
            have kN171 := kN171 n (by omega)
            simp (maxSteps := 2000000) only [h16l0_0, q16l0_0, wn, rc_WaterNode] at kN171
            have kN261 := kN261 n (by omega)
            simp (maxSteps := 2000000) only [h16l1_0, q16l1_0, wn, rc_WaterConduit, rc_WaterNode] at kN261
            simp (maxSteps := 2000000) only [W, reduceIte, Nat.reduceEqDiff, Nat.reduceAdd, Nat.reduceSub, Nat.reduceLT, Nat.reduceLeDiff, Nat.reduceMul, a16, a16l0, a16l1, rc_WaterConduit, rc_WaterNode, c43d, c44d, kN50, kN53, kN70, c72d, kN171, kN261, @x_loopAt]
          · dsimp only at h
            have kN261 := k16l1_0 z0 z1 (v42.length : Int) v41 v42 (0, ([] : List (ByteArray × Bool))) _ g260
            obtain ⟨N261, kN261⟩ := kN261
            cases h
            refine ev_call (fn := a16) rfl ⟨N50 + N53 + N70 + N171 + N261, fun n hn => ?_⟩
            have kN50 := kN50 n (by omega)
            try simp (maxSteps := 2000000) only [wn] at kN50
            have kN53 := kN53 n (by omega)
            try simp (maxSteps := 2000000) only [wn] at kN53
            have kN70 := kN70 n (by omega)
            try simp (maxSteps := 2000000) only [wn] at kN70
            have kN171 := kN171 n (by omega)
            simp (maxSteps := 2000000) only [h16l0_0, q16l0_0, wn, rc_WaterNode] at kN171
            have kN261 := kN261 n (by omega)
            simp (maxSteps := 2000000) only [h16l1_0, q16l1_0, wn, rc_WaterConduit, rc_WaterNode] at kN261
            simp (maxSteps := 2000000) only [W, reduceIte, Nat.reduceEqDiff, Nat.reduceAdd, Nat.reduceSub, Nat.reduceLT, Nat.reduceLeDiff, Nat.reduceMul, a16, a16l0, a16l1, rc_WaterConduit, rc_WaterNode, c43d, c44d, kN50, kN53, kN70, c72d, kN171, kN261, @x_loopAt]
        · dsimp only at h
          have kN171 := k16l0_0 z0 z1 (v41.length : Int) v41 v42 (0, ([] : List (ByteArray × Bool))) _ g170
          obtain ⟨N171, kN171⟩ := kN171
          cases h
          refine ev_call (fn := a16) rfl ⟨N50 + N53 + N70 + N171, fun n hn => ?_⟩
          have kN50 := kN50 n (by omega)
          try simp (maxSteps := 2000000) only [wn] at kN50
          have kN53 := kN53 n (by omega)
          try simp (maxSteps := 2000000) only [wn] at kN53
          have kN70 := kN70 n (by omega)
          try simp (maxSteps := 2000000) only [wn] at kN70
          have kN171 := kN171 n (by omega)
          simp (maxSteps := 2000000) only [h16l0_0, q16l0_0, wn, rc_WaterConduit, rc_WaterNode] at kN171
          simp (maxSteps := 2000000) only [W, reduceIte, Nat.reduceEqDiff, Nat.reduceAdd, Nat.reduceSub, Nat.reduceLT, Nat.reduceLeDiff, Nat.reduceMul, a16, a16l0, a16l1, rc_WaterConduit, rc_WaterNode, c43d, c44d, kN50, kN53, kN70, c72d, kN171, @x_loopAt]
      · rw [if_neg c72] at h
        have c72d := df c72
        cases h
        refine ev_call (fn := a16) rfl ⟨N50 + N53 + N70, fun n hn => ?_⟩
        have kN50 := kN50 n (by omega)
        try simp (maxSteps := 2000000) only [wn] at kN50
        have kN53 := kN53 n (by omega)
        try simp (maxSteps := 2000000) only [wn] at kN53
        have kN70 := kN70 n (by omega)
        try simp (maxSteps := 2000000) only [wn] at kN70
        simp (maxSteps := 2000000) only [W, reduceIte, Nat.reduceEqDiff, Nat.reduceAdd, Nat.reduceSub, Nat.reduceLT, Nat.reduceLeDiff, Nat.reduceMul, a16, a16l0, a16l1, rc_WaterConduit, rc_WaterNode, c43d, c44d, kN50, kN53, kN70, c72d, @x_loopAt]
    · rw [if_neg c44] at h
      have c44d := df c44
      obtain ⟨r268, g266, h⟩ := un1 h
      obtain ⟨N267, kN267⟩ := c72_0 false 10 _ g266
      obtain ⟨r271, g269, h⟩ := un1 h
      obtain ⟨N270, kN270⟩ := c72_0 false 8 _ g269
      obtain ⟨r274, g272, h⟩ := un1 h
      obtain ⟨N273, kN273⟩ := c71_0 true ([r268, r271] : List Int) _ g272
      by_cases c275 : r274 = 0
      · rw [if_pos c275] at h
        have c275d := dt c275
        obtain ⟨g276_, g276, h⟩ := un1 h
        rcases g276_ with _ | ⟨r282, r283⟩
        · dsimp only at h
          have kN277 := k16l0_0 z0 z1 (v41.length : Int) v41 v42 (0, ([] : List (ByteArray × Bool))) _ g276
          obtain ⟨N277, kN277⟩ := kN277
          obtain ⟨g278_, g278, h⟩ := un1 h
          rcases g278_ with _ | ⟨r280, r281⟩
          · dsimp only at h
            have kN279 := k16l1_0 z0 z1 (v42.length : Int) v41 v42 (0, ([] : List (ByteArray × Bool))) _ g278
            obtain ⟨N279, kN279⟩ := kN279
            cases h
            refine ev_call (fn := a16) rfl ⟨N267 + N270 + N273 + N277 + N279, fun n hn => ?_⟩
            have kN267 := kN267 n (by omega)
            try simp (maxSteps := 2000000) only [wn, rc_WaterConduit, rc_WaterNode] at kN267
            have kN270 := kN270 n (by omega)
            try simp (maxSteps := 2000000) only [wn, rc_WaterConduit, rc_WaterNode] at kN270
            have kN273 := kN273 n (by omega)
            try simp (maxSteps := 2000000) only [wn, rc_WaterConduit, rc_WaterNode] at kN273
            have kN277 := kN277 n (by omega)
            simp (maxSteps := 2000000) only [h16l0_0, q16l0_0, wn, rc_WaterConduit, rc_WaterNode] at kN277
            have kN279 := kN279 n (by omega)
            simp (maxSteps := 2000000) only [h16l1_0, q16l1_0, wn, rc_WaterConduit, rc_WaterNode] at kN279
            simp (maxSteps := 2000000) only [W, reduceIte, Nat.reduceEqDiff, Nat.reduceAdd, Nat.reduceSub, Nat.reduceLT, Nat.reduceLeDiff, Nat.reduceMul, a16, a16l0, a16l1, rc_WaterConduit, rc_WaterNode, c43d, c44d, kN267, kN270, kN273, c275d, kN277, kN279, @x_loopAt]
          · dsimp only at h
            have kN279 := k16l1_0 z0 z1 (v42.length : Int) v41 v42 (0, ([] : List (ByteArray × Bool))) _ g278
            obtain ⟨N279, kN279⟩ := kN279
            cases h
            refine ev_call (fn := a16) rfl ⟨N267 + N270 + N273 + N277 + N279, fun n hn => ?_⟩
            have kN267 := kN267 n (by omega)
            try simp (maxSteps := 2000000) only [wn, rc_WaterConduit, rc_WaterNode] at kN267
            have kN270 := kN270 n (by omega)
            try simp (maxSteps := 2000000) only [wn, rc_WaterConduit, rc_WaterNode] at kN270
            have kN273 := kN273 n (by omega)
            try simp (maxSteps := 2000000) only [wn, rc_WaterConduit, rc_WaterNode] at kN273
            have kN277 := kN277 n (by omega)
            simp (maxSteps := 2000000) only [h16l0_0, q16l0_0, wn, rc_WaterConduit, rc_WaterNode] at kN277
            have kN279 := kN279 n (by omega)
            simp (maxSteps := 2000000) only [h16l1_0, q16l1_0, wn, rc_WaterConduit, rc_WaterNode] at kN279
            simp (maxSteps := 2000000) only [W, reduceIte, Nat.reduceEqDiff, Nat.reduceAdd, Nat.reduceSub, Nat.reduceLT, Nat.reduceLeDiff, Nat.reduceMul, a16, a16l0, a16l1, rc_WaterConduit, rc_WaterNode, c43d, c44d, kN267, kN270, kN273, c275d, kN277, kN279, @x_loopAt]
        · dsimp only at h
          have kN277 := k16l0_0 z0 z1 (v41.length : Int) v41 v42 (0, ([] : List (ByteArray × Bool))) _ g276
          obtain ⟨N277, kN277⟩ := kN277
          cases h
          refine ev_call (fn := a16) rfl ⟨N267 + N270 + N273 + N277, fun n hn => ?_⟩
          have kN267 := kN267 n (by omega)
          try simp (maxSteps := 2000000) only [wn, rc_WaterConduit, rc_WaterNode] at kN267
          have kN270 := kN270 n (by omega)
          try simp (maxSteps := 2000000) only [wn, rc_WaterConduit, rc_WaterNode] at kN270
          have kN273 := kN273 n (by omega)
          try simp (maxSteps := 2000000) only [wn, rc_WaterConduit, rc_WaterNode] at kN273
          have kN277 := kN277 n (by omega)
          simp (maxSteps := 2000000) only [h16l0_0, q16l0_0, wn, rc_WaterConduit, rc_WaterNode] at kN277
          simp (maxSteps := 2000000) only [W, reduceIte, Nat.reduceEqDiff, Nat.reduceAdd, Nat.reduceSub, Nat.reduceLT, Nat.reduceLeDiff, Nat.reduceMul, a16, a16l0, a16l1, rc_WaterConduit, rc_WaterNode, c43d, c44d, kN267, kN270, kN273, c275d, kN277, @x_loopAt]
      · rw [if_neg c275] at h
        have c275d := df c275
        cases h
        refine ev_call (fn := a16) rfl ⟨N267 + N270 + N273, fun n hn => ?_⟩
        have kN267 := kN267 n (by omega)
        try simp (maxSteps := 2000000) only [wn, rc_WaterConduit, rc_WaterNode] at kN267
        have kN270 := kN270 n (by omega)
        try simp (maxSteps := 2000000) only [wn, rc_WaterConduit, rc_WaterNode] at kN270
        have kN273 := kN273 n (by omega)
        try simp (maxSteps := 2000000) only [wn, rc_WaterConduit, rc_WaterNode] at kN273
        simp (maxSteps := 2000000) only [W, reduceIte, Nat.reduceEqDiff, Nat.reduceAdd, Nat.reduceSub, Nat.reduceLT, Nat.reduceLeDiff, Nat.reduceMul, a16, a16l0, a16l1, rc_WaterConduit, rc_WaterNode, c43d, c44d, kN267, kN270, kN273, c275d, @x_loopAt]
  · rw [if_neg c43] at h
    have c43d := df c43
    by_cases c284 : (v41.length : Int) ≤ 10
    · rw [if_pos c284] at h
      have c284d := dt c284
      obtain ⟨r287, g285, h⟩ := un1 h
      obtain ⟨N286, kN286⟩ := c72_0 (!(decide ((v42.length : Int) ≤ 0))) 10 _ g285
      obtain ⟨r290, g288, h⟩ := un1 h
      obtain ⟨N289, kN289⟩ := c72_0 (decide ((v42.length : Int) ≤ 14)) 8 _ g288
      obtain ⟨r293, g291, h⟩ := un1 h
      obtain ⟨N292, kN292⟩ := c71_0 true ([r287, r290] : List Int) _ g291
      by_cases c294 : r293 = 0
      · rw [if_pos c294] at h
        have c294d := dt c294
        obtain ⟨g295_, g295, h⟩ := un1 h
        rcases g295_ with _ | ⟨r301, r302⟩
        · dsimp only at h
          have kN296 := k16l0_0 z0 z1 (v41.length : Int) v41 v42 (0, ([] : List (ByteArray × Bool))) _ g295
          obtain ⟨N296, kN296⟩ := kN296
          obtain ⟨g297_, g297, h⟩ := un1 h
          rcases g297_ with _ | ⟨r299, r300⟩
          · dsimp only at h
            have kN298 := k16l1_0 z0 z1 (v42.length : Int) v41 v42 (0, ([] : List (ByteArray × Bool))) _ g297
            obtain ⟨N298, kN298⟩ := kN298
            cases h
            refine ev_call (fn := a16) rfl ⟨N286 + N289 + N292 + N296 + N298, fun n hn => ?_⟩
            have kN286 := kN286 n (by omega)
            try simp (maxSteps := 2000000) only [wn, rc_WaterConduit, rc_WaterNode] at kN286
            have kN289 := kN289 n (by omega)
            try simp (maxSteps := 2000000) only [wn, rc_WaterConduit, rc_WaterNode] at kN289
            have kN292 := kN292 n (by omega)
            try simp (maxSteps := 2000000) only [wn, rc_WaterConduit, rc_WaterNode] at kN292
            have kN296 := kN296 n (by omega)
            simp (maxSteps := 2000000) only [h16l0_0, q16l0_0, wn, rc_WaterConduit, rc_WaterNode] at kN296
            have kN298 := kN298 n (by omega)
            simp (maxSteps := 2000000) only [h16l1_0, q16l1_0, wn, rc_WaterConduit, rc_WaterNode] at kN298
            simp (maxSteps := 2000000) only [W, reduceIte, Nat.reduceEqDiff, Nat.reduceAdd, Nat.reduceSub, Nat.reduceLT, Nat.reduceLeDiff, Nat.reduceMul, a16, a16l0, a16l1, rc_WaterConduit, rc_WaterNode, c43d, c284d, kN286, kN289, kN292, c294d, kN296, kN298, @x_loopAt]
          · dsimp only at h
            have kN298 := k16l1_0 z0 z1 (v42.length : Int) v41 v42 (0, ([] : List (ByteArray × Bool))) _ g297
            obtain ⟨N298, kN298⟩ := kN298
            cases h
            refine ev_call (fn := a16) rfl ⟨N286 + N289 + N292 + N296 + N298, fun n hn => ?_⟩
            have kN286 := kN286 n (by omega)
            try simp (maxSteps := 2000000) only [wn, rc_WaterConduit, rc_WaterNode] at kN286
            have kN289 := kN289 n (by omega)
            try simp (maxSteps := 2000000) only [wn, rc_WaterConduit, rc_WaterNode] at kN289
            have kN292 := kN292 n (by omega)
            try simp (maxSteps := 2000000) only [wn, rc_WaterConduit, rc_WaterNode] at kN292
            have kN296 := kN296 n (by omega)
            simp (maxSteps := 2000000) only [h16l0_0, q16l0_0, wn, rc_WaterConduit, rc_WaterNode] at kN296
            have kN298 := kN298 n (by omega)
            simp (maxSteps := 2000000) only [h16l1_0, q16l1_0, wn, rc_WaterConduit, rc_WaterNode] at kN298
            simp (maxSteps := 2000000) only [W, reduceIte, Nat.reduceEqDiff, Nat.reduceAdd, Nat.reduceSub, Nat.reduceLT, Nat.reduceLeDiff, Nat.reduceMul, a16, a16l0, a16l1, rc_WaterConduit, rc_WaterNode, c43d, c284d, kN286, kN289, kN292, c294d, kN296, kN298, @x_loopAt]
        · dsimp only at h
          have kN296 := k16l0_0 z0 z1 (v41.length : Int) v41 v42 (0, ([] : List (ByteArray × Bool))) _ g295
          obtain ⟨N296, kN296⟩ := kN296
          cases h
          refine ev_call (fn := a16) rfl ⟨N286 + N289 + N292 + N296, fun n hn => ?_⟩
          have kN286 := kN286 n (by omega)
          try simp (maxSteps := 2000000) only [wn, rc_WaterConduit, rc_WaterNode] at kN286
          have kN289 := kN289 n (by omega)
          try simp (maxSteps := 2000000) only [wn, rc_WaterConduit, rc_WaterNode] at kN289
          have kN292 := kN292 n (by omega)
          try simp (maxSteps := 2000000) only [wn, rc_WaterConduit, rc_WaterNode] at kN292
          have kN296 := kN296 n (by omega)
          simp (maxSteps := 2000000) only [h16l0_0, q16l0_0, wn, rc_WaterConduit, rc_WaterNode] at kN296
          simp (maxSteps := 2000000) only [W, reduceIte, Nat.reduceEqDiff, Nat.reduceAdd, Nat.reduceSub, Nat.reduceLT, Nat.reduceLeDiff, Nat.reduceMul, a16, a16l0, a16l1, rc_WaterConduit, rc_WaterNode, c43d, c284d, kN286, kN289, kN292, c294d, kN296, @x_loopAt]
      · rw [if_neg c294] at h
        have c294d := df c294
        cases h
        refine ev_call (fn := a16) rfl ⟨N286 + N289 + N292, fun n hn => ?_⟩
        have kN286 := kN286 n (by omega)
        try simp (maxSteps := 2000000) only [wn, rc_WaterConduit, rc_WaterNode] at kN286
        have kN289 := kN289 n (by omega)
        try simp (maxSteps := 2000000) only [wn, rc_WaterConduit, rc_WaterNode] at kN289
        have kN292 := kN292 n (by omega)
        try simp (maxSteps := 2000000) only [wn, rc_WaterConduit, rc_WaterNode] at kN292
        simp (maxSteps := 2000000) only [W, reduceIte, Nat.reduceEqDiff, Nat.reduceAdd, Nat.reduceSub, Nat.reduceLT, Nat.reduceLeDiff, Nat.reduceMul, a16, a16l0, a16l1, rc_WaterConduit, rc_WaterNode, c43d, c284d, kN286, kN289, kN292, c294d, @x_loopAt]
    · rw [if_neg c284] at h
      have c284d := df c284
      obtain ⟨r305, g303, h⟩ := un1 h
      obtain ⟨N304, kN304⟩ := c72_0 (!(decide ((v42.length : Int) ≤ 0))) 10 _ g303
      obtain ⟨r308, g306, h⟩ := un1 h
      obtain ⟨N307, kN307⟩ := c72_0 false 8 _ g306
      obtain ⟨r311, g309, h⟩ := un1 h
      obtain ⟨N310, kN310⟩ := c71_0 true ([r305, r308] : List Int) _ g309
      by_cases c312 : r311 = 0
      · rw [if_pos c312] at h
        have c312d := dt c312
        obtain ⟨g313_, g313, h⟩ := un1 h
        rcases g313_ with _ | ⟨r319, r320⟩
        · dsimp only at h
          have kN314 := k16l0_0 z0 z1 (v41.length : Int) v41 v42 (0, ([] : List (ByteArray × Bool))) _ g313
          obtain ⟨N314, kN314⟩ := kN314
          obtain ⟨g315_, g315, h⟩ := un1 h
          rcases g315_ with _ | ⟨r317, r318⟩
          · dsimp only at h
            have kN316 := k16l1_0 z0 z1 (v42.length : Int) v41 v42 (0, ([] : List (ByteArray × Bool))) _ g315
            obtain ⟨N316, kN316⟩ := kN316
            cases h
            refine ev_call (fn := a16) rfl ⟨N304 + N307 + N310 + N314 + N316, fun n hn => ?_⟩
            have kN304 := kN304 n (by omega)
            try simp (maxSteps := 2000000) only [wn, rc_WaterConduit, rc_WaterNode] at kN304
            have kN307 := kN307 n (by omega)
            try simp (maxSteps := 2000000) only [wn, rc_WaterConduit, rc_WaterNode] at kN307
            have kN310 := kN310 n (by omega)
            try simp (maxSteps := 2000000) only [wn, rc_WaterConduit, rc_WaterNode] at kN310
            have kN314 := kN314 n (by omega)
            simp (maxSteps := 2000000) only [h16l0_0, q16l0_0, wn, rc_WaterConduit, rc_WaterNode] at kN314
            have kN316 := kN316 n (by omega)
            simp (maxSteps := 2000000) only [h16l1_0, q16l1_0, wn, rc_WaterConduit, rc_WaterNode] at kN316
            simp (maxSteps := 2000000) only [W, reduceIte, Nat.reduceEqDiff, Nat.reduceAdd, Nat.reduceSub, Nat.reduceLT, Nat.reduceLeDiff, Nat.reduceMul, a16, a16l0, a16l1, rc_WaterConduit, rc_WaterNode, c43d, c284d, kN304, kN307, kN310, c312d, kN314, kN316, @x_loopAt]
          · dsimp only at h
            have kN316 := k16l1_0 z0 z1 (v42.length : Int) v41 v42 (0, ([] : List (ByteArray × Bool))) _ g315
            obtain ⟨N316, kN316⟩ := kN316
            cases h
            refine ev_call (fn := a16) rfl ⟨N304 + N307 + N310 + N314 + N316, fun n hn => ?_⟩
            have kN304 := kN304 n (by omega)
            try simp (maxSteps := 2000000) only [wn, rc_WaterConduit, rc_WaterNode] at kN304
            have kN307 := kN307 n (by omega)
            try simp (maxSteps := 2000000) only [wn, rc_WaterConduit, rc_WaterNode] at kN307
            have kN310 := kN310 n (by omega)
            try simp (maxSteps := 2000000) only [wn, rc_WaterConduit, rc_WaterNode] at kN310
            have kN314 := kN314 n (by omega)
            simp (maxSteps := 2000000) only [h16l0_0, q16l0_0, wn, rc_WaterConduit, rc_WaterNode] at kN314
            have kN316 := kN316 n (by omega)
            simp (maxSteps := 2000000) only [h16l1_0, q16l1_0, wn, rc_WaterConduit, rc_WaterNode] at kN316
            simp (maxSteps := 2000000) only [W, reduceIte, Nat.reduceEqDiff, Nat.reduceAdd, Nat.reduceSub, Nat.reduceLT, Nat.reduceLeDiff, Nat.reduceMul, a16, a16l0, a16l1, rc_WaterConduit, rc_WaterNode, c43d, c284d, kN304, kN307, kN310, c312d, kN314, kN316, @x_loopAt]
        · dsimp only at h
          have kN314 := k16l0_0 z0 z1 (v41.length : Int) v41 v42 (0, ([] : List (ByteArray × Bool))) _ g313
          obtain ⟨N314, kN314⟩ := kN314
          cases h
          refine ev_call (fn := a16) rfl ⟨N304 + N307 + N310 + N314, fun n hn => ?_⟩
          have kN304 := kN304 n (by omega)
          try simp (maxSteps := 2000000) only [wn, rc_WaterConduit, rc_WaterNode] at kN304
          have kN307 := kN307 n (by omega)
          try simp (maxSteps := 2000000) only [wn, rc_WaterConduit, rc_WaterNode] at kN307
          have kN310 := kN310 n (by omega)
          try simp (maxSteps := 2000000) only [wn, rc_WaterConduit, rc_WaterNode] at kN310
          have kN314 := kN314 n (by omega)
          simp (maxSteps := 2000000) only [h16l0_0, q16l0_0, wn, rc_WaterConduit, rc_WaterNode] at kN314
          simp (maxSteps := 2000000) only [W, reduceIte, Nat.reduceEqDiff, Nat.reduceAdd, Nat.reduceSub, Nat.reduceLT, Nat.reduceLeDiff, Nat.reduceMul, a16, a16l0, a16l1, rc_WaterConduit, rc_WaterNode, c43d, c284d, kN304, kN307, kN310, c312d, kN314, @x_loopAt]
      · rw [if_neg c312] at h
        have c312d := df c312
        cases h
        refine ev_call (fn := a16) rfl ⟨N304 + N307 + N310, fun n hn => ?_⟩
        have kN304 := kN304 n (by omega)
        try simp (maxSteps := 2000000) only [wn, rc_WaterConduit, rc_WaterNode] at kN304
        have kN307 := kN307 n (by omega)
        try simp (maxSteps := 2000000) only [wn, rc_WaterConduit, rc_WaterNode] at kN307
        have kN310 := kN310 n (by omega)
        try simp (maxSteps := 2000000) only [wn, rc_WaterConduit, rc_WaterNode] at kN310
        simp (maxSteps := 2000000) only [W, reduceIte, Nat.reduceEqDiff, Nat.reduceAdd, Nat.reduceSub, Nat.reduceLT, Nat.reduceLeDiff, Nat.reduceMul, a16, a16l0, a16l1, rc_WaterConduit, rc_WaterNode, c43d, c284d, kN304, kN307, kN310, c312d, @x_loopAt]
theorem c77_0 (v337 : Int) (v338 : Int) (r339 : Int) (h : F77_0 v337 v338 = some r339) : Ev fun n => (ex tab n).call 77 [.int .i64 v337, .int .i64 v338] [] = some (.int .i64 r339, []) := by
  unfold F77_0 at h
  cases h
  refine ev_call (fn := a77) rfl ⟨0, fun n hn => ?_⟩
  simp (maxSteps := 2000000) only [W, reduceIte, Nat.reduceEqDiff, Nat.reduceAdd, Nat.reduceSub, Nat.reduceLT, Nat.reduceLeDiff, Nat.reduceMul, a77]
end Go.AI
end
section
/-
  Functions, walked through: water.open, water.net).nodeErr, water.net).isOpen, water.net).reached, water.where, water.ReachedFrom, water.net).lakes, water.net).wet.
-/
set_option linter.unusedVariables false
set_option linter.unusedSimpArgs false
set_option maxRecDepth 100000
set_option maxHeartbeats 4000000
namespace Go.AI
theorem c87_0 (z0 : Bool) (z1 : Bool) (v961 : List WaterNode) (v962 : List WaterConduit) (r967 : Int) (h : F87_0 v961 v962 = some r967) : Ev fun n => (ex tab n).call 87 [.agg [.slice 0 0 v961.length v961.length 4 false, .slice 1 0 v962.length v962.length 6 false]] [.row z0 true (rowC v961), .row z1 true (rowC v962)] = some (.tup [.agg [.slice 0 0 v961.length v961.length 4 false, .slice 1 0 v962.length v962.length 6 false], .int .i64 r967], [.row z0 true (rowC v961), .row z1 true (rowC v962)]) := by
  unfold F87_0 at h
  obtain ⟨r965, r966, g963, h⟩ := un2 h
  obtain ⟨N964, kN964⟩ := c16_0 z0 z1 v961 v962 _ _ g963
  cases h
  refine ev_call (fn := a87) rfl ⟨N964, fun n hn => ?_⟩
  have kN964 := kN964 n (by omega)
  try simp (maxSteps := 2000000) only [wn, rc_WaterConduit, rc_WaterNode] at kN964
  simp (maxSteps := 2000000) only [W, reduceIte, Nat.reduceEqDiff, Nat.reduceAdd, Nat.reduceSub, Nat.reduceLT, Nat.reduceLeDiff, Nat.reduceMul, a87, rc_WaterConduit, rc_WaterNode, kN964]
noncomputable def h135l0_0 (z0 : Bool) (z1 : Bool) (v1099 : Int) (v1101 : List WaterNode) (v1102 : List WaterConduit) : (Int × (List Int)) → Env × Heap
  | (v1100, v1103) => ([(3, .slice 2 0 v1103.length v1103.length 1 false), (8, .slice 0 0 v1101.length v1101.length 4 false), (9, .int .i64 v1099), (10, .int .i64 v1100)], [.row z0 true (rowC v1101), .row z1 true (rowC v1102), .row true true (rowC v1103)])
noncomputable def q135l0_0 (z0 : Bool) (z1 : Bool) (v1099 : Int) (v1101 : List WaterNode) (v1102 : List WaterConduit) : ((List Int)) → AExit × Env × Heap
  | r1110 => (.exit 0, [(2, .undef), (3, .slice 2 0 r1110.length r1110.length 1 false)], [.row z0 true (rowC v1101), .row z1 true (rowC v1102), .row true true (rowC r1110)])
theorem k135l0_0 (z0 : Bool) (z1 : Bool) (v1099 : Int) (v1101 : List WaterNode) (v1102 : List WaterConduit) (s : Int × (List Int)) (o : (List Int)) (h : L135l0_0 v1099 v1101 v1102 s = some o) : Ev fun n => loopAt [3, 8, 9, 10] [2, 3] a135l0b (ex tab n) 2 (h135l0_0 z0 z1 v1099 v1101 v1102 s) = some (q135l0_0 z0 z1 v1099 v1101 v1102 o) := by
  refine iter_sound (S135l0_0 v1099 v1101 v1102) [3, 8, 9, 10] [2, 3] a135l0b 2 (h135l0_0 z0 z1 v1099 v1101 v1102) (q135l0_0 z0 z1 v1099 v1101 v1102) ?_ _ _ _ h
  rintro ⟨v1100, v1103⟩ z h
  simp only [S135l0_0] at h
  by_cases c1104 : v1099 ≤ v1100
  · rw [if_pos c1104] at h
    have c1104d := dt c1104
    cases h
    refine ⟨0, fun n hn => ?_⟩
    simp (maxSteps := 2000000) only [W, reduceIte, Nat.reduceEqDiff, Nat.reduceAdd, Nat.reduceSub, Nat.reduceLT, Nat.reduceLeDiff, Nat.reduceMul, h135l0_0, q135l0_0, a135l0b, rc_WaterNode, c1104d]
  · rw [if_neg c1104] at h
    have c1104d := df c1104
    obtain ⟨j1105, x1106, g1107, h⟩ := un2 h
    obtain ⟨g11071, g11072⟩ := geti_in g1107
    have g11073 := ac_WaterNode g11072
    try simp only [wn] at g11071
    by_cases c1108 : x1106.fLake = true
    · rw [if_pos c1108] at h
      have c1108d := c1108
      obtain ⟨g1109, h⟩ := un_roomd h
      cases h
      refine ⟨0, fun n hn => ?_⟩
      simp (maxSteps := 2000000) only [W, reduceIte, Nat.reduceEqDiff, Nat.reduceAdd, Nat.reduceSub, Nat.reduceLT, Nat.reduceLeDiff, Nat.reduceMul, h135l0_0, q135l0_0, a135l0b, rc_WaterNode, c1104d, g11071, g11073, c1108d, g1109]
    · rw [if_neg c1108] at h
      have c1108d := bf c1108
      cases h
      refine ⟨0, fun n hn => ?_⟩
      simp (maxSteps := 2000000) only [W, reduceIte, Nat.reduceEqDiff, Nat.reduceAdd, Nat.reduceSub, Nat.reduceLT, Nat.reduceLeDiff, Nat.reduceMul, h135l0_0, q135l0_0, a135l0b, rc_WaterNode, c1104d, g11071, g11073, c1108d]
theorem c135_0 (z0 : Bool) (z1 : Bool) (v1097 : List WaterNode) (v1098 : List WaterConduit) (r1114 : List Int) (h : F135_0 v1097 v1098 = some r1114) : Ev fun n => (ex tab n).call 135 [.agg [.slice 0 0 v1097.length v1097.length 4 false, .slice 1 0 v1098.length v1098.length 6 false]] [.row z0 true (rowC v1097), .row z1 true (rowC v1098)] = some (.slice 2 0 r1114.length r1114.length 1 false, [.row z0 true (rowC v1097), .row z1 true (rowC v1098), .row true true (rowC r1114)]) := by
  unfold F135_0 at h
  obtain ⟨r1113, g1111, h⟩ := un1 h
  have kN1112 := k135l0_0 z0 z1 (v1097.length : Int) v1097 v1098 (0, ([] : List Int)) _ g1111
  obtain ⟨N1112, kN1112⟩ := kN1112
  cases h
  refine ev_call (fn := a135) rfl ⟨N1112, fun n hn => ?_⟩
  have kN1112 := kN1112 n (by omega)
  simp (maxSteps := 2000000) only [h135l0_0, q135l0_0, wn, rc_WaterNode] at kN1112
  simp (maxSteps := 2000000) only [W, reduceIte, Nat.reduceEqDiff, Nat.reduceAdd, Nat.reduceSub, Nat.reduceLT, Nat.reduceLeDiff, Nat.reduceMul, a135, a135l0, rc_WaterNode, kN1112, @x_loopAt]
end Go.AI
end
section
/-
  Functions, walked through: water.WetIn, api.WaterConduit], water.net).turned, water.FilledBy, guidevaneref02.NetErr, guidevaneref02.NodeErr, guidevaneref02.reach, guidevaneref02.indexes, guidevaneref02.Reached.
-/
set_option linter.unusedVariables false
set_option linter.unusedSimpArgs false
set_option maxRecDepth 100000
set_option maxHeartbeats 4000000
namespace Go.AI
theorem c32_0 (z0 : Bool) (z1 : Bool) (v1233 : List WaterNode) (v1234 : List WaterConduit) (r1239 : Int) (h : F32_0 v1233 v1234 = some r1239) : Ev fun n => (ex tab n).call 32 [.agg [.slice 0 0 v1233.length v1233.length 4 false, .slice 1 0 v1234.length v1234.length 6 false]] [.row z0 true (rowC v1233), .row z1 true (rowC v1234)] = some (.int .i64 r1239, [.row z0 true (rowC v1233), .row z1 true (rowC v1234)]) := by
  unfold F32_0 at h
  obtain ⟨r1237, r1238, g1235, h⟩ := un2 h
  obtain ⟨N1236, kN1236⟩ := c19_0 z0 z1 v1233 v1234 _ _ g1235
  cases h
  refine ev_call (fn := a32) rfl ⟨N1236, fun n hn => ?_⟩
  have kN1236 := kN1236 n (by omega)
  try simp (maxSteps := 2000000) only [wn] at kN1236
  simp (maxSteps := 2000000) only [W, reduceIte, Nat.reduceEqDiff, Nat.reduceAdd, Nat.reduceSub, Nat.reduceLT, Nat.reduceLeDiff, Nat.reduceMul, a32, kN1236]
end Go.AI
end
section
/-
  Functions, walked through: guidevaneref02.Tree, guidevanebase.Has, guidevaneref02.Closing, guidevaneref02.FormErr.
-/
set_option linter.unusedVariables false
set_option linter.unusedSimpArgs false
set_option maxRecDepth 100000
set_option maxHeartbeats 4000000
namespace Go.AI
noncomputable def h137l0_0 (z0 : Bool) (z1 : Bool) (v1538 : List WaterNode) (v1539 : List WaterConduit) : (Int × Int × (List Bool)) → Env × Heap
  | (v1536, v1537, v1540) => ([(1, .ptr 2 0), (5, .slice 3 0 v1540.length v1540.length 1 false), (6, .int .i64 v1536), (7, .int .i64 v1537)], [.row z0 true (rowC v1538), .row z1 true (rowC v1539), .row true false [.slice 0 0 v1538.length v1538.length 4 false, .slice 1 0 v1539.length v1539.length 6 false], .row true true (rowC v1540)])
noncomputable def q137l0_0 (z0 : Bool) (z1 : Bool) (v1538 : List WaterNode) (v1539 : List WaterConduit) : (Int × (List Bool)) → AExit × Env × Heap
  | (r1551, r1552) => (.exit 0, [(1, .ptr 2 0), (2, .undef), (3, .undef), (4, .undef), (5, .slice 3 0 r1552.length r1552.length 1 false), (6, .int .i64 r1551)], [.row z0 true (rowC v1538), .row z1 true (rowC v1539), .row true false [.slice 0 0 v1538.length v1538.length 4 false, .slice 1 0 v1539.length v1539.length 6 false], .row true true (rowC r1552)])
theorem k137l0_0 (z0 : Bool) (z1 : Bool) (v1538 : List WaterNode) (v1539 : List WaterConduit) (s : Int × Int × (List Bool)) (o : Int × (List Bool)) (h : L137l0_0 v1538 v1539 s = some o) : Ev fun n => loopAt [1, 5, 6, 7] [1, 2, 3, 4, 5, 6] a137l0b (ex tab n) 2 (h137l0_0 z0 z1 v1538 v1539 s) = some (q137l0_0 z0 z1 v1538 v1539 o) := by
  refine iter_sound (S137l0_0 v1538 v1539) [1, 5, 6, 7] [1, 2, 3, 4, 5, 6] a137l0b 2 (h137l0_0 z0 z1 v1538 v1539) (q137l0_0 z0 z1 v1538 v1539) ?_ _ _ _ h
  rintro ⟨v1536, v1537, v1540⟩ z h
  simp only [S137l0_0] at h
  by_cases c1541 : (v1538.length : Int) ≤ v1537
  · rw [if_pos c1541] at h
    have c1541d := dt c1541
    cases h
    refine ⟨0, fun n hn => ?_⟩
    simp (maxSteps := 2000000) only [W, reduceIte, Nat.reduceEqDiff, Nat.reduceAdd, Nat.reduceSub, Nat.reduceLT, Nat.reduceLeDiff, Nat.reduceMul, h137l0_0, q137l0_0, a137l0b, rc_WaterNode, c1541d]
  · rw [if_neg c1541] at h
    have c1541d := df c1541
    obtain ⟨j1542, x1543, g1544, h⟩ := un2 h
    obtain ⟨g15441, g15442⟩ := geti_in g1544
    have g15443 := ac_WaterNode g15442
    try simp only [wn] at g15441
    obtain ⟨j1545, x1546, g1547, h⟩ := un2 h
    obtain ⟨g15471, g15472⟩ := geti_in g1547
    have g15473 := ac_Bool g15472
    try simp only [wn] at g15471
    obtain ⟨x1548, g1549, h⟩ := un1 h
    have g15493 := ac_Bool g1549
    by_cases c1550 : x1548 = true
    · rw [if_pos c1550] at h
      have c1550d := c1550
      cases h
      refine ⟨0, fun n hn => ?_⟩
      simp (maxSteps := 2000000) only [W, reduceIte, Nat.reduceEqDiff, Nat.reduceAdd, Nat.reduceSub, Nat.reduceLT, Nat.reduceLeDiff, Nat.reduceMul, h137l0_0, q137l0_0, a137l0b, rc_WaterNode, c1541d, g15441, g15443, g15471, g15473, g15493, c1550d]
    · rw [if_neg c1550] at h
      have c1550d := bf c1550
      cases h
      refine ⟨0, fun n hn => ?_⟩
      simp (maxSteps := 2000000) only [W, reduceIte, Nat.reduceEqDiff, Nat.reduceAdd, Nat.reduceSub, Nat.reduceLT, Nat.reduceLeDiff, Nat.reduceMul, h137l0_0, q137l0_0, a137l0b, rc_WaterNode, c1541d, g15441, g15443, g15471, g15473, g15493, c1550d]
noncomputable def h137l1_0 (z0 : Bool) (z1 : Bool) (v1565 : Int) (v1568 : List WaterNode) (v1569 : List WaterConduit) : (Bool × Int × (List Bool) × (List Int) × (List Int)) → Env × Heap
  | (v1566, v1567, v1570, v1571, v1572) => ([(1, .ptr 2 0), (5, .slice 3 0 v1570.length v1570.length 1 false), (6, .int .i64 v1565), (8, .slice 4 0 v1571.length v1571.length 1 false), (9, .slice 5 0 v1572.length v1572.length 1 false), (10, .bool v1566), (11, .int .i64 v1567)], [.row z0 true (rowC v1568), .row z1 true (rowC v1569), .row true false [.slice 0 0 v1568.length v1568.length 4 false, .slice 1 0 v1569.length v1569.length 6 false], .row true true (rowC v1570), .row true true (rowC v1571), .row true true (rowC v1572)])
noncomputable def q137l1_0 (z0 : Bool) (z1 : Bool) (v1565 : Int) (v1568 : List WaterNode) (v1569 : List WaterConduit) : (Bool × (List Bool) × (List Int) × (List Int)) → AExit × Env × Heap
  | (r1593, r1594, r1595, r1596) => (.exit 4, [(1, .ptr 2 0), (2, .undef), (3, .undef), (4, .undef), (5, .slice 3 0 r1594.length r1594.length 1 false), (6, .int .i64 v1565), (8, .slice 4 0 r1595.length r1595.length 1 false), (9, .slice 5 0 r1596.length r1596.length 1 false), (10, .bool r1593)], [.row z0 true (rowC v1568), .row z1 true (rowC v1569), .row true false [.slice 0 0 v1568.length v1568.length 4 false, .slice 1 0 v1569.length v1569.length 6 false], .row true true (rowC r1594), .row true true (rowC r1595), .row true true (rowC r1596)])
theorem k137l1_0 (z0 : Bool) (z1 : Bool) (v1565 : Int) (v1568 : List WaterNode) (v1569 : List WaterConduit) (s : Bool × Int × (List Bool) × (List Int) × (List Int)) (o : Bool × (List Bool) × (List Int) × (List Int)) (h : L137l1_0 v1565 v1568 v1569 s = some o) : Ev fun n => loopAt [1, 5, 6, 8, 9, 10, 11] [1, 2, 3, 4, 5, 6, 8, 9, 10] a137l1b (ex tab n) 2 (h137l1_0 z0 z1 v1565 v1568 v1569 s) = some (q137l1_0 z0 z1 v1565 v1568 v1569 o) := by
  refine iter_sound (S137l1_0 v1565 v1568 v1569) [1, 5, 6, 8, 9, 10, 11] [1, 2, 3, 4, 5, 6, 8, 9, 10] a137l1b 2 (h137l1_0 z0 z1 v1565 v1568 v1569) (q137l1_0 z0 z1 v1565 v1568 v1569) ?_ _ _ _ h
  rintro ⟨v1566, v1567, v1570, v1571, v1572⟩ z h
  simp only [S137l1_0] at h
  by_cases c1573 : (v1569.length : Int) ≤ v1567
  · rw [if_pos c1573] at h
    have c1573d := dt c1573
    cases h
    refine ⟨0, fun n hn => ?_⟩
    simp (maxSteps := 2000000) only [W, reduceIte, Nat.reduceEqDiff, Nat.reduceAdd, Nat.reduceSub, Nat.reduceLT, Nat.reduceLeDiff, Nat.reduceMul, h137l1_0, q137l1_0, a137l1b, rc_WaterConduit, c1573d, wd]
  · rw [if_neg c1573] at h
    have c1573d := df c1573
    by_cases c1574 : v1566 = true
    · rw [if_pos c1574] at h
      have c1574d := c1574
      cases h
      refine ⟨0, fun n hn => ?_⟩
      simp (maxSteps := 2000000) only [W, reduceIte, Nat.reduceEqDiff, Nat.reduceAdd, Nat.reduceSub, Nat.reduceLT, Nat.reduceLeDiff, Nat.reduceMul, h137l1_0, q137l1_0, a137l1b, rc_WaterConduit, c1573d, c1574d, wd]
    · rw [if_neg c1574] at h
      have c1574d := bf c1574
      obtain ⟨j1575, x1576, g1577, h⟩ := un2 h
      obtain ⟨g15771, g15772⟩ := geti_in g1577
      have g15773 := ac_WaterConduit g15772
      try simp only [wn] at g15771
      by_cases c1578 : x1576.fOpen = true
      · rw [if_pos c1578] at h
        have c1578d := c1578
        obtain ⟨j1579, x1580, g1581, h⟩ := un2 h
        obtain ⟨g15811, g15812⟩ := geti_in g1581
        have g15813 := ac_Bool g15812
        try simp only [wn] at g15811
        obtain ⟨j1582, x1583, g1584, h⟩ := un2 h
        obtain ⟨g15841, g15842⟩ := geti_in g1584
        have g15843 := ac_Bool g15842
        try simp only [wn] at g15841
        by_cases c1585 : (x1580 == x1583) = true
        · rw [if_pos c1585] at h
          have c1585d := c1585
          cases h
          refine ⟨0, fun n hn => ?_⟩
          simp (maxSteps := 2000000) only [W, reduceIte, Nat.reduceEqDiff, Nat.reduceAdd, Nat.reduceSub, Nat.reduceLT, Nat.reduceLeDiff, Nat.reduceMul, h137l1_0, q137l1_0, a137l1b, rc_WaterConduit, c1573d, c1574d, g15771, g15773, c1578d, g15811, g15813, g15841, g15843, c1585d, wd]
        · rw [if_neg c1585] at h
          have c1585d := bf c1585
          by_cases c1586 : x1583 = true
          · rw [if_pos c1586] at h
            have c1586d := c1586
            have d1587 : x1580 = false := beq_val2 c1585d c1586d
            obtain ⟨g1588, h⟩ := un_roomd h
            obtain ⟨g1589, h⟩ := un_roomd h
            cases h
            refine ⟨0, fun n hn => ?_⟩
            simp (maxSteps := 2000000) only [W, reduceIte, Nat.reduceEqDiff, Nat.reduceAdd, Nat.reduceSub, Nat.reduceLT, Nat.reduceLeDiff, Nat.reduceMul, h137l1_0, q137l1_0, a137l1b, rc_WaterConduit, c1573d, c1574d, g15771, g15773, c1578d, g15811, g15813, g15841, g15843, c1585d, c1586d, d1587, g1588, g1589, wd]
          · rw [if_neg c1586] at h
            have c1586d := bf c1586
            have d1590 : x1580 = true := beq_val2 c1585d c1586d
            obtain ⟨g1591, h⟩ := un_roomd h
            obtain ⟨g1592, h⟩ := un_roomd h
            cases h
            refine ⟨0, fun n hn => ?_⟩
            simp (maxSteps := 2000000) only [W, reduceIte, Nat.reduceEqDiff, Nat.reduceAdd, Nat.reduceSub, Nat.reduceLT, Nat.reduceLeDiff, Nat.reduceMul, h137l1_0, q137l1_0, a137l1b, rc_WaterConduit, c1573d, c1574d, g15771, g15773, c1578d, g15811, g15813, g15841, g15843, c1585d, c1586d, d1590, g1591, g1592, wd]
      · rw [if_neg c1578] at h
        have c1578d := bf c1578
        cases h
        refine ⟨0, fun n hn => ?_⟩
        simp (maxSteps := 2000000) only [W, reduceIte, Nat.reduceEqDiff, Nat.reduceAdd, Nat.reduceSub, Nat.reduceLT, Nat.reduceLeDiff, Nat.reduceMul, h137l1_0, q137l1_0, a137l1b, rc_WaterConduit, c1573d, c1574d, g15771, g15773, c1578d, wd]
noncomputable def h137l2_0 (z0 : Bool) (z1 : Bool) (v1557 : Int) (v1559 : List WaterNode) (v1560 : List WaterConduit) : (Bool × (List Bool) × (List Int) × (List Int)) → Env × Heap
  | (v1558, v1561, v1562, v1563) => ([(1, .ptr 2 0), (5, .slice 3 0 v1561.length v1561.length 1 false), (6, .int .i64 v1557), (8, .slice 4 0 v1562.length v1562.length 1 false), (9, .slice 5 0 v1563.length v1563.length 1 false), (10, .bool v1558)], [.row z0 true (rowC v1559), .row z1 true (rowC v1560), .row true false [.slice 0 0 v1559.length v1559.length 4 false, .slice 1 0 v1560.length v1560.length 6 false], .row true true (rowC v1561), .row true true (rowC v1562), .row true true (rowC v1563)])
noncomputable def q137l2_0 (z0 : Bool) (z1 : Bool) (v1557 : Int) (v1559 : List WaterNode) (v1560 : List WaterConduit) : ((List Int) × (List Int)) → AExit × Env × Heap
  | (r1603, r1604) => (.exit 2, [(2, .undef), (3, .undef), (4, .undef), (6, .int .i64 v1557), (8, .slice 2 0 r1603.length r1603.length 1 false), (9, .slice 3 0 r1604.length r1604.length 1 false)], [.row z0 true (rowC v1559), .row z1 true (rowC v1560), .row true true (rowC r1603), .row true true (rowC r1604)])
theorem k137l2_0 (z0 : Bool) (z1 : Bool) (v1557 : Int) (v1559 : List WaterNode) (v1560 : List WaterConduit) (s : Bool × (List Bool) × (List Int) × (List Int)) (o : (List Int) × (List Int)) (h : L137l2_0 v1557 v1559 v1560 s = some o) : Ev fun n => loopAt [1, 5, 6, 8, 9, 10] [2, 3, 4, 6, 8, 9] a137l2b (ex tab n) 2 (h137l2_0 z0 z1 v1557 v1559 v1560 s) = some (q137l2_0 z0 z1 v1557 v1559 v1560 o) := by
  refine iter_sound (S137l2_0 v1557 v1559 v1560) [1, 5, 6, 8, 9, 10] [2, 3, 4, 6, 8, 9] a137l2b 2 (h137l2_0 z0 z1 v1557 v1559 v1560) (q137l2_0 z0 z1 v1557 v1559 v1560) ?_ _ _ _ h
  rintro ⟨v1558, v1561, v1562, v1563⟩ z h
  simp only [S137l2_0] at h
  by_cases c1564 : v1558 = true
  · rw [if_pos c1564] at h
    have c1564d := c1564
    obtain ⟨r1599, r1600, r1601, r1602, g1597, h⟩ := un4 h
    have kN1598 := k137l1_0 z0 z1 v1557 v1559 v1560 (false, 0, v1561, v1562, v1563) _ g1597
    obtain ⟨N1598, kN1598⟩ := kN1598
    cases h
    refine ⟨N1598, fun n hn => ?_⟩
    have kN1598 := kN1598 n (by omega)
    simp (maxSteps := 2000000) only [h137l1_0, q137l1_0, wn, rc_WaterConduit] at kN1598
    simp (maxSteps := 2000000) only [W, reduceIte, Nat.reduceEqDiff, Nat.reduceAdd, Nat.reduceSub, Nat.reduceLT, Nat.reduceLeDiff, Nat.reduceMul, h137l2_0, q137l2_0, a137l1, a137l2b, rc_WaterConduit, c1564d, kN1598, @x_loopAt]
  · rw [if_neg c1564] at h
    have c1564d := bf c1564
    cases h
    refine ⟨0, fun n hn => ?_⟩
    simp (maxSteps := 2000000) only [W, reduceIte, Nat.reduceEqDiff, Nat.reduceAdd, Nat.reduceSub, Nat.reduceLT, Nat.reduceLeDiff, Nat.reduceMul, h137l2_0, q137l2_0, a137l1, a137l2b, rc_WaterConduit, c1564d, @x_loopAt]
theorem c137_0 (z0 : Bool) (z1 : Bool) (v1531 : List WaterNode) (v1532 : List WaterConduit) (r1609 : Bool) (r1610 : List Int) (r1611 : List Int) (h : F137_0 v1531 v1532 = some (r1609, r1610, r1611)) : Ev fun n => (ex tab n).call 137 [.agg [.slice 0 0 v1531.length v1531.length 4 false, .slice 1 0 v1532.length v1532.length 6 false]] [.row z0 true (rowC v1531), .row z1 true (rowC v1532)] = some (.tup [.slice 2 0 r1610.length r1610.length 1 false, .slice 3 0 r1611.length r1611.length 1 false, .bool r1609], [.row z0 true (rowC v1531), .row z1 true (rowC v1532), .row true true (rowC r1610), .row true true (rowC r1611)]) := by
  unfold F137_0 at h
  obtain ⟨n1533, g1534, h⟩ := un1 h
  try simp only [wn] at g1534
  obtain ⟨g1535, h⟩ := un_roomd h
  try simp only [Nat.reduceLeDiff] at g1535
  obtain ⟨r1555, r1556, g1553, h⟩ := un2 h
  have kN1554 := k137l0_0 z0 z1 v1531 v1532 (0, 0, (List.replicate n1533 false)) _ g1553
  obtain ⟨N1554, kN1554⟩ := kN1554
  obtain ⟨r1607, r1608, g1605, h⟩ := un2 h
  have kN1606 := k137l2_0 z0 z1 r1555 v1531 v1532 (true, r1556, ([] : List Int), ([] : List Int)) _ g1605
  obtain ⟨N1606, kN1606⟩ := kN1606
  cases h
  refine ev_call (fn := a137) rfl ⟨N1554 + N1606, fun n hn => ?_⟩
  have kN1554 := kN1554 n (by omega)
  simp (maxSteps := 2000000) only [h137l0_0, q137l0_0, wn, rc_WaterNode] at kN1554
  have kN1606 := kN1606 n (by omega)
  simp (maxSteps := 2000000) only [h137l2_0, q137l2_0, wn, rc_WaterConduit, rc_WaterNode] at kN1606
  simp (maxSteps := 2000000) only [W, reduceIte, Nat.reduceEqDiff, Nat.reduceAdd, Nat.reduceSub, Nat.reduceLT, Nat.reduceLeDiff, Nat.reduceMul, a137, a137l0, a137l2, rc_WaterConduit, rc_WaterNode, g1534, g1535, kN1554, kN1606, @x_loopAt]
noncomputable def h68l0_0 (z0 : Bool) (v1630 : Int) (v1632 : List Int) : (Int) → Env × Heap
  | v1631 => ([(0, .slice 0 0 v1632.length v1632.length 1 false), (1, .int .i64 v1630), (5, .int .i64 v1631)], [.row z0 true (rowC v1632)])
noncomputable def q68l0_0 (z0 : Bool) (v1630 : Int) (v1632 : List Int) : ((Unit) ⊕ (Unit)) → AExit × Env × Heap
  | .inl (_) => (.exit 0, [(4, .undef)], [.row z0 true (rowC v1632)])
  | .inr (_) => (.ret, [(4, .bool true)], [.row z0 true (rowC v1632)])
theorem k68l0_0 (z0 : Bool) (v1630 : Int) (v1632 : List Int) (s : Int) (o : (Unit) ⊕ (Unit)) (h : L68l0_0 v1630 v1632 s = some o) : Ev fun n => loopAt [0, 1, 5] [4] a68l0b (ex tab n) 1 (h68l0_0 z0 v1630 v1632 s) = some (q68l0_0 z0 v1630 v1632 o) := by
  refine iter_sound (S68l0_0 v1630 v1632) [0, 1, 5] [4] a68l0b 1 (h68l0_0 z0 v1630 v1632) (q68l0_0 z0 v1630 v1632) ?_ _ _ _ h
  rintro v1631 z h
  simp only [S68l0_0] at h
  by_cases c1633 : (v1632.length : Int) ≤ v1631
  · rw [if_pos c1633] at h
    have c1633d := dt c1633
    cases h
    refine ⟨0, fun n hn => ?_⟩
    simp (maxSteps := 2000000) only [W, reduceIte, Nat.reduceEqDiff, Nat.reduceAdd, Nat.reduceSub, Nat.reduceLT, Nat.reduceLeDiff, Nat.reduceMul, h68l0_0, q68l0_0, a68l0b, c1633d]
  · rw [if_neg c1633] at h
    have c1633d := df c1633
    obtain ⟨j1634, x1635, g1636, h⟩ := un2 h
    obtain ⟨g16361, g16362⟩ := geti_in g1636
    have g16363 := ac_Int g16362
    try simp only [wn] at g16361
    by_cases c1637 : x1635 = v1630
    · rw [if_pos c1637] at h
      have c1637d := dt c1637
      cases h
      refine ⟨0, fun n hn => ?_⟩
      simp (maxSteps := 2000000) only [W, reduceIte, Nat.reduceEqDiff, Nat.reduceAdd, Nat.reduceSub, Nat.reduceLT, Nat.reduceLeDiff, Nat.reduceMul, h68l0_0, q68l0_0, a68l0b, c1633d, g16361, g16363, c1637d]
    · rw [if_neg c1637] at h
      have c1637d := df c1637
      cases h
      refine ⟨0, fun n hn => ?_⟩
      simp (maxSteps := 2000000) only [W, reduceIte, Nat.reduceEqDiff, Nat.reduceAdd, Nat.reduceSub, Nat.reduceLT, Nat.reduceLeDiff, Nat.reduceMul, h68l0_0, q68l0_0, a68l0b, c1633d, g16361, g16363, c1637d]
theorem c68_0 (z0 : Bool) (v1628 : Int) (v1629 : List Int) (r1640 : Bool) (h : F68_0 v1628 v1629 = some r1640) : Ev fun n => (ex tab n).call 68 [.slice 0 0 v1629.length v1629.length 1 false, .int .i64 v1628] [.row z0 true (rowC v1629)] = some (.bool r1640, [.row z0 true (rowC v1629)]) := by
  unfold F68_0 at h
  obtain ⟨g1638_, g1638, h⟩ := un1 h
  rcases g1638_ with _ | _
  · dsimp only at h
    have kN1639 := k68l0_0 z0 v1628 v1629 0 _ g1638
    obtain ⟨N1639, kN1639⟩ := kN1639
    cases h
    refine ev_call (fn := a68) rfl ⟨N1639, fun n hn => ?_⟩
    have kN1639 := kN1639 n (by omega)
    simp (maxSteps := 2000000) only [h68l0_0, q68l0_0, wn] at kN1639
    simp (maxSteps := 2000000) only [W, reduceIte, Nat.reduceEqDiff, Nat.reduceAdd, Nat.reduceSub, Nat.reduceLT, Nat.reduceLeDiff, Nat.reduceMul, a68, a68l0, kN1639, @x_loopAt]
  · dsimp only at h
    have kN1639 := k68l0_0 z0 v1628 v1629 0 _ g1638
    obtain ⟨N1639, kN1639⟩ := kN1639
    cases h
    refine ev_call (fn := a68) rfl ⟨N1639, fun n hn => ?_⟩
    have kN1639 := kN1639 n (by omega)
    simp (maxSteps := 2000000) only [h68l0_0, q68l0_0, wn] at kN1639
    simp (maxSteps := 2000000) only [W, reduceIte, Nat.reduceEqDiff, Nat.reduceAdd, Nat.reduceSub, Nat.reduceLT, Nat.reduceLeDiff, Nat.reduceMul, a68, a68l0, kN1639, @x_loopAt]
noncomputable def h97l0_0 (z0 : Bool) (z1 : Bool) (v1620 : List WaterNode) (v1621 : List WaterConduit) (v1622 : List Int) : (Int × Int) → Env × Heap
  | (v1618, v1619) => ([(1, .ptr 2 0), (4, .slice 3 0 v1622.length v1622.length 1 false), (7, .int .i64 v1618), (8, .int .i64 v1619)], [.row z0 true (rowC v1620), .row z1 true (rowC v1621), .row true false [.slice 0 0 v1620.length v1620.length 4 false, .slice 1 0 v1621.length v1621.length 6 false], .row true true (rowC v1622)])
noncomputable def q97l0_0 (z0 : Bool) (z1 : Bool) (v1620 : List WaterNode) (v1621 : List WaterConduit) (v1622 : List Int) : ((Int) ⊕ (Int)) → AExit × Env × Heap
  | .inl (r1646) => (.exit 0, [(2, .undef), (3, .undef), (7, .int .i64 r1646)], [.row z0 true (rowC v1620), .row z1 true (rowC v1621)])
  | .inr (r1647) => (.ret, [(2, .int .i64 (-1)), (3, .int .i64 8), (7, .int .i64 r1647)], [.row z0 true (rowC v1620), .row z1 true (rowC v1621)])
theorem k97l0_0 (z0 : Bool) (z1 : Bool) (v1620 : List WaterNode) (v1621 : List WaterConduit) (v1622 : List Int) (s : Int × Int) (o : (Int) ⊕ (Int)) (h : L97l0_0 v1620 v1621 v1622 s = some o) : Ev fun n => loopAt [1, 4, 7, 8] [2, 3, 7] a97l0b (ex tab n) 2 (h97l0_0 z0 z1 v1620 v1621 v1622 s) = some (q97l0_0 z0 z1 v1620 v1621 v1622 o) := by
  refine iter_sound (S97l0_0 v1620 v1621 v1622) [1, 4, 7, 8] [2, 3, 7] a97l0b 2 (h97l0_0 z0 z1 v1620 v1621 v1622) (q97l0_0 z0 z1 v1620 v1621 v1622) ?_ _ _ _ h
  rintro ⟨v1618, v1619⟩ z h
  simp only [S97l0_0] at h
  by_cases c1623 : (v1621.length : Int) ≤ v1619
  · rw [if_pos c1623] at h
    have c1623d := dt c1623
    cases h
    refine ⟨0, fun n hn => ?_⟩
    simp (maxSteps := 2000000) only [W, reduceIte, Nat.reduceEqDiff, Nat.reduceAdd, Nat.reduceSub, Nat.reduceLT, Nat.reduceLeDiff, Nat.reduceMul, h97l0_0, q97l0_0, a97l0b, rc_WaterConduit, c1623d]
  · rw [if_neg c1623] at h
    have c1623d := df c1623
    obtain ⟨j1624, x1625, g1626, h⟩ := un2 h
    obtain ⟨g16261, g16262⟩ := geti_in g1626
    have g16263 := ac_WaterConduit g16262
    try simp only [wn] at g16261
    by_cases c1627 : x1625.fOpen = true
    · rw [if_pos c1627] at h
      have c1627d := c1627
      obtain ⟨r1643, g1641, h⟩ := un1 h
      obtain ⟨N1642, kN1642⟩ := c68_0 true v1619 v1622 _ g1641
      by_cases c1644 : r1643 = true
      · rw [if_pos c1644] at h
        have c1644d := c1644
        cases h
        refine ⟨N1642, fun n hn => ?_⟩
        have kN1642 := kN1642 n (by omega)
        try simp (maxSteps := 2000000) only [wn, rc_WaterConduit, c1627d] at kN1642
        simp (maxSteps := 2000000) only [W, reduceIte, Nat.reduceEqDiff, Nat.reduceAdd, Nat.reduceSub, Nat.reduceLT, Nat.reduceLeDiff, Nat.reduceMul, h97l0_0, q97l0_0, a97l0b, rc_WaterConduit, c1623d, g16261, g16263, c1627d, kN1642, c1644d]
      · rw [if_neg c1644] at h
        have c1644d := bf c1644
        by_cases c1645 : 0 ≤ v1618
        · rw [if_pos c1645] at h
          have c1645d := dt c1645
          cases h
          refine ⟨N1642, fun n hn => ?_⟩
          have kN1642 := kN1642 n (by omega)
          try simp (maxSteps := 2000000) only [wn, rc_WaterConduit, c1627d] at kN1642
          simp (maxSteps := 2000000) only [W, reduceIte, Nat.reduceEqDiff, Nat.reduceAdd, Nat.reduceSub, Nat.reduceLT, Nat.reduceLeDiff, Nat.reduceMul, h97l0_0, q97l0_0, a97l0b, rc_WaterConduit, c1623d, g16261, g16263, c1627d, kN1642, c1644d, c1645d]
        · rw [if_neg c1645] at h
          have c1645d := df c1645
          cases h
          refine ⟨N1642, fun n hn => ?_⟩
          have kN1642 := kN1642 n (by omega)
          try simp (maxSteps := 2000000) only [wn, rc_WaterConduit, c1627d] at kN1642
          simp (maxSteps := 2000000) only [W, reduceIte, Nat.reduceEqDiff, Nat.reduceAdd, Nat.reduceSub, Nat.reduceLT, Nat.reduceLeDiff, Nat.reduceMul, h97l0_0, q97l0_0, a97l0b, rc_WaterConduit, c1623d, g16261, g16263, c1627d, kN1642, c1644d, c1645d]
    · rw [if_neg c1627] at h
      have c1627d := bf c1627
      cases h
      refine ⟨0, fun n hn => ?_⟩
      simp (maxSteps := 2000000) only [W, reduceIte, Nat.reduceEqDiff, Nat.reduceAdd, Nat.reduceSub, Nat.reduceLT, Nat.reduceLeDiff, Nat.reduceMul, h97l0_0, q97l0_0, a97l0b, rc_WaterConduit, c1623d, g16261, g16263, c1627d]
theorem c97_0 (z0 : Bool) (z1 : Bool) (v1529 : List WaterNode) (v1530 : List WaterConduit) (r1652 : Int) (r1653 : Int) (h : F97_0 v1529 v1530 = some (r1652, r1653)) : Ev fun n => (ex tab n).call 97 [.agg [.slice 0 0 v1529.length v1529.length 4 false, .slice 1 0 v1530.length v1530.length 6 false]] [.row z0 true (rowC v1529), .row z1 true (rowC v1530)] = some (.tup [.int .i64 r1652, .int .i64 r1653], [.row z0 true (rowC v1529), .row z1 true (rowC v1530)]) := by
  unfold F97_0 at h
  obtain ⟨r1614, r1615, r1616, g1612, h⟩ := un3 h
  obtain ⟨N1613, kN1613⟩ := c137_0 z0 z1 v1529 v1530 _ _ _ g1612
  by_cases c1617 : r1614 = true
  · rw [if_pos c1617] at h
    have c1617d := c1617
    obtain ⟨g1648_, g1648, h⟩ := un1 h
    rcases g1648_ with r1650 | r1651
    · dsimp only at h
      have kN1649 := k97l0_0 z0 z1 v1529 v1530 r1615 ((-1), 0) _ g1648
      obtain ⟨N1649, kN1649⟩ := kN1649
      cases h
      refine ev_call (fn := a97) rfl ⟨N1613 + N1649, fun n hn => ?_⟩
      have kN1613 := kN1613 n (by omega)
      try simp (maxSteps := 2000000) only [wn] at kN1613
      have kN1649 := kN1649 n (by omega)
      simp (maxSteps := 2000000) only [h97l0_0, q97l0_0, wn, rc_WaterConduit] at kN1649
      simp (maxSteps := 2000000) only [W, reduceIte, Nat.reduceEqDiff, Nat.reduceAdd, Nat.reduceSub, Nat.reduceLT, Nat.reduceLeDiff, Nat.reduceMul, a97, a97l0, rc_WaterConduit, kN1613, c1617d, kN1649, @x_loopAt]
    · dsimp only at h
      have kN1649 := k97l0_0 z0 z1 v1529 v1530 r1615 ((-1), 0) _ g1648
      obtain ⟨N1649, kN1649⟩ := kN1649
      cases h
      refine ev_call (fn := a97) rfl ⟨N1613 + N1649, fun n hn => ?_⟩
      have kN1613 := kN1613 n (by omega)
      try simp (maxSteps := 2000000) only [wn] at kN1613
      have kN1649 := kN1649 n (by omega)
      simp (maxSteps := 2000000) only [h97l0_0, q97l0_0, wn, rc_WaterConduit] at kN1649
      simp (maxSteps := 2000000) only [W, reduceIte, Nat.reduceEqDiff, Nat.reduceAdd, Nat.reduceSub, Nat.reduceLT, Nat.reduceLeDiff, Nat.reduceMul, a97, a97l0, rc_WaterConduit, kN1613, c1617d, kN1649, @x_loopAt]
  · rw [if_neg c1617] at h
    have c1617d := bf c1617
    cases h
    refine ev_call (fn := a97) rfl ⟨N1613, fun n hn => ?_⟩
    have kN1613 := kN1613 n (by omega)
    try simp (maxSteps := 2000000) only [wn] at kN1613
    simp (maxSteps := 2000000) only [W, reduceIte, Nat.reduceEqDiff, Nat.reduceAdd, Nat.reduceSub, Nat.reduceLT, Nat.reduceLeDiff, Nat.reduceMul, a97, a97l0, rc_WaterConduit, kN1613, c1617d, @x_loopAt]
theorem c38_0 (z0 : Bool) (z1 : Bool) (v1523 : List WaterNode) (v1524 : List WaterConduit) (r1658 : Int) (h : F38_0 v1523 v1524 = some r1658) : Ev fun n => (ex tab n).call 38 [.agg [.slice 0 0 v1523.length v1523.length 4 false, .slice 1 0 v1524.length v1524.length 6 false]] [.row z0 true (rowC v1523), .row z1 true (rowC v1524)] = some (.int .i64 r1658, [.row z0 true (rowC v1523), .row z1 true (rowC v1524)]) := by
  unfold F38_0 at h
  obtain ⟨r1527, g1525, h⟩ := un1 h
  obtain ⟨N1526, kN1526⟩ := c32_0 z0 z1 v1523 v1524 _ g1525
  by_cases c1528 : r1527 = 0
  · rw [if_pos c1528] at h
    have c1528d := dt c1528
    obtain ⟨r1656, r1657, g1654, h⟩ := un2 h
    obtain ⟨N1655, kN1655⟩ := c97_0 z0 z1 v1523 v1524 _ _ g1654
    cases h
    refine ev_call (fn := a38) rfl ⟨N1526 + N1655, fun n hn => ?_⟩
    have kN1526 := kN1526 n (by omega)
    try simp (maxSteps := 2000000) only [wn] at kN1526
    have kN1655 := kN1655 n (by omega)
    try simp (maxSteps := 2000000) only [wn] at kN1655
    simp (maxSteps := 2000000) only [W, reduceIte, Nat.reduceEqDiff, Nat.reduceAdd, Nat.reduceSub, Nat.reduceLT, Nat.reduceLeDiff, Nat.reduceMul, a38, kN1526, c1528d, kN1655]
  · rw [if_neg c1528] at h
    have c1528d := df c1528
    cases h
    refine ev_call (fn := a38) rfl ⟨N1526, fun n hn => ?_⟩
    have kN1526 := kN1526 n (by omega)
    try simp (maxSteps := 2000000) only [wn] at kN1526
    simp (maxSteps := 2000000) only [W, reduceIte, Nat.reduceEqDiff, Nat.reduceAdd, Nat.reduceSub, Nat.reduceLT, Nat.reduceLeDiff, Nat.reduceMul, a38, kN1526, c1528d]
noncomputable def h151l0_0 (z0 : Bool) (z1 : Bool) (v1717 : Int) (v1719 : List WaterNode) (v1720 : List WaterConduit) (v1722 : List WaterNode) (v1723 : List WaterConduit) (v1724 : List Branch) (v1726 : List Branch) (v1728 : List Int) : (Int × (List Bool)) → Env × Heap
  | (v1718, v1727) => ([(1, .ptr 2 0), (2, .ptr 3 0), (4, .ptr 7 0), (5, .ptr 9 0), (19, .slice 11 0 v1728.length v1728.length 1 false), (20, .int .i64 v1717), (21, .int .i64 v1718)], [.row z0 true (rowC v1719), .row z1 true (rowC v1720), .row true false [.slice 0 0 v1719.length v1719.length 4 false, .slice 1 0 v1720.length v1720.length 6 false], .row true false [.slice 4 0 v1722.length v1722.length 4 false, .slice 5 0 v1723.length v1723.length 6 false, .slice 6 0 v1724.length v1724.length 2 false, .int .i64 0], .row true true (rowC v1722), .row true true (rowC v1723), .row true true (rowC v1724), .row true false [.slice 0 0 v1719.length v1719.length 4 false, .slice 1 0 v1720.length v1720.length 6 false, .slice 8 0 v1726.length v1726.length 2 false, .int .i64 (-1)], .row true true (rowC v1726), .row true false [.slice 10 0 v1727.length v1727.length 1 true], .row true true (rowC v1727), .row true true (rowC v1728)])
noncomputable def q151l0_0 (z0 : Bool) (z1 : Bool) (v1717 : Int) (v1719 : List WaterNode) (v1720 : List WaterConduit) (v1722 : List WaterNode) (v1723 : List WaterConduit) (v1724 : List Branch) (v1726 : List Branch) (v1728 : List Int) : ((List Bool)) → AExit × Env × Heap
  | r1736 => (.exit 0, [(1, .ptr 2 0), (2, .ptr 3 0), (3, .undef), (4, .ptr 7 0), (5, .ptr 9 0)], [.row z0 true (rowC v1719), .row z1 true (rowC v1720), .row true false [.slice 0 0 v1719.length v1719.length 4 false, .slice 1 0 v1720.length v1720.length 6 false], .row true false [.slice 4 0 v1722.length v1722.length 4 false, .slice 5 0 v1723.length v1723.length 6 false, .slice 6 0 v1724.length v1724.length 2 false, .int .i64 0], .row true true (rowC v1722), .row true true (rowC v1723), .row true true (rowC v1724), .row true false [.slice 0 0 v1719.length v1719.length 4 false, .slice 1 0 v1720.length v1720.length 6 false, .slice 8 0 v1726.length v1726.length 2 false, .int .i64 (-1)], .row true true (rowC v1726), .row true false [.slice 10 0 r1736.length r1736.length 1 true], .row true true (rowC r1736)])
theorem k151l0_0 (z0 : Bool) (z1 : Bool) (v1717 : Int) (v1719 : List WaterNode) (v1720 : List WaterConduit) (v1722 : List WaterNode) (v1723 : List WaterConduit) (v1724 : List Branch) (v1726 : List Branch) (v1728 : List Int) (s : Int × (List Bool)) (o : (List Bool)) (h : L151l0_0 v1717 v1719 v1720 v1722 v1723 v1724 v1726 v1728 s = some o) : Ev fun n => loopAt [1, 2, 4, 5, 19, 20, 21] [1, 2, 3, 4, 5] a151l0b (ex tab n) 2 (h151l0_0 z0 z1 v1717 v1719 v1720 v1722 v1723 v1724 v1726 v1728 s) = some (q151l0_0 z0 z1 v1717 v1719 v1720 v1722 v1723 v1724 v1726 v1728 o) := by
  refine iter_sound (S151l0_0 v1717 v1719 v1720 v1722 v1723 v1724 v1726 v1728) [1, 2, 4, 5, 19, 20, 21] [1, 2, 3, 4, 5] a151l0b 2 (h151l0_0 z0 z1 v1717 v1719 v1720 v1722 v1723 v1724 v1726 v1728) (q151l0_0 z0 z1 v1717 v1719 v1720 v1722 v1723 v1724 v1726 v1728) ?_ _ _ _ h
  rintro ⟨v1718, v1727⟩ z h
  simp only [S151l0_0] at h
  by_cases c1729 : v1717 ≤ v1718
  · rw [if_pos c1729] at h
    have c1729d := dt c1729
    cases h
    refine ⟨0, fun n hn => ?_⟩
    simp (maxSteps := 2000000) only [W, reduceIte, Nat.reduceEqDiff, Nat.reduceAdd, Nat.reduceSub, Nat.reduceLT, Nat.reduceLeDiff, Nat.reduceMul, h151l0_0, q151l0_0, a151l0b, c1729d]
  · rw [if_neg c1729] at h
    have c1729d := df c1729
    obtain ⟨j1730, x1731, g1732, h⟩ := un2 h
    obtain ⟨g17321, g17322⟩ := geti_in g1732
    have g17323 := ac_Int g17322
    try simp only [wn] at g17321
    obtain ⟨j1733, x1734, g1735, h⟩ := un2 h
    obtain ⟨g17351, g17352⟩ := geti_in g1735
    have g17353 := ac_Bool g17352
    try simp only [wn] at g17351
    cases h
    refine ⟨0, fun n hn => ?_⟩
    simp (maxSteps := 2000000) only [W, reduceIte, Nat.reduceEqDiff, Nat.reduceAdd, Nat.reduceSub, Nat.reduceLT, Nat.reduceLeDiff, Nat.reduceMul, h151l0_0, q151l0_0, a151l0b, c1729d, g17321, g17323, g17351, g17353]
end Go.AI
end
section
/-
  Functions, walked through: water.net).grow$1, api.WaterConduit], slices.Index[[]bool,bool], slices.Contains[[]bool,bool], water.net).grow, water.net).closed$1, water.branch], water.branch].
-/
set_option linter.unusedVariables false
set_option linter.unusedSimpArgs false
set_option maxRecDepth 100000
set_option maxHeartbeats 4000000
namespace Go.AI
theorem c159_0 (z0 : Bool) (z1 : Bool) (v1759 : ByteArray) (v1760 : Int) (v1761 : Int) (v1762 : Int) (v1763 : Bool) (v1764 : Bool) (v1765 : List Bool) (r1773 : Bool) (h : F159_0 v1759 v1760 v1761 v1762 v1763 v1764 v1765 = some r1773) : Ev fun n => (ex tab n).call 159 [.agg [.str v1759, .int .i64 v1760, .int .i64 v1761, .int .i64 v1762, .bool v1763, .bool v1764], .ptr 0 0] [.row z0 false [.slice 1 0 v1765.length v1765.length 1 true], .row z1 true (rowC v1765)] = some (.bool r1773, [.row z0 false [.slice 1 0 v1765.length v1765.length 1 true], .row z1 true (rowC v1765)]) := by
  unfold F159_0 at h
  by_cases c1766 : v1764 = true
  · rw [if_pos c1766] at h
    have c1766d := c1766
    obtain ⟨j1767, x1768, g1769, h⟩ := un2 h
    obtain ⟨g17691, g17692⟩ := geti_in g1769
    have g17693 := ac_Bool g17692
    try simp only [wn] at g17691
    obtain ⟨j1770, x1771, g1772, h⟩ := un2 h
    obtain ⟨g17721, g17722⟩ := geti_in g1772
    have g17723 := ac_Bool g17722
    try simp only [wn] at g17721
    cases h
    refine ev_call (fn := a159) rfl ⟨0, fun n hn => ?_⟩
    simp (maxSteps := 2000000) only [W, reduceIte, Nat.reduceEqDiff, Nat.reduceAdd, Nat.reduceSub, Nat.reduceLT, Nat.reduceLeDiff, Nat.reduceMul, a159, c1766d, g17691, g17693, g17721, g17723, wd]
  · rw [if_neg c1766] at h
    have c1766d := bf c1766
    cases h
    refine ev_call (fn := a159) rfl ⟨0, fun n hn => ?_⟩
    simp (maxSteps := 2000000) only [W, reduceIte, Nat.reduceEqDiff, Nat.reduceAdd, Nat.reduceSub, Nat.reduceLT, Nat.reduceLeDiff, Nat.reduceMul, a159, c1766d, wd]
noncomputable def h158l0_0 (z0 : Bool) (z1 : Bool) (z2 : Bool) (v1751 : Int) (v1753 : List WaterConduit) (v1754 : List Bool) : (Int) → Env × Heap
  | v1752 => ([(0, .slice 0 0 v1753.length v1753.length 6 false), (1, .func 159 [] [.ptr 1 0]), (7, .int .i64 v1751), (8, .int .i64 v1752)], [.row z0 true (rowC v1753), .row z1 false [.slice 2 0 v1754.length v1754.length 1 true], .row z2 true (rowC v1754)])
noncomputable def q158l0_0 (z0 : Bool) (z1 : Bool) (z2 : Bool) (v1751 : Int) (v1753 : List WaterConduit) (v1754 : List Bool) : ((Unit) ⊕ (Int)) → AExit × Env × Heap
  | .inl (_) => (.exit 0, [(4, .undef)], [.row z0 true (rowC v1753), .row z1 false [.slice 2 0 v1754.length v1754.length 1 true], .row z2 true (rowC v1754)])
  | .inr (r1778) => (.ret, [(4, .int .i64 r1778)], [.row z0 true (rowC v1753), .row z1 false [.slice 2 0 v1754.length v1754.length 1 true], .row z2 true (rowC v1754)])
theorem k158l0_0 (z0 : Bool) (z1 : Bool) (z2 : Bool) (v1751 : Int) (v1753 : List WaterConduit) (v1754 : List Bool) (s : Int) (o : (Unit) ⊕ (Int)) (h : L158l0_0 v1751 v1753 v1754 s = some o) : Ev fun n => loopAt [0, 1, 7, 8] [4] a158l0b (ex tab n) 3 (h158l0_0 z0 z1 z2 v1751 v1753 v1754 s) = some (q158l0_0 z0 z1 z2 v1751 v1753 v1754 o) := by
  refine iter_sound (S158l0_0 v1751 v1753 v1754) [0, 1, 7, 8] [4] a158l0b 3 (h158l0_0 z0 z1 z2 v1751 v1753 v1754) (q158l0_0 z0 z1 z2 v1751 v1753 v1754) ?_ _ _ _ h
  rintro v1752 z h
  simp only [S158l0_0] at h
  by_cases c1755 : v1751 ≤ v1752
  · rw [if_pos c1755] at h
    have c1755d := dt c1755
    cases h
    refine ⟨0, fun n hn => ?_⟩
    simp (maxSteps := 2000000) only [W, reduceIte, Nat.reduceEqDiff, Nat.reduceAdd, Nat.reduceSub, Nat.reduceLT, Nat.reduceLeDiff, Nat.reduceMul, h158l0_0, q158l0_0, a158l0b, rc_WaterConduit, c1755d]
  · rw [if_neg c1755] at h
    have c1755d := df c1755
    obtain ⟨j1756, x1757, g1758, h⟩ := un2 h
    obtain ⟨g17581, g17582⟩ := geti_in g1758
    have g17583 := ac_WaterConduit g17582
    try simp only [wn] at g17581
    obtain ⟨r1776, g1774, h⟩ := un1 h
    obtain ⟨N1775, kN1775⟩ := c159_0 z1 z2 x1757.fName x1757.fFrom x1757.fTo x1757.fResist x1757.fValve x1757.fOpen v1754 _ g1774
    by_cases c1777 : r1776 = true
    · rw [if_pos c1777] at h
      have c1777d := c1777
      cases h
      refine ⟨N1775, fun n hn => ?_⟩
      have kN1775 := kN1775 n (by omega)
      try simp (maxSteps := 2000000) only [wn, rc_WaterConduit] at kN1775
      simp (maxSteps := 2000000) only [W, reduceIte, Nat.reduceEqDiff, Nat.reduceAdd, Nat.reduceSub, Nat.reduceLT, Nat.reduceLeDiff, Nat.reduceMul, h158l0_0, q158l0_0, a158l0b, rc_WaterConduit, c1755d, g17581, g17583, kN1775, c1777d]
    · rw [if_neg c1777] at h
      have c1777d := bf c1777
      cases h
      refine ⟨N1775, fun n hn => ?_⟩
      have kN1775 := kN1775 n (by omega)
      try simp (maxSteps := 2000000) only [wn, rc_WaterConduit] at kN1775
      simp (maxSteps := 2000000) only [W, reduceIte, Nat.reduceEqDiff, Nat.reduceAdd, Nat.reduceSub, Nat.reduceLT, Nat.reduceLeDiff, Nat.reduceMul, h158l0_0, q158l0_0, a158l0b, rc_WaterConduit, c1755d, g17581, g17583, kN1775, c1777d]
theorem c158_0 (z0 : Bool) (z1 : Bool) (z2 : Bool) (v1749 : List WaterConduit) (v1750 : List Bool) (r1782 : Int) (h : F158_0 v1749 v1750 = some r1782) : Ev fun n => (ex tab n).call 158 [.slice 0 0 v1749.length v1749.length 6 false, .func 159 [] [.ptr 1 0]] [.row z0 true (rowC v1749), .row z1 false [.slice 2 0 v1750.length v1750.length 1 true], .row z2 true (rowC v1750)] = some (.int .i64 r1782, [.row z0 true (rowC v1749), .row z1 false [.slice 2 0 v1750.length v1750.length 1 true], .row z2 true (rowC v1750)]) := by
  unfold F158_0 at h
  obtain ⟨g1779_, g1779, h⟩ := un1 h
  rcases g1779_ with _ | r1781
  · dsimp only at h
    have kN1780 := k158l0_0 z0 z1 z2 (v1749.length : Int) v1749 v1750 0 _ g1779
    obtain ⟨N1780, kN1780⟩ := kN1780
    cases h
    refine ev_call (fn := a158) rfl ⟨N1780, fun n hn => ?_⟩
    have kN1780 := kN1780 n (by omega)
    simp (maxSteps := 2000000) only [h158l0_0, q158l0_0, wn, rc_WaterConduit] at kN1780
    simp (maxSteps := 2000000) only [W, reduceIte, Nat.reduceEqDiff, Nat.reduceAdd, Nat.reduceSub, Nat.reduceLT, Nat.reduceLeDiff, Nat.reduceMul, a158, a158l0, rc_WaterConduit, kN1780, @x_loopAt]
  · dsimp only at h
    have kN1780 := k158l0_0 z0 z1 z2 (v1749.length : Int) v1749 v1750 0 _ g1779
    obtain ⟨N1780, kN1780⟩ := kN1780
    cases h
    refine ev_call (fn := a158) rfl ⟨N1780, fun n hn => ?_⟩
    have kN1780 := kN1780 n (by omega)
    simp (maxSteps := 2000000) only [h158l0_0, q158l0_0, wn, rc_WaterConduit] at kN1780
    simp (maxSteps := 2000000) only [W, reduceIte, Nat.reduceEqDiff, Nat.reduceAdd, Nat.reduceSub, Nat.reduceLT, Nat.reduceLeDiff, Nat.reduceMul, a158, a158l0, rc_WaterConduit, kN1780, @x_loopAt]
noncomputable def h162l0_0 (z0 : Bool) (v1803 : Bool) (v1804 : Int) (v1806 : List Bool) : (Int) → Env × Heap
  | v1805 => ([(0, .slice 0 0 v1806.length v1806.length 1 false), (1, .bool v1803), (7, .int .i64 v1804), (8, .int .i64 v1805)], [.row z0 true (rowC v1806)])
noncomputable def q162l0_0 (z0 : Bool) (v1803 : Bool) (v1804 : Int) (v1806 : List Bool) : ((Unit) ⊕ (Int)) → AExit × Env × Heap
  | .inl (_) => (.exit 0, [(4, .undef)], [.row z0 true (rowC v1806)])
  | .inr (r1812) => (.ret, [(4, .int .i64 r1812)], [.row z0 true (rowC v1806)])
theorem k162l0_0 (z0 : Bool) (v1803 : Bool) (v1804 : Int) (v1806 : List Bool) (s : Int) (o : (Unit) ⊕ (Int)) (h : L162l0_0 v1803 v1804 v1806 s = some o) : Ev fun n => loopAt [0, 1, 7, 8] [4] a162l0b (ex tab n) 1 (h162l0_0 z0 v1803 v1804 v1806 s) = some (q162l0_0 z0 v1803 v1804 v1806 o) := by
  refine iter_sound (S162l0_0 v1803 v1804 v1806) [0, 1, 7, 8] [4] a162l0b 1 (h162l0_0 z0 v1803 v1804 v1806) (q162l0_0 z0 v1803 v1804 v1806) ?_ _ _ _ h
  rintro v1805 z h
  simp only [S162l0_0] at h
  by_cases c1807 : v1804 ≤ v1805
  · rw [if_pos c1807] at h
    have c1807d := dt c1807
    cases h
    refine ⟨0, fun n hn => ?_⟩
    simp (maxSteps := 2000000) only [W, reduceIte, Nat.reduceEqDiff, Nat.reduceAdd, Nat.reduceSub, Nat.reduceLT, Nat.reduceLeDiff, Nat.reduceMul, h162l0_0, q162l0_0, a162l0b, c1807d]
  · rw [if_neg c1807] at h
    have c1807d := df c1807
    obtain ⟨j1808, x1809, g1810, h⟩ := un2 h
    obtain ⟨g18101, g18102⟩ := geti_in g1810
    have g18103 := ac_Bool g18102
    try simp only [wn] at g18101
    by_cases c1811 : (v1803 == x1809) = true
    · rw [if_pos c1811] at h
      have c1811d := c1811
      cases h
      refine ⟨0, fun n hn => ?_⟩
      simp (maxSteps := 2000000) only [W, reduceIte, Nat.reduceEqDiff, Nat.reduceAdd, Nat.reduceSub, Nat.reduceLT, Nat.reduceLeDiff, Nat.reduceMul, h162l0_0, q162l0_0, a162l0b, c1807d, g18101, g18103, c1811d]
    · rw [if_neg c1811] at h
      have c1811d := bf c1811
      cases h
      refine ⟨0, fun n hn => ?_⟩
      simp (maxSteps := 2000000) only [W, reduceIte, Nat.reduceEqDiff, Nat.reduceAdd, Nat.reduceSub, Nat.reduceLT, Nat.reduceLeDiff, Nat.reduceMul, h162l0_0, q162l0_0, a162l0b, c1807d, g18101, g18103, c1811d]
theorem c162_0 (z0 : Bool) (v1801 : Bool) (v1802 : List Bool) (r1816 : Int) (h : F162_0 v1801 v1802 = some r1816) : Ev fun n => (ex tab n).call 162 [.slice 0 0 v1802.length v1802.length 1 false, .bool v1801] [.row z0 true (rowC v1802)] = some (.int .i64 r1816, [.row z0 true (rowC v1802)]) := by
  unfold F162_0 at h
  obtain ⟨g1813_, g1813, h⟩ := un1 h
  rcases g1813_ with _ | r1815
  · dsimp only at h
    have kN1814 := k162l0_0 z0 v1801 (v1802.length : Int) v1802 0 _ g1813
    obtain ⟨N1814, kN1814⟩ := kN1814
    cases h
    refine ev_call (fn := a162) rfl ⟨N1814, fun n hn => ?_⟩
    have kN1814 := kN1814 n (by omega)
    simp (maxSteps := 2000000) only [h162l0_0, q162l0_0, wn] at kN1814
    simp (maxSteps := 2000000) only [W, reduceIte, Nat.reduceEqDiff, Nat.reduceAdd, Nat.reduceSub, Nat.reduceLT, Nat.reduceLeDiff, Nat.reduceMul, a162, a162l0, kN1814, @x_loopAt]
  · dsimp only at h
    have kN1814 := k162l0_0 z0 v1801 (v1802.length : Int) v1802 0 _ g1813
    obtain ⟨N1814, kN1814⟩ := kN1814
    cases h
    refine ev_call (fn := a162) rfl ⟨N1814, fun n hn => ?_⟩
    have kN1814 := kN1814 n (by omega)
    simp (maxSteps := 2000000) only [h162l0_0, q162l0_0, wn] at kN1814
    simp (maxSteps := 2000000) only [W, reduceIte, Nat.reduceEqDiff, Nat.reduceAdd, Nat.reduceSub, Nat.reduceLT, Nat.reduceLeDiff, Nat.reduceMul, a162, a162l0, kN1814, @x_loopAt]
theorem c160_0 (z0 : Bool) (v1799 : Bool) (v1800 : List Bool) (r1820 : Bool) (h : F160_0 v1799 v1800 = some r1820) : Ev fun n => (ex tab n).call 160 [.slice 0 0 v1800.length v1800.length 1 false, .bool v1799] [.row z0 true (rowC v1800)] = some (.bool r1820, [.row z0 true (rowC v1800)]) := by
  unfold F160_0 at h
  obtain ⟨r1819, g1817, h⟩ := un1 h
  obtain ⟨N1818, kN1818⟩ := c162_0 z0 v1799 v1800 _ g1817
  cases h
  refine ev_call (fn := a160) rfl ⟨N1818, fun n hn => ?_⟩
  have kN1818 := kN1818 n (by omega)
  try simp (maxSteps := 2000000) only [wn] at kN1818
  simp (maxSteps := 2000000) only [W, reduceIte, Nat.reduceEqDiff, Nat.reduceAdd, Nat.reduceSub, Nat.reduceLT, Nat.reduceLeDiff, Nat.reduceMul, a160, kN1818]
noncomputable def h151l1_0 (z0 : Bool) (z1 : Bool) (v1827 : List WaterNode) (v1828 : List WaterConduit) (v1830 : List WaterNode) (v1831 : List WaterConduit) (v1832 : List Branch) : ((List Branch) × (List Bool)) → Env × Heap
  | (v1834, v1835) => ([(1, .ptr 2 0), (2, .ptr 3 0), (4, .ptr 7 0), (5, .ptr 9 0)], [.row z0 true (rowC v1827), .row z1 true (rowC v1828), .row true false [.slice 0 0 v1827.length v1827.length 4 false, .slice 1 0 v1828.length v1828.length 6 false], .row true false [.slice 4 0 v1830.length v1830.length 4 false, .slice 5 0 v1831.length v1831.length 6 false, .slice 6 0 v1832.length v1832.length 2 false, .int .i64 0], .row true true (rowC v1830), .row true true (rowC v1831), .row true true (rowC v1832), .row true false [.slice 0 0 v1827.length v1827.length 4 false, .slice 1 0 v1828.length v1828.length 6 false, .slice 8 0 v1834.length v1834.length 2 false, .int .i64 (-1)], .row true true (rowC v1834), .row true false [.slice 10 0 v1835.length v1835.length 1 true], .row true true (rowC v1835)])
noncomputable def q151l1_0 (z0 : Bool) (z1 : Bool) (v1827 : List WaterNode) (v1828 : List WaterConduit) (v1830 : List WaterNode) (v1831 : List WaterConduit) (v1832 : List Branch) : (Int × (List Branch)) → AExit × Env × Heap
  | (r1858, r1859) => (.ret, [(2, .ptr 2 0), (3, .int .i64 r1858)], [.row z0 true (rowC v1827), .row z1 true (rowC v1828), .row true false [.slice 0 0 v1827.length v1827.length 4 false, .slice 1 0 v1828.length v1828.length 6 false, .slice 3 0 r1859.length r1859.length 2 false, .int .i64 (-1)], .row true true (rowC r1859)])
theorem k151l1_0 (z0 : Bool) (z1 : Bool) (v1827 : List WaterNode) (v1828 : List WaterConduit) (v1830 : List WaterNode) (v1831 : List WaterConduit) (v1832 : List Branch) (s : (List Branch) × (List Bool)) (o : Int × (List Branch)) (h : L151l1_0 v1827 v1828 v1830 v1831 v1832 s = some o) : Ev fun n => loopAt [1, 2, 4, 5] [2, 3] a151l1b (ex tab n) 2 (h151l1_0 z0 z1 v1827 v1828 v1830 v1831 v1832 s) = some (q151l1_0 z0 z1 v1827 v1828 v1830 v1831 v1832 o) := by
  refine iter_sound (S151l1_0 v1827 v1828 v1830 v1831 v1832) [1, 2, 4, 5] [2, 3] a151l1b 2 (h151l1_0 z0 z1 v1827 v1828 v1830 v1831 v1832) (q151l1_0 z0 z1 v1827 v1828 v1830 v1831 v1832) ?_ _ _ _ h
  rintro ⟨v1834, v1835⟩ z h
  simp only [S151l1_0] at h
  obtain ⟨r1838, g1836, h⟩ := un1 h
  obtain ⟨N1837, kN1837⟩ := c158_0 z1 true true v1828 v1835 _ g1836
  by_cases c1839 : 0 ≤ r1838
  · rw [if_pos c1839] at h
    have c1839d := dt c1839
    obtain ⟨j1840, x1841, g1842, h⟩ := un2 h
    obtain ⟨g18421, g18422⟩ := geti_in g1842
    have g18423 := ac_WaterConduit g18422
    try simp only [wn] at g18421
    obtain ⟨j1843, x1844, g1845, h⟩ := un2 h
    obtain ⟨g18451, g18452⟩ := geti_in g1845
    have g18453 := ac_Bool g18452
    try simp only [wn] at g18451
    by_cases c1846 : x1844 = true
    · rw [if_pos c1846] at h
      have c1846d := c1846
      obtain ⟨j1847, x1848, g1849, h⟩ := un2 h
      obtain ⟨g18491, g18492⟩ := geti_in g1849
      have g18493 := ac_Bool g18492
      try simp only [wn] at g18491
      obtain ⟨g1850, h⟩ := un_roomd h
      cases h
      refine ⟨N1837, fun n hn => ?_⟩
      have kN1837 := kN1837 n (by omega)
      try simp (maxSteps := 2000000) only [wn] at kN1837
      simp (maxSteps := 2000000) only [W, reduceIte, Nat.reduceEqDiff, Nat.reduceAdd, Nat.reduceSub, Nat.reduceLT, Nat.reduceLeDiff, Nat.reduceMul, h151l1_0, q151l1_0, a151l1b, rc_Branch, rc_WaterConduit, kN1837, c1839d, g18421, g18423, g18451, g18453, c1846d, g18491, g18493, g1850, wd]
    · rw [if_neg c1846] at h
      have c1846d := bf c1846
      obtain ⟨g1851, h⟩ := un_roomd h
      cases h
      refine ⟨N1837, fun n hn => ?_⟩
      have kN1837 := kN1837 n (by omega)
      try simp (maxSteps := 2000000) only [wn] at kN1837
      simp (maxSteps := 2000000) only [W, reduceIte, Nat.reduceEqDiff, Nat.reduceAdd, Nat.reduceSub, Nat.reduceLT, Nat.reduceLeDiff, Nat.reduceMul, h151l1_0, q151l1_0, a151l1b, rc_Branch, rc_WaterConduit, kN1837, c1839d, g18421, g18423, g18451, g18453, c1846d, g1851, wd]
  · rw [if_neg c1839] at h
    have c1839d := df c1839
    obtain ⟨r1854, g1852, h⟩ := un1 h
    obtain ⟨N1853, kN1853⟩ := c160_0 false false v1835 _ g1852
    obtain ⟨r1857, g1855, h⟩ := un1 h
    obtain ⟨N1856, kN1856⟩ := c72_0 (!r1854) 14 _ g1855
    cases h
    refine ⟨N1837 + N1853 + N1856, fun n hn => ?_⟩
    have kN1837 := kN1837 n (by omega)
    try simp (maxSteps := 2000000) only [wn] at kN1837
    have kN1853 := kN1853 n (by omega)
    try simp (maxSteps := 2000000) only [wn, rc_Branch, rc_WaterConduit] at kN1853
    have kN1856 := kN1856 n (by omega)
    try simp (maxSteps := 2000000) only [wn, rc_Branch, rc_WaterConduit] at kN1856
    simp (maxSteps := 2000000) only [W, reduceIte, Nat.reduceEqDiff, Nat.reduceAdd, Nat.reduceSub, Nat.reduceLT, Nat.reduceLeDiff, Nat.reduceMul, h151l1_0, q151l1_0, a151l1b, rc_Branch, rc_WaterConduit, kN1837, c1839d, kN1853, kN1856, wd]
theorem c151_0 (z0 : Bool) (z1 : Bool) (v1690 : List WaterNode) (v1691 : List WaterConduit) (r1864 : Int) (r1865 : List Branch) (h : F151_0 v1690 v1691 = some (r1864, r1865)) : Ev fun n => (ex tab n).call 151 [.agg [.slice 0 0 v1690.length v1690.length 4 false, .slice 1 0 v1691.length v1691.length 6 false]] [.row z0 true (rowC v1690), .row z1 true (rowC v1691)] = some (.tup [.agg [.slice 0 0 v1690.length v1690.length 4 false, .slice 1 0 v1691.length v1691.length 6 false, .slice 2 0 r1865.length r1865.length 2 false, .int .i64 (-1)], .int .i64 r1864], [.row z0 true (rowC v1690), .row z1 true (rowC v1691), .row true true (rowC r1865)]) := by
  unfold F151_0 at h
  obtain ⟨n1692, g1693, h⟩ := un1 h
  try simp only [wn] at g1693
  obtain ⟨g1694, h⟩ := un_roomd h
  try simp only [Nat.reduceLeDiff] at g1694
  obtain ⟨r1697, g1695, h⟩ := un1 h
  obtain ⟨N1696, kN1696⟩ := c135_0 z0 z1 v1690 v1691 _ g1695
  obtain ⟨r1739, g1737, h⟩ := un1 h
  have kN1738 := k151l0_0 z0 z1 (r1697.length : Int) v1690 v1691 ([] : List WaterNode) ([] : List WaterConduit) ([] : List Branch) ([] : List Branch) r1697 (0, (List.replicate n1692 false)) _ g1737
  obtain ⟨N1738, kN1738⟩ := kN1738
  obtain ⟨r1862, r1863, g1860, h⟩ := un2 h
  have kN1861 := k151l1_0 z0 z1 v1690 v1691 ([] : List WaterNode) ([] : List WaterConduit) ([] : List Branch) (([] : List Branch), r1739) _ g1860
  obtain ⟨N1861, kN1861⟩ := kN1861
  cases h
  refine ev_call (fn := a151) rfl ⟨N1696 + N1738 + N1861, fun n hn => ?_⟩
  have kN1696 := kN1696 n (by omega)
  try simp (maxSteps := 2000000) only [wn, rc_Branch, rc_WaterConduit, rc_WaterNode] at kN1696
  have kN1738 := kN1738 n (by omega)
  simp (maxSteps := 2000000) only [h151l0_0, q151l0_0, wn, rc_Branch, rc_WaterConduit, rc_WaterNode] at kN1738
  have kN1861 := kN1861 n (by omega)
  simp (maxSteps := 2000000) only [h151l1_0, q151l1_0, wn, rc_Branch, rc_WaterConduit, rc_WaterNode] at kN1861
  simp (maxSteps := 2000000) only [W, reduceIte, Nat.reduceEqDiff, Nat.reduceAdd, Nat.reduceSub, Nat.reduceLT, Nat.reduceLeDiff, Nat.reduceMul, a151, a151l0, a151l1, rc_Branch, rc_WaterConduit, rc_WaterNode, g1693, g1694, kN1696, kN1738, kN1861, @x_loopAt]
theorem c153_0 (z0 : Bool) (v1897 : Int) (v1898 : Int) (v1899 : Int) (r1900 : Bool) (h : F153_0 v1897 v1898 v1899 = some r1900) : Ev fun n => (ex tab n).call 153 [.agg [.int .i64 v1897, .int .i64 v1898], .ptr 0 0] [.row z0 true [.int .i64 v1899]] = some (.bool r1900, [.row z0 true [.int .i64 v1899]]) := by
  unfold F153_0 at h
  cases h
  refine ev_call (fn := a153) rfl ⟨0, fun n hn => ?_⟩
  simp (maxSteps := 2000000) only [W, reduceIte, Nat.reduceEqDiff, Nat.reduceAdd, Nat.reduceSub, Nat.reduceLT, Nat.reduceLeDiff, Nat.reduceMul, a153]
noncomputable def h161l0_0 (z0 : Bool) (z1 : Bool) (v1889 : Int) (v1891 : List Branch) (v1892 : Int) : (Int) → Env × Heap
  | v1890 => ([(0, .slice 0 0 v1891.length v1891.length 2 false), (1, .func 153 [] [.ptr 1 0]), (7, .int .i64 v1889), (8, .int .i64 v1890)], [.row z0 true (rowC v1891), .row z1 true [.int .i64 v1892]])
noncomputable def q161l0_0 (z0 : Bool) (z1 : Bool) (v1889 : Int) (v1891 : List Branch) (v1892 : Int) : ((Unit) ⊕ (Int)) → AExit × Env × Heap
  | .inl (_) => (.exit 0, [(4, .undef)], [.row z0 true (rowC v1891), .row z1 true [.int .i64 v1892]])
  | .inr (r1905) => (.ret, [(4, .int .i64 r1905)], [.row z0 true (rowC v1891), .row z1 true [.int .i64 v1892]])
theorem k161l0_0 (z0 : Bool) (z1 : Bool) (v1889 : Int) (v1891 : List Branch) (v1892 : Int) (s : Int) (o : (Unit) ⊕ (Int)) (h : L161l0_0 v1889 v1891 v1892 s = some o) : Ev fun n => loopAt [0, 1, 7, 8] [4] a161l0b (ex tab n) 2 (h161l0_0 z0 z1 v1889 v1891 v1892 s) = some (q161l0_0 z0 z1 v1889 v1891 v1892 o) := by
  refine iter_sound (S161l0_0 v1889 v1891 v1892) [0, 1, 7, 8] [4] a161l0b 2 (h161l0_0 z0 z1 v1889 v1891 v1892) (q161l0_0 z0 z1 v1889 v1891 v1892) ?_ _ _ _ h
  rintro v1890 z h
  simp only [S161l0_0] at h
  by_cases c1893 : v1889 ≤ v1890
  · rw [if_pos c1893] at h
    have c1893d := dt c1893
    cases h
    refine ⟨0, fun n hn => ?_⟩
    simp (maxSteps := 2000000) only [W, reduceIte, Nat.reduceEqDiff, Nat.reduceAdd, Nat.reduceSub, Nat.reduceLT, Nat.reduceLeDiff, Nat.reduceMul, h161l0_0, q161l0_0, a161l0b, rc_Branch, c1893d]
  · rw [if_neg c1893] at h
    have c1893d := df c1893
    obtain ⟨j1894, x1895, g1896, h⟩ := un2 h
    obtain ⟨g18961, g18962⟩ := geti_in g1896
    have g18963 := ac_Branch g18962
    try simp only [wn] at g18961
    obtain ⟨r1903, g1901, h⟩ := un1 h
    obtain ⟨N1902, kN1902⟩ := c153_0 z1 x1895.fconduit x1895.fnode v1892 _ g1901
    by_cases c1904 : r1903 = true
    · rw [if_pos c1904] at h
      have c1904d := c1904
      cases h
      refine ⟨N1902, fun n hn => ?_⟩
      have kN1902 := kN1902 n (by omega)
      try simp (maxSteps := 2000000) only [wn, rc_Branch] at kN1902
      simp (maxSteps := 2000000) only [W, reduceIte, Nat.reduceEqDiff, Nat.reduceAdd, Nat.reduceSub, Nat.reduceLT, Nat.reduceLeDiff, Nat.reduceMul, h161l0_0, q161l0_0, a161l0b, rc_Branch, c1893d, g18961, g18963, kN1902, c1904d]
    · rw [if_neg c1904] at h
      have c1904d := bf c1904
      cases h
      refine ⟨N1902, fun n hn => ?_⟩
      have kN1902 := kN1902 n (by omega)
      try simp (maxSteps := 2000000) only [wn, rc_Branch] at kN1902
      simp (maxSteps := 2000000) only [W, reduceIte, Nat.reduceEqDiff, Nat.reduceAdd, Nat.reduceSub, Nat.reduceLT, Nat.reduceLeDiff, Nat.reduceMul, h161l0_0, q161l0_0, a161l0b, rc_Branch, c1893d, g18961, g18963, kN1902, c1904d]
theorem c161_0 (z0 : Bool) (z1 : Bool) (v1887 : List Branch) (v1888 : Int) (r1909 : Int) (h : F161_0 v1887 v1888 = some r1909) : Ev fun n => (ex tab n).call 161 [.slice 0 0 v1887.length v1887.length 2 false, .func 153 [] [.ptr 1 0]] [.row z0 true (rowC v1887), .row z1 true [.int .i64 v1888]] = some (.int .i64 r1909, [.row z0 true (rowC v1887), .row z1 true [.int .i64 v1888]]) := by
  unfold F161_0 at h
  obtain ⟨g1906_, g1906, h⟩ := un1 h
  rcases g1906_ with _ | r1908
  · dsimp only at h
    have kN1907 := k161l0_0 z0 z1 (v1887.length : Int) v1887 v1888 0 _ g1906
    obtain ⟨N1907, kN1907⟩ := kN1907
    cases h
    refine ev_call (fn := a161) rfl ⟨N1907, fun n hn => ?_⟩
    have kN1907 := kN1907 n (by omega)
    simp (maxSteps := 2000000) only [h161l0_0, q161l0_0, wn, rc_Branch] at kN1907
    simp (maxSteps := 2000000) only [W, reduceIte, Nat.reduceEqDiff, Nat.reduceAdd, Nat.reduceSub, Nat.reduceLT, Nat.reduceLeDiff, Nat.reduceMul, a161, a161l0, rc_Branch, kN1907, @x_loopAt]
  · dsimp only at h
    have kN1907 := k161l0_0 z0 z1 (v1887.length : Int) v1887 v1888 0 _ g1906
    obtain ⟨N1907, kN1907⟩ := kN1907
    cases h
    refine ev_call (fn := a161) rfl ⟨N1907, fun n hn => ?_⟩
    have kN1907 := kN1907 n (by omega)
    simp (maxSteps := 2000000) only [h161l0_0, q161l0_0, wn, rc_Branch] at kN1907
    simp (maxSteps := 2000000) only [W, reduceIte, Nat.reduceEqDiff, Nat.reduceAdd, Nat.reduceSub, Nat.reduceLT, Nat.reduceLeDiff, Nat.reduceMul, a161, a161l0, rc_Branch, kN1907, @x_loopAt]
theorem c152_0 (z0 : Bool) (z1 : Bool) (v1885 : List Branch) (v1886 : Int) (r1913 : Bool) (h : F152_0 v1885 v1886 = some r1913) : Ev fun n => (ex tab n).call 152 [.slice 0 0 v1885.length v1885.length 2 false, .func 153 [] [.ptr 1 0]] [.row z0 true (rowC v1885), .row z1 true [.int .i64 v1886]] = some (.bool r1913, [.row z0 true (rowC v1885), .row z1 true [.int .i64 v1886]]) := by
  unfold F152_0 at h
  obtain ⟨r1912, g1910, h⟩ := un1 h
  obtain ⟨N1911, kN1911⟩ := c161_0 z0 z1 v1885 v1886 _ g1910
  cases h
  refine ev_call (fn := a152) rfl ⟨N1911, fun n hn => ?_⟩
  have kN1911 := kN1911 n (by omega)
  try simp (maxSteps := 2000000) only [wn] at kN1911
  simp (maxSteps := 2000000) only [W, reduceIte, Nat.reduceEqDiff, Nat.reduceAdd, Nat.reduceSub, Nat.reduceLT, Nat.reduceLeDiff, Nat.reduceMul, a152, kN1911]
noncomputable def h138l0_0 (z0 : Bool) (z1 : Bool) (v1920 : Int) (v1922 : List WaterNode) (v1923 : List WaterConduit) (v1925 : List WaterNode) (v1926 : List WaterConduit) (v1927 : List Branch) (v1929 : List Branch) : (Int × Int) → Env × Heap
  | (v1921, v1928) => ([(2, .ptr 2 0), (4, .ptr 6 0), (20, .slice 1 0 v1923.length v1923.length 6 false), (21, .int .i64 v1920), (22, .int .i64 v1921)], [.row z0 true (rowC v1922), .row z1 true (rowC v1923), .row true false [.slice 3 0 v1925.length v1925.length 4 false, .slice 4 0 v1926.length v1926.length 6 false, .slice 5 0 v1927.length v1927.length 2 false, .int .i64 0], .row true true (rowC v1925), .row true true (rowC v1926), .row true true (rowC v1927), .row true false [.slice 0 0 v1922.length v1922.length 4 false, .slice 1 0 v1923.length v1923.length 6 false, .slice 7 0 v1929.length v1929.length 2 false, .int .i64 v1928], .row true true (rowC v1929)])
noncomputable def q138l0_0 (z0 : Bool) (z1 : Bool) (v1920 : Int) (v1922 : List WaterNode) (v1923 : List WaterConduit) (v1925 : List WaterNode) (v1926 : List WaterConduit) (v1927 : List Branch) (v1929 : List Branch) : ((Int) ⊕ (Int × Int)) → AExit × Env × Heap
  | .inl (r1940) => (.exit 0, [(2, .ptr 2 0), (3, .undef), (4, .ptr 6 0)], [.row z0 true (rowC v1922), .row z1 true (rowC v1923), .row true false [.slice 3 0 v1925.length v1925.length 4 false, .slice 4 0 v1926.length v1926.length 6 false, .slice 5 0 v1927.length v1927.length 2 false, .int .i64 0], .row true true (rowC v1925), .row true true (rowC v1926), .row true true (rowC v1927), .row true false [.slice 0 0 v1922.length v1922.length 4 false, .slice 1 0 v1923.length v1923.length 6 false, .slice 7 0 v1929.length v1929.length 2 false, .int .i64 r1940], .row true true (rowC v1929)])
  | .inr (r1941, r1942) => (.ret, [(2, .ptr 2 0), (3, .int .i64 8), (4, .ptr 4 0)], [.row z0 true (rowC v1922), .row z1 true (rowC v1923), .row true false [.slice 0 0 v1922.length v1922.length 4 false, .slice 1 0 v1923.length v1923.length 6 false, .slice 3 0 v1929.length v1929.length 2 false, .int .i64 r1941], .row true true (rowC v1929), .row true false [.slice 0 0 v1922.length v1922.length 4 false, .slice 1 0 v1923.length v1923.length 6 false, .slice 3 0 v1929.length v1929.length 2 false, .int .i64 r1942]])
theorem k138l0_0 (z0 : Bool) (z1 : Bool) (v1920 : Int) (v1922 : List WaterNode) (v1923 : List WaterConduit) (v1925 : List WaterNode) (v1926 : List WaterConduit) (v1927 : List Branch) (v1929 : List Branch) (s : Int × Int) (o : (Int) ⊕ (Int × Int)) (h : L138l0_0 v1920 v1922 v1923 v1925 v1926 v1927 v1929 s = some o) : Ev fun n => loopAt [2, 4, 20, 21, 22] [2, 3, 4] a138l0b (ex tab n) 2 (h138l0_0 z0 z1 v1920 v1922 v1923 v1925 v1926 v1927 v1929 s) = some (q138l0_0 z0 z1 v1920 v1922 v1923 v1925 v1926 v1927 v1929 o) := by
  refine iter_sound (S138l0_0 v1920 v1922 v1923 v1925 v1926 v1927 v1929) [2, 4, 20, 21, 22] [2, 3, 4] a138l0b 2 (h138l0_0 z0 z1 v1920 v1922 v1923 v1925 v1926 v1927 v1929) (q138l0_0 z0 z1 v1920 v1922 v1923 v1925 v1926 v1927 v1929) ?_ _ _ _ h
  rintro ⟨v1921, v1928⟩ z h
  simp only [S138l0_0] at h
  by_cases c1930 : v1920 ≤ v1921
  · rw [if_pos c1930] at h
    have c1930d := dt c1930
    cases h
    refine ⟨0, fun n hn => ?_⟩
    simp (maxSteps := 2000000) only [W, reduceIte, Nat.reduceEqDiff, Nat.reduceAdd, Nat.reduceSub, Nat.reduceLT, Nat.reduceLeDiff, Nat.reduceMul, h138l0_0, q138l0_0, a138l0b, rc_WaterConduit, c1930d]
  · rw [if_neg c1930] at h
    have c1930d := df c1930
    obtain ⟨j1931, x1932, g1933, h⟩ := un2 h
    obtain ⟨g19331, g19332⟩ := geti_in g1933
    have g19333 := ac_WaterConduit g19332
    try simp only [wn] at g19331
    obtain ⟨r1936, g1934, h⟩ := un1 h
    obtain ⟨N1935, kN1935⟩ := c152_0 true true v1929 v1921 _ g1934
    by_cases c1937 : x1932.fOpen = true
    · rw [if_pos c1937] at h
      have c1937d := c1937
      by_cases c1938 : r1936 = true
      · rw [if_pos c1938] at h
        have c1938d := c1938
        cases h
        refine ⟨N1935, fun n hn => ?_⟩
        have kN1935 := kN1935 n (by omega)
        try simp (maxSteps := 2000000) only [wn, rc_WaterConduit, c1937d] at kN1935
        simp (maxSteps := 2000000) only [W, reduceIte, Nat.reduceEqDiff, Nat.reduceAdd, Nat.reduceSub, Nat.reduceLT, Nat.reduceLeDiff, Nat.reduceMul, h138l0_0, q138l0_0, a138l0b, rc_WaterConduit, c1930d, g19331, g19333, kN1935, c1937d, c1938d]
      · rw [if_neg c1938] at h
        have c1938d := bf c1938
        by_cases c1939 : 0 ≤ v1928
        · rw [if_pos c1939] at h
          have c1939d := dt c1939
          cases h
          refine ⟨N1935, fun n hn => ?_⟩
          have kN1935 := kN1935 n (by omega)
          try simp (maxSteps := 2000000) only [wn, rc_WaterConduit, c1937d] at kN1935
          simp (maxSteps := 2000000) only [W, reduceIte, Nat.reduceEqDiff, Nat.reduceAdd, Nat.reduceSub, Nat.reduceLT, Nat.reduceLeDiff, Nat.reduceMul, h138l0_0, q138l0_0, a138l0b, rc_WaterConduit, c1930d, g19331, g19333, kN1935, c1937d, c1938d, c1939d]
        · rw [if_neg c1939] at h
          have c1939d := df c1939
          cases h
          refine ⟨N1935, fun n hn => ?_⟩
          have kN1935 := kN1935 n (by omega)
          try simp (maxSteps := 2000000) only [wn, rc_WaterConduit, c1937d] at kN1935
          simp (maxSteps := 2000000) only [W, reduceIte, Nat.reduceEqDiff, Nat.reduceAdd, Nat.reduceSub, Nat.reduceLT, Nat.reduceLeDiff, Nat.reduceMul, h138l0_0, q138l0_0, a138l0b, rc_WaterConduit, c1930d, g19331, g19333, kN1935, c1937d, c1938d, c1939d]
    · rw [if_neg c1937] at h
      have c1937d := bf c1937
      cases h
      refine ⟨N1935, fun n hn => ?_⟩
      have kN1935 := kN1935 n (by omega)
      try simp (maxSteps := 2000000) only [wn, rc_WaterConduit, c1937d] at kN1935
      simp (maxSteps := 2000000) only [W, reduceIte, Nat.reduceEqDiff, Nat.reduceAdd, Nat.reduceSub, Nat.reduceLT, Nat.reduceLeDiff, Nat.reduceMul, h138l0_0, q138l0_0, a138l0b, rc_WaterConduit, c1930d, g19331, g19333, kN1935, c1937d]
end Go.AI
end
