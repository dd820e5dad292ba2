/-
  Functions, walked through: water.CheckNet, water.loss, water.LossOf.
-/
import Derived.Test.YtfglifekecijjaaBAiY
import Derived.Test.YtfglifekecijjaaBAiTab
import Derived.Test.YtfglifekecijjaaBAiAwake
import Derived.Test.YtfglifekecijjaaBWnF
import Derived.Test.YtfglifekecijjaaBWn0
import Derived.Test.YtfglifekecijjaaBWn1
set_option linter.unusedVariables false
set_option linter.unusedSimpArgs false
set_option maxRecDepth 100000
set_option maxHeartbeats 4000000
namespace Go.AI
theorem c16_0 (z0 : Bool) (z1 : Bool) (v40 : List WaterNode) (v41 : List WaterConduit) (r320 : Int) (r321 : Int) (h : F16_0 v40 v41 = some (r320, r321)) : Ev fun n => (ex tab n).call 16 [.agg [.slice 0 0 v40.length v40.length 4 false, .slice 1 0 v41.length v41.length 6 false]] [.row z0 true (rowC v40), .row z1 true (rowC v41)] = some (.tup [.int .i64 r320, .int .i64 r321], [.row z0 true (rowC v40), .row z1 true (rowC v41)]) := by
  unfold F16_0 at h
  by_cases c319 : (v40.length : Int) ≤ 0
  · rw [if_pos c319] at h
    have c319d := dt c319
    by_cases c281 : (v40.length : Int) ≤ 10
    · rw [if_pos c281] at h
      have c281d := dt c281
      obtain ⟨r48, g46, h⟩ := un1 h
      obtain ⟨N47, kN47⟩ := c72_0 false 10 _ g46
      obtain ⟨r51, g49, h⟩ := un1 h
      obtain ⟨N50, kN50⟩ := c72_0 (decide ((v41.length : Int) ≤ 14)) 8 _ g49
      obtain ⟨r68, g66, h⟩ := un1 h
      obtain ⟨N67, kN67⟩ := c71_0 true ([r48, r51] : List Int) _ g66
      by_cases c262 : r68 = 0
      · rw [if_pos c262] at h
        have c262d := dt c262
        obtain ⟨g166_, g166, h⟩ := un1 h
        rcases g166_ with _ | ⟨r260, r261⟩
        · dsimp only at h
          have kN167 := k16l0_0 z0 z1 (v40.length : Int) v40 v41 (0, ([] : List (ByteArray × Bool))) _ g166
          obtain ⟨N167, kN167⟩ := kN167
          obtain ⟨g256_, g256, h⟩ := un1 h
          rcases g256_ with _ | ⟨r258, r259⟩
          · dsimp only at h
            have kN257 := k16l1_0 z0 z1 (v41.length : Int) v40 v41 (0, ([] : List (ByteArray × Bool))) _ g256
            obtain ⟨N257, kN257⟩ := kN257
            cases h
            refine ev_call (fn := a16) rfl ⟨N47 + N50 + N67 + N167 + N257, fun n hn => ?_⟩
            have kN47 := kN47 n (by omega)
            try simp only [wn] at kN47
            have kN50 := kN50 n (by omega)
            try simp only [wn] at kN50
            have kN67 := kN67 n (by omega)
            try simp only [wn] at kN67
            have kN167 := kN167 n (by omega)
            simp only [h16l0_0, q16l0_0, wn, rc_WaterNode] at kN167
            have kN257 := kN257 n (by omega)
            simp only [h16l1_0, q16l1_0, wn, rc_WaterConduit, rc_WaterNode] at kN257
            simp only [W, reduceIte, Nat.reduceEqDiff, Nat.reduceAdd, Nat.reduceSub, Nat.reduceLT, Nat.reduceLeDiff, Nat.reduceMul, a16, a16l0, a16l1, rc_WaterConduit, rc_WaterNode, c319d, c281d, kN47, kN50, kN67, c262d, kN167, kN257, @x_loopAt]
          · dsimp only at h
            have kN257 := k16l1_0 z0 z1 (v41.length : Int) v40 v41 (0, ([] : List (ByteArray × Bool))) _ g256
            obtain ⟨N257, kN257⟩ := kN257
            cases h
            refine ev_call (fn := a16) rfl ⟨N47 + N50 + N67 + N167 + N257, fun n hn => ?_⟩
            have kN47 := kN47 n (by omega)
            try simp only [wn] at kN47
            have kN50 := kN50 n (by omega)
            try simp only [wn] at kN50
            have kN67 := kN67 n (by omega)
            try simp only [wn] at kN67
            have kN167 := kN167 n (by omega)
            simp only [h16l0_0, q16l0_0, wn, rc_WaterNode] at kN167
            have kN257 := kN257 n (by omega)
            simp only [h16l1_0, q16l1_0, wn, rc_WaterConduit, rc_WaterNode] at kN257
            simp only [W, reduceIte, Nat.reduceEqDiff, Nat.reduceAdd, Nat.reduceSub, Nat.reduceLT, Nat.reduceLeDiff, Nat.reduceMul, a16, a16l0, a16l1, rc_WaterConduit, rc_WaterNode, c319d, c281d, kN47, kN50, kN67, c262d, kN167, kN257, @x_loopAt]
        · dsimp only at h
          have kN167 := k16l0_0 z0 z1 (v40.length : Int) v40 v41 (0, ([] : List (ByteArray × Bool))) _ g166
          obtain ⟨N167, kN167⟩ := kN167
          cases h
          refine ev_call (fn := a16) rfl ⟨N47 + N50 + N67 + N167, fun n hn => ?_⟩
          have kN47 := kN47 n (by omega)
          try simp only [wn] at kN47
          have kN50 := kN50 n (by omega)
          try simp only [wn] at kN50
          have kN67 := kN67 n (by omega)
          try simp only [wn] at kN67
          have kN167 := kN167 n (by omega)
          simp only [h16l0_0, q16l0_0, wn, rc_WaterConduit, rc_WaterNode] at kN167
          simp only [W, reduceIte, Nat.reduceEqDiff, Nat.reduceAdd, Nat.reduceSub, Nat.reduceLT, Nat.reduceLeDiff, Nat.reduceMul, a16, a16l0, a16l1, rc_WaterConduit, rc_WaterNode, c319d, c281d, kN47, kN50, kN67, c262d, kN167, @x_loopAt]
      · rw [if_neg c262] at h
        have c262d := df c262
        cases h
        refine ev_call (fn := a16) rfl ⟨N47 + N50 + N67, fun n hn => ?_⟩
        have kN47 := kN47 n (by omega)
        try simp only [wn] at kN47
        have kN50 := kN50 n (by omega)
        try simp only [wn] at kN50
        have kN67 := kN67 n (by omega)
        try simp only [wn] at kN67
        simp only [W, reduceIte, Nat.reduceEqDiff, Nat.reduceAdd, Nat.reduceSub, Nat.reduceLT, Nat.reduceLeDiff, Nat.reduceMul, a16, a16l0, a16l1, rc_WaterConduit, rc_WaterNode, c319d, c281d, kN47, kN50, kN67, c262d, @x_loopAt]
    · rw [if_neg c281] at h
      have c281d := df c281
      obtain ⟨r265, g263, h⟩ := un1 h
      obtain ⟨N264, kN264⟩ := c72_0 false 10 _ g263
      obtain ⟨r268, g266, h⟩ := un1 h
      obtain ⟨N267, kN267⟩ := c72_0 false 8 _ g266
      obtain ⟨r271, g269, h⟩ := un1 h
      obtain ⟨N270, kN270⟩ := c71_0 true ([r265, r268] : List Int) _ g269
      by_cases c280 : r271 = 0
      · rw [if_pos c280] at h
        have c280d := dt c280
        obtain ⟨g272_, g272, h⟩ := un1 h
        rcases g272_ with _ | ⟨r278, r279⟩
        · dsimp only at h
          have kN273 := k16l0_0 z0 z1 (v40.length : Int) v40 v41 (0, ([] : List (ByteArray × Bool))) _ g272
          obtain ⟨N273, kN273⟩ := kN273
          obtain ⟨g274_, g274, h⟩ := un1 h
          rcases g274_ with _ | ⟨r276, r277⟩
          · dsimp only at h
            have kN275 := k16l1_0 z0 z1 (v41.length : Int) v40 v41 (0, ([] : List (ByteArray × Bool))) _ g274
            obtain ⟨N275, kN275⟩ := kN275
            cases h
            refine ev_call (fn := a16) rfl ⟨N264 + N267 + N270 + N273 + N275, fun n hn => ?_⟩
            have kN264 := kN264 n (by omega)
            try simp only [wn, rc_WaterConduit, rc_WaterNode] at kN264
            have kN267 := kN267 n (by omega)
            try simp only [wn, rc_WaterConduit, rc_WaterNode] at kN267
            have kN270 := kN270 n (by omega)
            try simp only [wn, rc_WaterConduit, rc_WaterNode] at kN270
            have kN273 := kN273 n (by omega)
            simp only [h16l0_0, q16l0_0, wn, rc_WaterConduit, rc_WaterNode] at kN273
            have kN275 := kN275 n (by omega)
            simp only [h16l1_0, q16l1_0, wn, rc_WaterConduit, rc_WaterNode] at kN275
            simp only [W, reduceIte, Nat.reduceEqDiff, Nat.reduceAdd, Nat.reduceSub, Nat.reduceLT, Nat.reduceLeDiff, Nat.reduceMul, a16, a16l0, a16l1, rc_WaterConduit, rc_WaterNode, c319d, c281d, kN264, kN267, kN270, c280d, kN273, kN275, @x_loopAt]
          · dsimp only at h
            have kN275 := k16l1_0 z0 z1 (v41.length : Int) v40 v41 (0, ([] : List (ByteArray × Bool))) _ g274
            obtain ⟨N275, kN275⟩ := kN275
            cases h
            refine ev_call (fn := a16) rfl ⟨N264 + N267 + N270 + N273 + N275, fun n hn => ?_⟩
            have kN264 := kN264 n (by omega)
            try simp only [wn, rc_WaterConduit, rc_WaterNode] at kN264
            have kN267 := kN267 n (by omega)
            try simp only [wn, rc_WaterConduit, rc_WaterNode] at kN267
            have kN270 := kN270 n (by omega)
            try simp only [wn, rc_WaterConduit, rc_WaterNode] at kN270
            have kN273 := kN273 n (by omega)
            simp only [h16l0_0, q16l0_0, wn, rc_WaterConduit, rc_WaterNode] at kN273
            have kN275 := kN275 n (by omega)
            simp only [h16l1_0, q16l1_0, wn, rc_WaterConduit, rc_WaterNode] at kN275
            simp only [W, reduceIte, Nat.reduceEqDiff, Nat.reduceAdd, Nat.reduceSub, Nat.reduceLT, Nat.reduceLeDiff, Nat.reduceMul, a16, a16l0, a16l1, rc_WaterConduit, rc_WaterNode, c319d, c281d, kN264, kN267, kN270, c280d, kN273, kN275, @x_loopAt]
        · dsimp only at h
          have kN273 := k16l0_0 z0 z1 (v40.length : Int) v40 v41 (0, ([] : List (ByteArray × Bool))) _ g272
          obtain ⟨N273, kN273⟩ := kN273
          cases h
          refine ev_call (fn := a16) rfl ⟨N264 + N267 + N270 + N273, fun n hn => ?_⟩
          have kN264 := kN264 n (by omega)
          try simp only [wn, rc_WaterConduit, rc_WaterNode] at kN264
          have kN267 := kN267 n (by omega)
          try simp only [wn, rc_WaterConduit, rc_WaterNode] at kN267
          have kN270 := kN270 n (by omega)
          try simp only [wn, rc_WaterConduit, rc_WaterNode] at kN270
          have kN273 := kN273 n (by omega)
          simp only [h16l0_0, q16l0_0, wn, rc_WaterConduit, rc_WaterNode] at kN273
          simp only [W, reduceIte, Nat.reduceEqDiff, Nat.reduceAdd, Nat.reduceSub, Nat.reduceLT, Nat.reduceLeDiff, Nat.reduceMul, a16, a16l0, a16l1, rc_WaterConduit, rc_WaterNode, c319d, c281d, kN264, kN267, kN270, c280d, kN273, @x_loopAt]
      · rw [if_neg c280] at h
        have c280d := df c280
        cases h
        refine ev_call (fn := a16) rfl ⟨N264 + N267 + N270, fun n hn => ?_⟩
        have kN264 := kN264 n (by omega)
        try simp only [wn, rc_WaterConduit, rc_WaterNode] at kN264
        have kN267 := kN267 n (by omega)
        try simp only [wn, rc_WaterConduit, rc_WaterNode] at kN267
        have kN270 := kN270 n (by omega)
        try simp only [wn, rc_WaterConduit, rc_WaterNode] at kN270
        simp only [W, reduceIte, Nat.reduceEqDiff, Nat.reduceAdd, Nat.reduceSub, Nat.reduceLT, Nat.reduceLeDiff, Nat.reduceMul, a16, a16l0, a16l1, rc_WaterConduit, rc_WaterNode, c319d, c281d, kN264, kN267, kN270, c280d, @x_loopAt]
  · rw [if_neg c319] at h
    have c319d := df c319
    by_cases c318 : (v40.length : Int) ≤ 10
    · rw [if_pos c318] at h
      have c318d := dt c318
      obtain ⟨r284, g282, h⟩ := un1 h
      obtain ⟨N283, kN283⟩ := c72_0 (!(decide ((v41.length : Int) ≤ 0))) 10 _ g282
      obtain ⟨r287, g285, h⟩ := un1 h
      obtain ⟨N286, kN286⟩ := c72_0 (decide ((v41.length : Int) ≤ 14)) 8 _ g285
      obtain ⟨r290, g288, h⟩ := un1 h
      obtain ⟨N289, kN289⟩ := c71_0 true ([r284, r287] : List Int) _ g288
      by_cases c299 : r290 = 0
      · rw [if_pos c299] at h
        have c299d := dt c299
        obtain ⟨g291_, g291, h⟩ := un1 h
        rcases g291_ with _ | ⟨r297, r298⟩
        · dsimp only at h
          have kN292 := k16l0_0 z0 z1 (v40.length : Int) v40 v41 (0, ([] : List (ByteArray × Bool))) _ g291
          obtain ⟨N292, kN292⟩ := kN292
          obtain ⟨g293_, g293, h⟩ := un1 h
          rcases g293_ with _ | ⟨r295, r296⟩
          · dsimp only at h
            have kN294 := k16l1_0 z0 z1 (v41.length : Int) v40 v41 (0, ([] : List (ByteArray × Bool))) _ g293
            obtain ⟨N294, kN294⟩ := kN294
            cases h
            refine ev_call (fn := a16) rfl ⟨N283 + N286 + N289 + N292 + N294, fun n hn => ?_⟩
            have kN283 := kN283 n (by omega)
            try simp only [wn, rc_WaterConduit, rc_WaterNode] at kN283
            have kN286 := kN286 n (by omega)
            try simp only [wn, rc_WaterConduit, rc_WaterNode] at kN286
            have kN289 := kN289 n (by omega)
            try simp only [wn, rc_WaterConduit, rc_WaterNode] at kN289
            have kN292 := kN292 n (by omega)
            simp only [h16l0_0, q16l0_0, wn, rc_WaterConduit, rc_WaterNode] at kN292
            have kN294 := kN294 n (by omega)
            simp only [h16l1_0, q16l1_0, wn, rc_WaterConduit, rc_WaterNode] at kN294
            simp only [W, reduceIte, Nat.reduceEqDiff, Nat.reduceAdd, Nat.reduceSub, Nat.reduceLT, Nat.reduceLeDiff, Nat.reduceMul, a16, a16l0, a16l1, rc_WaterConduit, rc_WaterNode, c319d, c318d, kN283, kN286, kN289, c299d, kN292, kN294, @x_loopAt]
          · dsimp only at h
            have kN294 := k16l1_0 z0 z1 (v41.length : Int) v40 v41 (0, ([] : List (ByteArray × Bool))) _ g293
            obtain ⟨N294, kN294⟩ := kN294
            cases h
            refine ev_call (fn := a16) rfl ⟨N283 + N286 + N289 + N292 + N294, fun n hn => ?_⟩
            have kN283 := kN283 n (by omega)
            try simp only [wn, rc_WaterConduit, rc_WaterNode] at kN283
            have kN286 := kN286 n (by omega)
            try simp only [wn, rc_WaterConduit, rc_WaterNode] at kN286
            have kN289 := kN289 n (by omega)
            try simp only [wn, rc_WaterConduit, rc_WaterNode] at kN289
            have kN292 := kN292 n (by omega)
            simp only [h16l0_0, q16l0_0, wn, rc_WaterConduit, rc_WaterNode] at kN292
            have kN294 := kN294 n (by omega)
            simp only [h16l1_0, q16l1_0, wn, rc_WaterConduit, rc_WaterNode] at kN294
            simp only [W, reduceIte, Nat.reduceEqDiff, Nat.reduceAdd, Nat.reduceSub, Nat.reduceLT, Nat.reduceLeDiff, Nat.reduceMul, a16, a16l0, a16l1, rc_WaterConduit, rc_WaterNode, c319d, c318d, kN283, kN286, kN289, c299d, kN292, kN294, @x_loopAt]
        · dsimp only at h
          have kN292 := k16l0_0 z0 z1 (v40.length : Int) v40 v41 (0, ([] : List (ByteArray × Bool))) _ g291
          obtain ⟨N292, kN292⟩ := kN292
          cases h
          refine ev_call (fn := a16) rfl ⟨N283 + N286 + N289 + N292, fun n hn => ?_⟩
          have kN283 := kN283 n (by omega)
          try simp only [wn, rc_WaterConduit, rc_WaterNode] at kN283
          have kN286 := kN286 n (by omega)
          try simp only [wn, rc_WaterConduit, rc_WaterNode] at kN286
          have kN289 := kN289 n (by omega)
          try simp only [wn, rc_WaterConduit, rc_WaterNode] at kN289
          have kN292 := kN292 n (by omega)
          simp only [h16l0_0, q16l0_0, wn, rc_WaterConduit, rc_WaterNode] at kN292
          simp only [W, reduceIte, Nat.reduceEqDiff, Nat.reduceAdd, Nat.reduceSub, Nat.reduceLT, Nat.reduceLeDiff, Nat.reduceMul, a16, a16l0, a16l1, rc_WaterConduit, rc_WaterNode, c319d, c318d, kN283, kN286, kN289, c299d, kN292, @x_loopAt]
      · rw [if_neg c299] at h
        have c299d := df c299
        cases h
        refine ev_call (fn := a16) rfl ⟨N283 + N286 + N289, fun n hn => ?_⟩
        have kN283 := kN283 n (by omega)
        try simp only [wn, rc_WaterConduit, rc_WaterNode] at kN283
        have kN286 := kN286 n (by omega)
        try simp only [wn, rc_WaterConduit, rc_WaterNode] at kN286
        have kN289 := kN289 n (by omega)
        try simp only [wn, rc_WaterConduit, rc_WaterNode] at kN289
        simp only [W, reduceIte, Nat.reduceEqDiff, Nat.reduceAdd, Nat.reduceSub, Nat.reduceLT, Nat.reduceLeDiff, Nat.reduceMul, a16, a16l0, a16l1, rc_WaterConduit, rc_WaterNode, c319d, c318d, kN283, kN286, kN289, c299d, @x_loopAt]
    · rw [if_neg c318] at h
      have c318d := df c318
      obtain ⟨r302, g300, h⟩ := un1 h
      obtain ⟨N301, kN301⟩ := c72_0 (!(decide ((v41.length : Int) ≤ 0))) 10 _ g300
      obtain ⟨r305, g303, h⟩ := un1 h
      obtain ⟨N304, kN304⟩ := c72_0 false 8 _ g303
      obtain ⟨r308, g306, h⟩ := un1 h
      obtain ⟨N307, kN307⟩ := c71_0 true ([r302, r305] : List Int) _ g306
      by_cases c317 : r308 = 0
      · rw [if_pos c317] at h
        have c317d := dt c317
        obtain ⟨g309_, g309, h⟩ := un1 h
        rcases g309_ with _ | ⟨r315, r316⟩
        · dsimp only at h
          have kN310 := k16l0_0 z0 z1 (v40.length : Int) v40 v41 (0, ([] : List (ByteArray × Bool))) _ g309
          obtain ⟨N310, kN310⟩ := kN310
          obtain ⟨g311_, g311, h⟩ := un1 h
          rcases g311_ with _ | ⟨r313, r314⟩
          · dsimp only at h
            have kN312 := k16l1_0 z0 z1 (v41.length : Int) v40 v41 (0, ([] : List (ByteArray × Bool))) _ g311
            obtain ⟨N312, kN312⟩ := kN312
            cases h
            refine ev_call (fn := a16) rfl ⟨N301 + N304 + N307 + N310 + N312, fun n hn => ?_⟩
            have kN301 := kN301 n (by omega)
            try simp only [wn, rc_WaterConduit, rc_WaterNode] at kN301
            have kN304 := kN304 n (by omega)
            try simp only [wn, rc_WaterConduit, rc_WaterNode] at kN304
            have kN307 := kN307 n (by omega)
            try simp only [wn, rc_WaterConduit, rc_WaterNode] at kN307
            have kN310 := kN310 n (by omega)
            simp only [h16l0_0, q16l0_0, wn, rc_WaterConduit, rc_WaterNode] at kN310
            have kN312 := kN312 n (by omega)
            simp only [h16l1_0, q16l1_0, wn, rc_WaterConduit, rc_WaterNode] at kN312
            simp only [W, reduceIte, Nat.reduceEqDiff, Nat.reduceAdd, Nat.reduceSub, Nat.reduceLT, Nat.reduceLeDiff, Nat.reduceMul, a16, a16l0, a16l1, rc_WaterConduit, rc_WaterNode, c319d, c318d, kN301, kN304, kN307, c317d, kN310, kN312, @x_loopAt]
          · dsimp only at h
            have kN312 := k16l1_0 z0 z1 (v41.length : Int) v40 v41 (0, ([] : List (ByteArray × Bool))) _ g311
            obtain ⟨N312, kN312⟩ := kN312
            cases h
            refine ev_call (fn := a16) rfl ⟨N301 + N304 + N307 + N310 + N312, fun n hn => ?_⟩
            have kN301 := kN301 n (by omega)
            try simp only [wn, rc_WaterConduit, rc_WaterNode] at kN301
            have kN304 := kN304 n (by omega)
            try simp only [wn, rc_WaterConduit, rc_WaterNode] at kN304
            have kN307 := kN307 n (by omega)
            try simp only [wn, rc_WaterConduit, rc_WaterNode] at kN307
            have kN310 := kN310 n (by omega)
            simp only [h16l0_0, q16l0_0, wn, rc_WaterConduit, rc_WaterNode] at kN310
            have kN312 := kN312 n (by omega)
            simp only [h16l1_0, q16l1_0, wn, rc_WaterConduit, rc_WaterNode] at kN312
            simp only [W, reduceIte, Nat.reduceEqDiff, Nat.reduceAdd, Nat.reduceSub, Nat.reduceLT, Nat.reduceLeDiff, Nat.reduceMul, a16, a16l0, a16l1, rc_WaterConduit, rc_WaterNode, c319d, c318d, kN301, kN304, kN307, c317d, kN310, kN312, @x_loopAt]
        · dsimp only at h
          have kN310 := k16l0_0 z0 z1 (v40.length : Int) v40 v41 (0, ([] : List (ByteArray × Bool))) _ g309
          obtain ⟨N310, kN310⟩ := kN310
          cases h
          refine ev_call (fn := a16) rfl ⟨N301 + N304 + N307 + N310, fun n hn => ?_⟩
          have kN301 := kN301 n (by omega)
          try simp only [wn, rc_WaterConduit, rc_WaterNode] at kN301
          have kN304 := kN304 n (by omega)
          try simp only [wn, rc_WaterConduit, rc_WaterNode] at kN304
          have kN307 := kN307 n (by omega)
          try simp only [wn, rc_WaterConduit, rc_WaterNode] at kN307
          have kN310 := kN310 n (by omega)
          simp only [h16l0_0, q16l0_0, wn, rc_WaterConduit, rc_WaterNode] at kN310
          simp only [W, reduceIte, Nat.reduceEqDiff, Nat.reduceAdd, Nat.reduceSub, Nat.reduceLT, Nat.reduceLeDiff, Nat.reduceMul, a16, a16l0, a16l1, rc_WaterConduit, rc_WaterNode, c319d, c318d, kN301, kN304, kN307, c317d, kN310, @x_loopAt]
      · rw [if_neg c317] at h
        have c317d := df c317
        cases h
        refine ev_call (fn := a16) rfl ⟨N301 + N304 + N307, fun n hn => ?_⟩
        have kN301 := kN301 n (by omega)
        try simp only [wn, rc_WaterConduit, rc_WaterNode] at kN301
        have kN304 := kN304 n (by omega)
        try simp only [wn, rc_WaterConduit, rc_WaterNode] at kN304
        have kN307 := kN307 n (by omega)
        try simp only [wn, rc_WaterConduit, rc_WaterNode] at kN307
        simp only [W, reduceIte, Nat.reduceEqDiff, Nat.reduceAdd, Nat.reduceSub, Nat.reduceLT, Nat.reduceLeDiff, Nat.reduceMul, a16, a16l0, a16l1, rc_WaterConduit, rc_WaterNode, c319d, c318d, kN301, kN304, kN307, c317d, @x_loopAt]
theorem c77_0 (v334 : Int) (v335 : Int) (r336 : Int) (h : F77_0 v334 v335 = some r336) : Ev fun n => (ex tab n).call 77 [.int .i64 v334, .int .i64 v335] [] = some (.int .i64 r336, []) := by
  unfold F77_0 at h
  cases h
  refine ev_call (fn := a77) rfl ⟨0, fun n hn => ?_⟩
  simp only [W, reduceIte, Nat.reduceEqDiff, Nat.reduceAdd, Nat.reduceSub, Nat.reduceLT, Nat.reduceLeDiff, Nat.reduceMul, a77]
theorem c18_0 (v326 : Int) (v327 : Int) (r342 : Int) (r343 : Int) (h : F18_0 v326 v327 = some (r342, r343)) : Ev fun n => (ex tab n).call 18 [.int .i64 v326, .int .i64 v327] [] = some (.tup [.int .i64 r342, .int .i64 r343], []) := by
  unfold F18_0 at h
  obtain ⟨r330, g328, h⟩ := un1 h
  obtain ⟨N329, kN329⟩ := c74_0 v326 0 1000 _ g328
  by_cases c341 : r330 = true
  · rw [if_pos c341] at h
    have c341d := c341
    obtain ⟨r333, g331, h⟩ := un1 h
    obtain ⟨N332, kN332⟩ := c73_0 v327 200000 _ g331
    by_cases c340 : r333 = true
    · rw [if_pos c340] at h
      have c340d := c340
      obtain ⟨r339, g337, h⟩ := un1 h
      obtain ⟨N338, kN338⟩ := c77_0 v326 v327 _ g337
      cases h
      refine ev_call (fn := a18) rfl ⟨N329 + N332 + N338, fun n hn => ?_⟩
      have kN329 := kN329 n (by omega)
      try simp only [wn] at kN329
      have kN332 := kN332 n (by omega)
      try simp only [wn] at kN332
      have kN338 := kN338 n (by omega)
      try simp only [wn] at kN338
      simp only [W, reduceIte, Nat.reduceEqDiff, Nat.reduceAdd, Nat.reduceSub, Nat.reduceLT, Nat.reduceLeDiff, Nat.reduceMul, a18, kN329, c341d, kN332, c340d, kN338]
    · rw [if_neg c340] at h
      have c340d := bf c340
      cases h
      refine ev_call (fn := a18) rfl ⟨N329 + N332, fun n hn => ?_⟩
      have kN329 := kN329 n (by omega)
      try simp only [wn] at kN329
      have kN332 := kN332 n (by omega)
      try simp only [wn] at kN332
      simp only [W, reduceIte, Nat.reduceEqDiff, Nat.reduceAdd, Nat.reduceSub, Nat.reduceLT, Nat.reduceLeDiff, Nat.reduceMul, a18, kN329, c341d, kN332, c340d]
  · rw [if_neg c341] at h
    have c341d := bf c341
    cases h
    refine ev_call (fn := a18) rfl ⟨N329, fun n hn => ?_⟩
    have kN329 := kN329 n (by omega)
    try simp only [wn] at kN329
    simp only [W, reduceIte, Nat.reduceEqDiff, Nat.reduceAdd, Nat.reduceSub, Nat.reduceLT, Nat.reduceLeDiff, Nat.reduceMul, a18, kN329, c341d]
end Go.AI
