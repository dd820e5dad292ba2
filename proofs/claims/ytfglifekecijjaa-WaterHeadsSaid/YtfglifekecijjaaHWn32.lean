import Derived.Test.YtfglifekecijjaaHAiY
import Derived.Test.YtfglifekecijjaaHAiTab
import Derived.Test.YtfglifekecijjaaHAiAwake
import Derived.Test.YtfglifekecijjaaHWnF
import Derived.Test.YtfglifekecijjaaHWn2
import Derived.Test.YtfglifekecijjaaHWn14
import Derived.Test.YtfglifekecijjaaHWn27
section
/-
  Functions, walked through: water.openHead, water.answer, water.HeadAnswer, api.WaterNode], water.MostDraw, guidevaneref02.HeadErr, guidevaneref02.Answer.
-/
set_option linter.unusedVariables false
set_option linter.unusedSimpArgs false
set_option maxRecDepth 100000
set_option maxHeartbeats 4000000
namespace Go.AI
theorem c124_0 (z0 : Bool) (z1 : Bool) (v3983 : Int) (v3984 : Int) (v3985 : List WaterNode) (v3986 : List WaterConduit) (r : (Int × Int × (List Branch)) ⊕ (Int)) (h : F124_0 v3983 v3984 v3985 v3986 = some r) : match r with
    | .inl (r4017, r4018, r4019) => Ev fun n => (ex tab n).call 124 [.agg [.slice 0 0 v3985.length v3985.length 4 false, .slice 1 0 v3986.length v3986.length 6 false], .int .i64 v3983, .int .i64 v3984] [.row z0 true (rowC v3985), .row z1 true (rowC v3986)] = some (.tup [.agg [.slice 0 0 v3985.length v3985.length 4 false, .slice 1 0 v3986.length v3986.length 6 false, .slice 2 0 r4019.length r4019.length 2 false, .int .i64 r4017], .int .i64 r4018], [.row z0 true (rowC v3985), .row z1 true (rowC v3986), .row true true (rowC r4019)])
    | .inr (r4020) => Ev fun n => (ex tab n).call 124 [.agg [.slice 0 0 v3985.length v3985.length 4 false, .slice 1 0 v3986.length v3986.length 6 false], .int .i64 v3983, .int .i64 v3984] [.row z0 true (rowC v3985), .row z1 true (rowC v3986)] = some (.tup [.agg [.slice 2 0 0 0 4 false, .slice 3 0 0 0 6 false, .slice 4 0 0 0 2 false, .int .i64 0], .int .i64 r4020], [.row z0 true (rowC v3985), .row z1 true (rowC v3986), .row true true [], .row true true [], .row true true []]) := by
  unfold F124_0 at h
  obtain ⟨g3987_, g3987, h⟩ := un1 h
  rcases g3987_ with ⟨r3989, r3990, r3991⟩ | r4004
  · dsimp only at h
    obtain ⟨N3988, kN3988⟩ := c106_0 z0 z1 v3985 v3986 _ g3987
    obtain ⟨r3994, g3992, h⟩ := un1 h
    obtain ⟨N3993, kN3993⟩ := c88_0 false false v3983 v3985 v3986 _ g3992
    obtain ⟨r3997, g3995, h⟩ := un1 h
    obtain ⟨N3996, kN3996⟩ := c74_0 v3984 0 1000000000 _ g3995
    obtain ⟨r4000, g3998, h⟩ := un1 h
    obtain ⟨N3999, kN3999⟩ := c72_0 r3997 2 _ g3998
    obtain ⟨r4003, g4001, h⟩ := un1 h
    obtain ⟨N4002, kN4002⟩ := c71_0 false ([r3990, r3994, r4000] : List Int) _ g4001
    cases h
    refine ev_call (fn := a124) rfl ⟨N3988 + N3993 + N3996 + N3999 + N4002, fun n hn => ?_⟩
    have kN3988 := kN3988 n (by omega)
    try simp (maxSteps := 2000000) only [wn, rc_Branch, rc_WaterConduit, rc_WaterNode] at kN3988
    have kN3993 := kN3993 n (by omega)
    try simp (maxSteps := 2000000) only [wn, rc_Branch, rc_WaterConduit, rc_WaterNode] at kN3993
    have kN3996 := kN3996 n (by omega)
    try simp (maxSteps := 2000000) only [wn, rc_Branch, rc_WaterConduit, rc_WaterNode] at kN3996
    have kN3999 := kN3999 n (by omega)
    try simp (maxSteps := 2000000) only [wn, rc_Branch, rc_WaterConduit, rc_WaterNode] at kN3999
    have kN4002 := kN4002 n (by omega)
    try simp (maxSteps := 2000000) only [wn, rc_Branch, rc_WaterConduit, rc_WaterNode] at kN4002
    simp (maxSteps := 2000000) only [W, reduceIte, Nat.reduceEqDiff, Nat.reduceAdd, Nat.reduceSub, Nat.reduceLT, Nat.reduceLeDiff, Nat.reduceMul, a124, rc_Branch, rc_WaterConduit, rc_WaterNode, kN3988, kN3993, kN3996, kN3999, kN4002, wd]
  · dsimp only at h
    obtain ⟨N3988, kN3988⟩ := c106_0 z0 z1 v3985 v3986 _ g3987
    obtain ⟨r4007, g4005, h⟩ := un1 h
    obtain ⟨N4006, kN4006⟩ := c88_0 false false v3983 ([] : List WaterNode) ([] : List WaterConduit) _ g4005
    obtain ⟨r4010, g4008, h⟩ := un1 h
    obtain ⟨N4009, kN4009⟩ := c74_0 v3984 0 1000000000 _ g4008
    obtain ⟨r4013, g4011, h⟩ := un1 h
    obtain ⟨N4012, kN4012⟩ := c72_0 r4010 2 _ g4011
    obtain ⟨r4016, g4014, h⟩ := un1 h
    obtain ⟨N4015, kN4015⟩ := c71_0 false ([r4004, r4007, r4013] : List Int) _ g4014
    cases h
    refine ev_call (fn := a124) rfl ⟨N3988 + N4006 + N4009 + N4012 + N4015, fun n hn => ?_⟩
    have kN3988 := kN3988 n (by omega)
    try simp (maxSteps := 2000000) only [wn, rc_Branch, rc_WaterConduit, rc_WaterNode] at kN3988
    have kN4006 := kN4006 n (by omega)
    try simp (maxSteps := 2000000) only [wn, rc_Branch, rc_WaterConduit, rc_WaterNode] at kN4006
    have kN4009 := kN4009 n (by omega)
    try simp (maxSteps := 2000000) only [wn, rc_Branch, rc_WaterConduit, rc_WaterNode] at kN4009
    have kN4012 := kN4012 n (by omega)
    try simp (maxSteps := 2000000) only [wn, rc_Branch, rc_WaterConduit, rc_WaterNode] at kN4012
    have kN4015 := kN4015 n (by omega)
    try simp (maxSteps := 2000000) only [wn, rc_Branch, rc_WaterConduit, rc_WaterNode] at kN4015
    simp (maxSteps := 2000000) only [W, reduceIte, Nat.reduceEqDiff, Nat.reduceAdd, Nat.reduceSub, Nat.reduceLT, Nat.reduceLeDiff, Nat.reduceMul, a124, rc_Branch, rc_WaterConduit, rc_WaterNode, kN3988, kN4006, kN4009, kN4012, kN4015, wd]
theorem c125_0 (v4034 : Int) (v4035 : Int) (v4036 : Int) (r4039 : Int) (h : F125_0 v4034 v4035 v4036 = some r4039) : Ev fun n => (ex tab n).call 125 [.agg [.int .i64 v4034, .int .i64 v4035], .int .i64 v4036] [] = some (.int .i64 r4039, []) := by
  unfold F125_0 at h
  by_cases c4037 : v4036 ≤ v4034
  · rw [if_pos c4037] at h
    have c4037d := dt c4037
    cases h
    refine ev_call (fn := a125) rfl ⟨0, fun n hn => ?_⟩
    simp (maxSteps := 2000000) only [W, reduceIte, Nat.reduceEqDiff, Nat.reduceAdd, Nat.reduceSub, Nat.reduceLT, Nat.reduceLeDiff, Nat.reduceMul, a125, c4037d]
  · rw [if_neg c4037] at h
    have c4037d := df c4037
    by_cases c4038 : v4036 ≤ v4035
    · rw [if_pos c4038] at h
      have c4038d := dt c4038
      cases h
      refine ev_call (fn := a125) rfl ⟨0, fun n hn => ?_⟩
      simp (maxSteps := 2000000) only [W, reduceIte, Nat.reduceEqDiff, Nat.reduceAdd, Nat.reduceSub, Nat.reduceLT, Nat.reduceLeDiff, Nat.reduceMul, a125, c4037d, c4038d]
    · rw [if_neg c4038] at h
      have c4038d := df c4038
      cases h
      refine ev_call (fn := a125) rfl ⟨0, fun n hn => ?_⟩
      simp (maxSteps := 2000000) only [W, reduceIte, Nat.reduceEqDiff, Nat.reduceAdd, Nat.reduceSub, Nat.reduceLT, Nat.reduceLeDiff, Nat.reduceMul, a125, c4037d, c4038d]
theorem c61_0 (z0 : Bool) (z1 : Bool) (v3979 : Int) (v3980 : Int) (v3981 : List WaterNode) (v3982 : List WaterConduit) (r4055 : Int) (r4056 : Int) (h : F61_0 v3979 v3980 v3981 v3982 = some (r4055, r4056)) : Ev fun n => (ex tab n).call 61 [.agg [.slice 0 0 v3981.length v3981.length 4 false, .slice 1 0 v3982.length v3982.length 6 false], .int .i64 v3979, .int .i64 v3980] [.row z0 true (rowC v3981), .row z1 true (rowC v3982)] = some (.tup [.int .i64 r4055, .int .i64 r4056], [.row z0 true (rowC v3981), .row z1 true (rowC v3982)]) := by
  unfold F61_0 at h
  obtain ⟨g4021_, g4021, h⟩ := un1 h
  rcases g4021_ with ⟨r4023, r4024, r4025⟩ | r4043
  · dsimp only at h
    obtain ⟨N4022, kN4022⟩ := c124_0 z0 z1 v3979 v3980 v3981 v3982 _ g4021
    by_cases c4026 : r4024 = 0
    · rw [if_pos c4026] at h
      have c4026d := dt c4026
      obtain ⟨r4029, r4030, g4027, h⟩ := un2 h
      obtain ⟨N4028, kN4028⟩ := c110_0 z0 z1 true r4023 v3981 v3982 r4025 _ _ g4027
      obtain ⟨j4031, x4032, g4033, h⟩ := un2 h
      obtain ⟨g40331, g40332⟩ := geti_in g4033
      have g40333 := ac_Range g40332
      try simp only [wn] at g40331
      obtain ⟨r4042, g4040, h⟩ := un1 h
      obtain ⟨N4041, kN4041⟩ := c125_0 x4032.fLo x4032.fHi v3980 _ g4040
      cases h
      refine ev_call (fn := a61) rfl ⟨N4022 + N4028 + N4041, fun n hn => ?_⟩
      have kN4022 := kN4022 n (by omega)
      try simp (maxSteps := 2000000) only [wn] at kN4022
      have kN4028 := kN4028 n (by omega)
      try simp (maxSteps := 2000000) only [wn, rc_Branch, rc_WaterConduit, rc_WaterNode] at kN4028
      have kN4041 := kN4041 n (by omega)
      try simp (maxSteps := 2000000) only [wn, rc_Branch, rc_Range, rc_WaterConduit, rc_WaterNode] at kN4041
      simp (maxSteps := 2000000) only [W, reduceIte, Nat.reduceEqDiff, Nat.reduceAdd, Nat.reduceSub, Nat.reduceLT, Nat.reduceLeDiff, Nat.reduceMul, a61, rc_Branch, rc_Range, rc_WaterConduit, rc_WaterNode, kN4022, c4026d, kN4028, g40331, g40333, kN4041]
    · rw [if_neg c4026] at h
      have c4026d := df c4026
      cases h
      refine ev_call (fn := a61) rfl ⟨N4022, fun n hn => ?_⟩
      have kN4022 := kN4022 n (by omega)
      try simp (maxSteps := 2000000) only [wn] at kN4022
      simp (maxSteps := 2000000) only [W, reduceIte, Nat.reduceEqDiff, Nat.reduceAdd, Nat.reduceSub, Nat.reduceLT, Nat.reduceLeDiff, Nat.reduceMul, a61, rc_Branch, rc_Range, rc_WaterConduit, rc_WaterNode, kN4022, c4026d]
  · dsimp only at h
    obtain ⟨N4022, kN4022⟩ := c124_0 z0 z1 v3979 v3980 v3981 v3982 _ g4021
    by_cases c4044 : r4043 = 0
    · rw [if_pos c4044] at h
      have c4044d := dt c4044
      obtain ⟨r4047, r4048, g4045, h⟩ := un2 h
      obtain ⟨N4046, kN4046⟩ := c110_0 true true true 0 ([] : List WaterNode) ([] : List WaterConduit) ([] : List Branch) _ _ g4045
      obtain ⟨j4049, x4050, g4051, h⟩ := un2 h
      obtain ⟨g40511, g40512⟩ := geti_in g4051
      have g40513 := ac_Range g40512
      try simp only [wn] at g40511
      obtain ⟨r4054, g4052, h⟩ := un1 h
      obtain ⟨N4053, kN4053⟩ := c125_0 x4050.fLo x4050.fHi v3980 _ g4052
      cases h
      refine ev_call (fn := a61) rfl ⟨N4022 + N4046 + N4053, fun n hn => ?_⟩
      have kN4022 := kN4022 n (by omega)
      try simp (maxSteps := 2000000) only [wn, rc_Branch, rc_Range, rc_WaterConduit, rc_WaterNode] at kN4022
      have kN4046 := kN4046 n (by omega)
      try simp (maxSteps := 2000000) only [wn, rc_Branch, rc_Range, rc_WaterConduit, rc_WaterNode] at kN4046
      have kN4053 := kN4053 n (by omega)
      try simp (maxSteps := 2000000) only [wn, rc_Branch, rc_Range, rc_WaterConduit, rc_WaterNode] at kN4053
      simp (maxSteps := 2000000) only [W, reduceIte, Nat.reduceEqDiff, Nat.reduceAdd, Nat.reduceSub, Nat.reduceLT, Nat.reduceLeDiff, Nat.reduceMul, a61, rc_Branch, rc_Range, rc_WaterConduit, rc_WaterNode, kN4022, c4044d, kN4046, g40511, g40513, kN4053]
    · rw [if_neg c4044] at h
      have c4044d := df c4044
      cases h
      refine ev_call (fn := a61) rfl ⟨N4022, fun n hn => ?_⟩
      have kN4022 := kN4022 n (by omega)
      try simp (maxSteps := 2000000) only [wn, rc_Branch, rc_Range, rc_WaterConduit, rc_WaterNode] at kN4022
      simp (maxSteps := 2000000) only [W, reduceIte, Nat.reduceEqDiff, Nat.reduceAdd, Nat.reduceSub, Nat.reduceLT, Nat.reduceLeDiff, Nat.reduceMul, a61, rc_Branch, rc_Range, rc_WaterConduit, rc_WaterNode, kN4022, c4044d]
theorem c126_0 (z0 : Bool) (v4086 : List WaterNode) (h : F126_0 v4086 = some ()) : Ev fun n => (ex tab n).call 126 [.slice 0 0 v4086.length v4086.length 4 false] [.row z0 true (rowC v4086)] = some (.slice 1 0 v4086.length v4086.length 4 false, [.row z0 true (rowC v4086), .row true true (rowC v4086)]) := by
  unfold F126_0 at h
  by_cases c4087 : v4086.length = 0
  · rw [if_pos c4087] at h
    have c4087d := dt c4087
    cases h
  · rw [if_neg c4087] at h
    have c4087d := df c4087
    obtain ⟨g4088, h⟩ := un_roomd h
    cases h
    refine ev_call (fn := a126) rfl ⟨0, fun n hn => ?_⟩
    simp (maxSteps := 2000000) only [W, reduceIte, Nat.reduceEqDiff, Nat.reduceAdd, Nat.reduceSub, Nat.reduceLT, Nat.reduceLeDiff, Nat.reduceMul, a126, rc_WaterNode, c4087d, g4088]
noncomputable def h62l0_0 (z0 : Bool) (z1 : Bool) (v4091 : Int) (v4092 : Int) (v4094 : List WaterNode) (v4095 : List WaterConduit) (v4096 : Int) (v4098 : List Branch) (v4099 : ByteArray) (v4100 : Bool) (v4101 : Int) (v4102 : Int) : (Int × (List WaterNode)) → Env × Heap
  | (v4093, v4097) => ([(1, .int .i64 v4091), (2, .int .i64 v4092), (8, .ptr 2 0), (10, .ptr 5 0), (11, .int .i64 v4093)], [.row z0 true (rowC v4094), .row z1 true (rowC v4095), .row true false [.slice 3 0 v4097.length v4097.length 4 false, .slice 1 0 v4095.length v4095.length 6 false, .slice 4 0 v4098.length v4098.length 2 false, .int .i64 v4096], .row true true (rowC v4097), .row true true (rowC v4098), .row true true [.str v4099, .bool v4100, .int .i64 v4101, .int .i64 v4102]])
noncomputable def q62l0_0 (z0 : Bool) (z1 : Bool) (v4091 : Int) (v4092 : Int) (v4094 : List WaterNode) (v4095 : List WaterConduit) (v4096 : Int) (v4098 : List Branch) (v4099 : ByteArray) (v4100 : Bool) (v4101 : Int) (v4102 : Int) : ((Int) ⊕ (Unit)) → AExit × Env × Heap
  | .inl (r4118) => (.ret, [(6, .int .i64 r4118), (7, .int .i64 0)], [.row z0 true (rowC v4094), .row z1 true (rowC v4095)])
  | .inr (_) => (.exit 0, [(6, .undef), (7, .undef)], [.row z0 true (rowC v4094), .row z1 true (rowC v4095)])
theorem k62l0_0 (z0 : Bool) (z1 : Bool) (v4091 : Int) (v4092 : Int) (v4094 : List WaterNode) (v4095 : List WaterConduit) (v4096 : Int) (v4098 : List Branch) (v4099 : ByteArray) (v4100 : Bool) (v4101 : Int) (v4102 : Int) (s : Int × (List WaterNode)) (o : (Int) ⊕ (Unit)) (h : L62l0_0 v4091 v4092 v4094 v4095 v4096 v4098 v4099 v4100 v4101 v4102 s = some o) : Ev fun n => loopAt [1, 2, 8, 10, 11] [6, 7] a62l0b (ex tab n) 2 (h62l0_0 z0 z1 v4091 v4092 v4094 v4095 v4096 v4098 v4099 v4100 v4101 v4102 s) = some (q62l0_0 z0 z1 v4091 v4092 v4094 v4095 v4096 v4098 v4099 v4100 v4101 v4102 o) := by
  refine iter_sound (S62l0_0 v4091 v4092 v4094 v4095 v4096 v4098 v4099 v4100 v4101 v4102) [1, 2, 8, 10, 11] [6, 7] a62l0b 2 (h62l0_0 z0 z1 v4091 v4092 v4094 v4095 v4096 v4098 v4099 v4100 v4101 v4102) (q62l0_0 z0 z1 v4091 v4092 v4094 v4095 v4096 v4098 v4099 v4100 v4101 v4102) ?_ _ _ _ h
  rintro ⟨v4093, v4097⟩ z h
  simp only [S62l0_0] at h
  by_cases c4103 : 0 ≤ v4093
  · rw [if_pos c4103] at h
    have c4103d := dt c4103
    obtain ⟨j4104, x4105, g4106, h⟩ := un2 h
    obtain ⟨g41061, g41062⟩ := geti_in g4106
    have g41063 := ac_WaterNode g41062
    try simp only [wn] at g41061
    obtain ⟨r4109, r4110, g4107, h⟩ := un2 h
    obtain ⟨N4108, kN4108⟩ := c110_0 true z1 true v4096 (v4097.set j4104 ({ x4105 with fDraw := (aw .i64 (v4102 + v4093)) } : WaterNode)) v4095 v4098 _ _ g4107
    obtain ⟨j4111, x4112, g4113, h⟩ := un2 h
    obtain ⟨g41131, g41132⟩ := geti_in g4113
    have g41133 := ac_Range g41132
    try simp only [wn] at g41131
    obtain ⟨r4116, g4114, h⟩ := un1 h
    obtain ⟨N4115, kN4115⟩ := c125_0 x4112.fLo x4112.fHi v4092 _ g4114
    by_cases c4117 : r4116 = 2
    · rw [if_pos c4117] at h
      have c4117d := dt c4117
      cases h
      refine ⟨N4108 + N4115, fun n hn => ?_⟩
      have kN4108 := kN4108 n (by omega)
      try simp (maxSteps := 2000000) only [wn, rc_WaterNode] at kN4108
      have kN4115 := kN4115 n (by omega)
      try simp (maxSteps := 2000000) only [wn, rc_Range, rc_WaterNode] at kN4115
      simp (maxSteps := 2000000) only [W, reduceIte, Nat.reduceEqDiff, Nat.reduceAdd, Nat.reduceSub, Nat.reduceLT, Nat.reduceLeDiff, Nat.reduceMul, h62l0_0, q62l0_0, a62l0b, rc_Range, rc_WaterNode, c4103d, g41061, g41063, kN4108, g41131, g41133, kN4115, c4117d]
    · rw [if_neg c4117] at h
      have c4117d := df c4117
      cases h
      refine ⟨N4108 + N4115, fun n hn => ?_⟩
      have kN4108 := kN4108 n (by omega)
      try simp (maxSteps := 2000000) only [wn, rc_WaterNode] at kN4108
      have kN4115 := kN4115 n (by omega)
      try simp (maxSteps := 2000000) only [wn, rc_Range, rc_WaterNode] at kN4115
      simp (maxSteps := 2000000) only [W, reduceIte, Nat.reduceEqDiff, Nat.reduceAdd, Nat.reduceSub, Nat.reduceLT, Nat.reduceLeDiff, Nat.reduceMul, h62l0_0, q62l0_0, a62l0b, rc_Range, rc_WaterNode, c4103d, g41061, g41063, kN4108, g41131, g41133, kN4115, c4117d]
  · rw [if_neg c4103] at h
    have c4103d := df c4103
    cases h
    refine ⟨0, fun n hn => ?_⟩
    simp (maxSteps := 2000000) only [W, reduceIte, Nat.reduceEqDiff, Nat.reduceAdd, Nat.reduceSub, Nat.reduceLT, Nat.reduceLeDiff, Nat.reduceMul, h62l0_0, q62l0_0, a62l0b, rc_Range, rc_WaterNode, c4103d]
theorem c62_0 (z0 : Bool) (z1 : Bool) (v4063 : Int) (v4064 : Int) (v4065 : List WaterNode) (v4066 : List WaterConduit) (r4124 : Int) (r4125 : Int) (h : F62_0 v4063 v4064 v4065 v4066 = some (r4124, r4125)) : Ev fun n => (ex tab n).call 62 [.agg [.slice 0 0 v4065.length v4065.length 4 false, .slice 1 0 v4066.length v4066.length 6 false], .int .i64 v4063, .int .i64 v4064] [.row z0 true (rowC v4065), .row z1 true (rowC v4066)] = some (.tup [.int .i64 r4124, .int .i64 r4125], [.row z0 true (rowC v4065), .row z1 true (rowC v4066)]) := by
  unfold F62_0 at h
  obtain ⟨g4067_, g4067, h⟩ := un1 h
  rcases g4067_ with ⟨r4069, r4070, r4071⟩ | r4122
  · dsimp only at h
    obtain ⟨N4068, kN4068⟩ := c124_0 z0 z1 v4063 v4064 v4065 v4066 _ g4067
    by_cases c4072 : r4070 = 0
    · rw [if_pos c4072] at h
      have c4072d := dt c4072
      obtain ⟨j4073, x4074, g4075, h⟩ := un2 h
      obtain ⟨g40751, g40752⟩ := geti_in g4075
      have g40753 := ac_WaterNode g40752
      try simp only [wn] at g40751
      obtain ⟨r4078, g4076, h⟩ := un1 h
      obtain ⟨N4077, kN4077⟩ := c72_0 (!x4074.fLake) 15 _ g4076
      obtain ⟨r4081, g4079, h⟩ := un1 h
      obtain ⟨N4080, kN4080⟩ := c72_0 (decide (x4074.fDraw ≤ 9900)) 2 _ g4079
      obtain ⟨r4084, g4082, h⟩ := un1 h
      obtain ⟨N4083, kN4083⟩ := c71_0 true ([r4078, r4081] : List Int) _ g4082
      by_cases c4085 : r4084 = 0
      · rw [if_pos c4085] at h
        have c4085d := dt c4085
        obtain ⟨_, g4089, h⟩ := un1 h
        obtain ⟨N4090, kN4090⟩ := c126_0 z0 v4065 g4089
        obtain ⟨g4119_, g4119, h⟩ := un1 h
        rcases g4119_ with r4121 | _
        · dsimp only at h
          have kN4120 := k62l0_0 z0 z1 v4063 v4064 v4065 v4066 r4069 r4071 x4074.fName x4074.fLake x4074.fHead x4074.fDraw (100, v4065) _ g4119
          obtain ⟨N4120, kN4120⟩ := kN4120
          cases h
          refine ev_call (fn := a62) rfl ⟨N4068 + N4077 + N4080 + N4083 + N4090 + N4120, fun n hn => ?_⟩
          have kN4068 := kN4068 n (by omega)
          try simp (maxSteps := 2000000) only [wn] at kN4068
          have kN4077 := kN4077 n (by omega)
          try simp (maxSteps := 2000000) only [wn, rc_Branch, rc_WaterConduit, rc_WaterNode] at kN4077
          have kN4080 := kN4080 n (by omega)
          try simp (maxSteps := 2000000) only [wn, rc_Branch, rc_WaterConduit, rc_WaterNode] at kN4080
          have kN4083 := kN4083 n (by omega)
          try simp (maxSteps := 2000000) only [wn, rc_Branch, rc_WaterConduit, rc_WaterNode] at kN4083
          have kN4090 := kN4090 n (by omega)
          try simp (maxSteps := 2000000) only [wn, rc_Branch, rc_WaterConduit, rc_WaterNode] at kN4090
          have kN4120 := kN4120 n (by omega)
          simp (maxSteps := 2000000) only [h62l0_0, q62l0_0, wn, rc_Branch, rc_Range, rc_WaterConduit, rc_WaterNode] at kN4120
          simp (maxSteps := 2000000) only [W, reduceIte, Nat.reduceEqDiff, Nat.reduceAdd, Nat.reduceSub, Nat.reduceLT, Nat.reduceLeDiff, Nat.reduceMul, a62, a62l0, rc_Branch, rc_Range, rc_WaterConduit, rc_WaterNode, kN4068, c4072d, g40751, g40753, kN4077, kN4080, kN4083, c4085d, kN4090, kN4120, @x_loopAt, wd]
        · dsimp only at h
          have kN4120 := k62l0_0 z0 z1 v4063 v4064 v4065 v4066 r4069 r4071 x4074.fName x4074.fLake x4074.fHead x4074.fDraw (100, v4065) _ g4119
          obtain ⟨N4120, kN4120⟩ := kN4120
          cases h
          refine ev_call (fn := a62) rfl ⟨N4068 + N4077 + N4080 + N4083 + N4090 + N4120, fun n hn => ?_⟩
          have kN4068 := kN4068 n (by omega)
          try simp (maxSteps := 2000000) only [wn] at kN4068
          have kN4077 := kN4077 n (by omega)
          try simp (maxSteps := 2000000) only [wn, rc_Branch, rc_WaterConduit, rc_WaterNode] at kN4077
          have kN4080 := kN4080 n (by omega)
          try simp (maxSteps := 2000000) only [wn, rc_Branch, rc_WaterConduit, rc_WaterNode] at kN4080
          have kN4083 := kN4083 n (by omega)
          try simp (maxSteps := 2000000) only [wn, rc_Branch, rc_WaterConduit, rc_WaterNode] at kN4083
          have kN4090 := kN4090 n (by omega)
          try simp (maxSteps := 2000000) only [wn, rc_Branch, rc_WaterConduit, rc_WaterNode] at kN4090
          have kN4120 := kN4120 n (by omega)
          simp (maxSteps := 2000000) only [h62l0_0, q62l0_0, wn, rc_Branch, rc_Range, rc_WaterConduit, rc_WaterNode] at kN4120
          simp (maxSteps := 2000000) only [W, reduceIte, Nat.reduceEqDiff, Nat.reduceAdd, Nat.reduceSub, Nat.reduceLT, Nat.reduceLeDiff, Nat.reduceMul, a62, a62l0, rc_Branch, rc_Range, rc_WaterConduit, rc_WaterNode, kN4068, c4072d, g40751, g40753, kN4077, kN4080, kN4083, c4085d, kN4090, kN4120, @x_loopAt, wd]
      · rw [if_neg c4085] at h
        have c4085d := df c4085
        cases h
        refine ev_call (fn := a62) rfl ⟨N4068 + N4077 + N4080 + N4083, fun n hn => ?_⟩
        have kN4068 := kN4068 n (by omega)
        try simp (maxSteps := 2000000) only [wn] at kN4068
        have kN4077 := kN4077 n (by omega)
        try simp (maxSteps := 2000000) only [wn, rc_Branch, rc_WaterConduit, rc_WaterNode] at kN4077
        have kN4080 := kN4080 n (by omega)
        try simp (maxSteps := 2000000) only [wn, rc_Branch, rc_WaterConduit, rc_WaterNode] at kN4080
        have kN4083 := kN4083 n (by omega)
        try simp (maxSteps := 2000000) only [wn, rc_Branch, rc_WaterConduit, rc_WaterNode] at kN4083
        simp (maxSteps := 2000000) only [W, reduceIte, Nat.reduceEqDiff, Nat.reduceAdd, Nat.reduceSub, Nat.reduceLT, Nat.reduceLeDiff, Nat.reduceMul, a62, a62l0, rc_Branch, rc_Range, rc_WaterConduit, rc_WaterNode, kN4068, c4072d, g40751, g40753, kN4077, kN4080, kN4083, c4085d, @x_loopAt, wd]
    · rw [if_neg c4072] at h
      have c4072d := df c4072
      cases h
      refine ev_call (fn := a62) rfl ⟨N4068, fun n hn => ?_⟩
      have kN4068 := kN4068 n (by omega)
      try simp (maxSteps := 2000000) only [wn] at kN4068
      simp (maxSteps := 2000000) only [W, reduceIte, Nat.reduceEqDiff, Nat.reduceAdd, Nat.reduceSub, Nat.reduceLT, Nat.reduceLeDiff, Nat.reduceMul, a62, a62l0, rc_Branch, rc_Range, rc_WaterConduit, rc_WaterNode, kN4068, c4072d, @x_loopAt, wd]
  · dsimp only at h
    obtain ⟨N4068, kN4068⟩ := c124_0 z0 z1 v4063 v4064 v4065 v4066 _ g4067
    by_cases c4123 : r4122 = 0
    · rw [if_pos c4123] at h
      have c4123d := dt c4123
      cases h
    · rw [if_neg c4123] at h
      have c4123d := df c4123
      cases h
      refine ev_call (fn := a62) rfl ⟨N4068, fun n hn => ?_⟩
      have kN4068 := kN4068 n (by omega)
      try simp (maxSteps := 2000000) only [wn, rc_Branch, rc_Range, rc_WaterConduit, rc_WaterNode] at kN4068
      simp (maxSteps := 2000000) only [W, reduceIte, Nat.reduceEqDiff, Nat.reduceAdd, Nat.reduceSub, Nat.reduceLT, Nat.reduceLeDiff, Nat.reduceMul, a62, a62l0, rc_Branch, rc_Range, rc_WaterConduit, rc_WaterNode, kN4068, c4123d, @x_loopAt, wd]
theorem c63_0 (z0 : Bool) (z1 : Bool) (v4130 : Int) (v4131 : Int) (v4132 : List WaterNode) (v4133 : List WaterConduit) (r4152 : Int) (h : F63_0 v4130 v4131 v4132 v4133 = some r4152) : Ev fun n => (ex tab n).call 63 [.agg [.slice 0 0 v4132.length v4132.length 4 false, .slice 1 0 v4133.length v4133.length 6 false], .int .i64 v4130, .int .i64 v4131] [.row z0 true (rowC v4132), .row z1 true (rowC v4133)] = some (.int .i64 r4152, [.row z0 true (rowC v4132), .row z1 true (rowC v4133)]) := by
  unfold F63_0 at h
  obtain ⟨r4136, g4134, h⟩ := un1 h
  obtain ⟨N4135, kN4135⟩ := c38_0 z0 z1 v4132 v4133 _ g4134
  by_cases c4137 : r4136 = 0
  · rw [if_pos c4137] at h
    have c4137d := dt c4137
    obtain ⟨r4140, r4141, r4142, g4138, h⟩ := un3 h
    obtain ⟨N4139, kN4139⟩ := c53_0 z0 z1 v4132 v4133 _ _ _ g4138
    by_cases c4143 : r4142 = 0
    · rw [if_pos c4143] at h
      have c4143d := dt c4143
      obtain ⟨r4146, g4144, h⟩ := un1 h
      obtain ⟨N4145, kN4145⟩ := c33_0 z0 z1 v4130 v4132 v4133 _ g4144
      by_cases c4147 : r4146 = 0
      · rw [if_pos c4147] at h
        have c4147d := dt c4147
        obtain ⟨r4150, g4148, h⟩ := un1 h
        obtain ⟨N4149, kN4149⟩ := c20_0 v4131 0 1000000000 _ g4148
        by_cases c4151 : r4150 = true
        · rw [if_pos c4151] at h
          have c4151d := c4151
          cases h
          refine ev_call (fn := a63) rfl ⟨N4135 + N4139 + N4145 + N4149, fun n hn => ?_⟩
          have kN4135 := kN4135 n (by omega)
          try simp (maxSteps := 2000000) only [wn] at kN4135
          have kN4139 := kN4139 n (by omega)
          try simp (maxSteps := 2000000) only [wn] at kN4139
          have kN4145 := kN4145 n (by omega)
          try simp (maxSteps := 2000000) only [wn] at kN4145
          have kN4149 := kN4149 n (by omega)
          try simp (maxSteps := 2000000) only [wn] at kN4149
          simp (maxSteps := 2000000) only [W, reduceIte, Nat.reduceEqDiff, Nat.reduceAdd, Nat.reduceSub, Nat.reduceLT, Nat.reduceLeDiff, Nat.reduceMul, a63, kN4135, c4137d, kN4139, c4143d, kN4145, c4147d, kN4149, c4151d]
        · rw [if_neg c4151] at h
          have c4151d := bf c4151
          cases h
          refine ev_call (fn := a63) rfl ⟨N4135 + N4139 + N4145 + N4149, fun n hn => ?_⟩
          have kN4135 := kN4135 n (by omega)
          try simp (maxSteps := 2000000) only [wn] at kN4135
          have kN4139 := kN4139 n (by omega)
          try simp (maxSteps := 2000000) only [wn] at kN4139
          have kN4145 := kN4145 n (by omega)
          try simp (maxSteps := 2000000) only [wn] at kN4145
          have kN4149 := kN4149 n (by omega)
          try simp (maxSteps := 2000000) only [wn] at kN4149
          simp (maxSteps := 2000000) only [W, reduceIte, Nat.reduceEqDiff, Nat.reduceAdd, Nat.reduceSub, Nat.reduceLT, Nat.reduceLeDiff, Nat.reduceMul, a63, kN4135, c4137d, kN4139, c4143d, kN4145, c4147d, kN4149, c4151d]
      · rw [if_neg c4147] at h
        have c4147d := df c4147
        cases h
        refine ev_call (fn := a63) rfl ⟨N4135 + N4139 + N4145, fun n hn => ?_⟩
        have kN4135 := kN4135 n (by omega)
        try simp (maxSteps := 2000000) only [wn] at kN4135
        have kN4139 := kN4139 n (by omega)
        try simp (maxSteps := 2000000) only [wn] at kN4139
        have kN4145 := kN4145 n (by omega)
        try simp (maxSteps := 2000000) only [wn] at kN4145
        simp (maxSteps := 2000000) only [W, reduceIte, Nat.reduceEqDiff, Nat.reduceAdd, Nat.reduceSub, Nat.reduceLT, Nat.reduceLeDiff, Nat.reduceMul, a63, kN4135, c4137d, kN4139, c4143d, kN4145, c4147d]
    · rw [if_neg c4143] at h
      have c4143d := df c4143
      cases h
      refine ev_call (fn := a63) rfl ⟨N4135 + N4139, fun n hn => ?_⟩
      have kN4135 := kN4135 n (by omega)
      try simp (maxSteps := 2000000) only [wn] at kN4135
      have kN4139 := kN4139 n (by omega)
      try simp (maxSteps := 2000000) only [wn] at kN4139
      simp (maxSteps := 2000000) only [W, reduceIte, Nat.reduceEqDiff, Nat.reduceAdd, Nat.reduceSub, Nat.reduceLT, Nat.reduceLeDiff, Nat.reduceMul, a63, kN4135, c4137d, kN4139, c4143d]
  · rw [if_neg c4137] at h
    have c4137d := df c4137
    cases h
    refine ev_call (fn := a63) rfl ⟨N4135, fun n hn => ?_⟩
    have kN4135 := kN4135 n (by omega)
    try simp (maxSteps := 2000000) only [wn] at kN4135
    simp (maxSteps := 2000000) only [W, reduceIte, Nat.reduceEqDiff, Nat.reduceAdd, Nat.reduceSub, Nat.reduceLT, Nat.reduceLeDiff, Nat.reduceMul, a63, kN4135, c4137d]
theorem c65_0 (z0 : Bool) (z1 : Bool) (v4177 : Int) (v4178 : Int) (v4179 : List WaterNode) (v4180 : List WaterConduit) (r4195 : Int) (h : F65_0 v4177 v4178 v4179 v4180 = some r4195) : Ev fun n => (ex tab n).call 65 [.agg [.slice 0 0 v4179.length v4179.length 4 false, .slice 1 0 v4180.length v4180.length 6 false], .int .i64 v4177, .int .i64 v4178] [.row z0 true (rowC v4179), .row z1 true (rowC v4180)] = some (.int .i64 r4195, [.row z0 true (rowC v4179), .row z1 true (rowC v4180)]) := by
  unfold F65_0 at h
  obtain ⟨r4183, r4184, r4185, g4181, h⟩ := un3 h
  obtain ⟨N4182, kN4182⟩ := c53_0 z0 z1 v4179 v4180 _ _ _ g4181
  obtain ⟨r4188, r4189, g4186, h⟩ := un2 h
  obtain ⟨N4187, kN4187⟩ := c54_0 z0 z1 r4183 r4184 v4179 v4180 _ _ g4186
  obtain ⟨j4190, x4191, g4192, h⟩ := un2 h
  obtain ⟨g41921, g41922⟩ := geti_in g4192
  have g41923 := ac_Range g41922
  try simp only [wn] at g41921
  by_cases c4193 : v4178 ≤ x4191.fLo
  · rw [if_pos c4193] at h
    have c4193d := dt c4193
    cases h
    refine ev_call (fn := a65) rfl ⟨N4182 + N4187, fun n hn => ?_⟩
    have kN4182 := kN4182 n (by omega)
    try simp (maxSteps := 2000000) only [wn] at kN4182
    have kN4187 := kN4187 n (by omega)
    try simp (maxSteps := 2000000) only [wn] at kN4187
    simp (maxSteps := 2000000) only [W, reduceIte, Nat.reduceEqDiff, Nat.reduceAdd, Nat.reduceSub, Nat.reduceLT, Nat.reduceLeDiff, Nat.reduceMul, a65, rc_Range, kN4182, kN4187, g41921, g41923, c4193d]
  · rw [if_neg c4193] at h
    have c4193d := df c4193
    by_cases c4194 : v4178 ≤ x4191.fHi
    · rw [if_pos c4194] at h
      have c4194d := dt c4194
      cases h
      refine ev_call (fn := a65) rfl ⟨N4182 + N4187, fun n hn => ?_⟩
      have kN4182 := kN4182 n (by omega)
      try simp (maxSteps := 2000000) only [wn] at kN4182
      have kN4187 := kN4187 n (by omega)
      try simp (maxSteps := 2000000) only [wn] at kN4187
      simp (maxSteps := 2000000) only [W, reduceIte, Nat.reduceEqDiff, Nat.reduceAdd, Nat.reduceSub, Nat.reduceLT, Nat.reduceLeDiff, Nat.reduceMul, a65, rc_Range, kN4182, kN4187, g41921, g41923, c4193d, c4194d]
    · rw [if_neg c4194] at h
      have c4194d := df c4194
      cases h
      refine ev_call (fn := a65) rfl ⟨N4182 + N4187, fun n hn => ?_⟩
      have kN4182 := kN4182 n (by omega)
      try simp (maxSteps := 2000000) only [wn] at kN4182
      have kN4187 := kN4187 n (by omega)
      try simp (maxSteps := 2000000) only [wn] at kN4187
      simp (maxSteps := 2000000) only [W, reduceIte, Nat.reduceEqDiff, Nat.reduceAdd, Nat.reduceSub, Nat.reduceLT, Nat.reduceLeDiff, Nat.reduceMul, a65, rc_Range, kN4182, kN4187, g41921, g41923, c4193d, c4194d]
end Go.AI
end
section
/-
  Functions, walked through: guidevaneref02.Most, guidevanelaw02.WaterHeads.
-/
set_option linter.unusedVariables false
set_option linter.unusedSimpArgs false
set_option maxRecDepth 100000
set_option maxHeartbeats 4000000
namespace Go.AI
noncomputable def h64l0_0 (z0 : Bool) (z1 : Bool) (v4166 : Int) (v4167 : Int) (v4169 : List WaterNode) (v4170 : List WaterConduit) : (Int) → Env × Heap
  | v4168 => ([(1, .int .i64 v4166), (2, .int .i64 v4167), (3, .ptr 2 0), (8, .int .i64 v4168)], [.row z0 true (rowC v4169), .row z1 true (rowC v4170), .row true false [.slice 0 0 v4169.length v4169.length 4 false, .slice 1 0 v4170.length v4170.length 6 false]])
noncomputable def q64l0_0 (z0 : Bool) (z1 : Bool) (v4166 : Int) (v4167 : Int) (v4169 : List WaterNode) (v4170 : List WaterConduit) : ((Int) ⊕ (Unit)) → AExit × Env × Heap
  | .inl (r4200) => (.ret, [(6, .int .i64 r4200), (7, .int .i64 0)], [.row z0 true (rowC v4169), .row z1 true (rowC v4170)])
  | .inr (_) => (.exit 0, [(6, .undef), (7, .undef)], [.row z0 true (rowC v4169), .row z1 true (rowC v4170)])
theorem k64l0_0 (z0 : Bool) (z1 : Bool) (v4166 : Int) (v4167 : Int) (v4169 : List WaterNode) (v4170 : List WaterConduit) (s : Int) (o : (Int) ⊕ (Unit)) (h : L64l0_0 v4166 v4167 v4169 v4170 s = some o) : Ev fun n => loopAt [1, 2, 3, 8] [6, 7] a64l0b (ex tab n) 2 (h64l0_0 z0 z1 v4166 v4167 v4169 v4170 s) = some (q64l0_0 z0 z1 v4166 v4167 v4169 v4170 o) := by
  refine iter_sound (S64l0_0 v4166 v4167 v4169 v4170) [1, 2, 3, 8] [6, 7] a64l0b 2 (h64l0_0 z0 z1 v4166 v4167 v4169 v4170) (q64l0_0 z0 z1 v4166 v4167 v4169 v4170) ?_ _ _ _ h
  rintro v4168 z h
  simp only [S64l0_0] at h
  by_cases c4171 : 0 ≤ v4168
  · rw [if_pos c4171] at h
    have c4171d := dt c4171
    obtain ⟨_, g4172, h⟩ := un1 h
    obtain ⟨N4173, kN4173⟩ := c17_0 z0 z1 v4169 v4170 g4172
    obtain ⟨j4174, x4175, g4176, h⟩ := un2 h
    obtain ⟨g41761, g41762⟩ := geti_in g4176
    have g41763 := ac_WaterNode g41762
    try simp only [wn] at g41761
    obtain ⟨r4198, g4196, h⟩ := un1 h
    obtain ⟨N4197, kN4197⟩ := c65_0 true true v4166 v4167 (v4169.set j4174 ({ x4175 with fDraw := (aw .i64 (x4175.fDraw + v4168)) } : WaterNode)) v4170 _ g4196
    by_cases c4199 : r4198 = 2
    · rw [if_pos c4199] at h
      have c4199d := dt c4199
      cases h
      refine ⟨N4173 + N4197, fun n hn => ?_⟩
      have kN4173 := kN4173 n (by omega)
      try simp (maxSteps := 2000000) only [wn] at kN4173
      have kN4197 := kN4197 n (by omega)
      try simp (maxSteps := 2000000) only [wn, rc_WaterConduit, rc_WaterNode] at kN4197
      simp (maxSteps := 2000000) only [W, reduceIte, Nat.reduceEqDiff, Nat.reduceAdd, Nat.reduceSub, Nat.reduceLT, Nat.reduceLeDiff, Nat.reduceMul, h64l0_0, q64l0_0, a64l0b, rc_WaterConduit, rc_WaterNode, c4171d, kN4173, g41761, g41763, kN4197, c4199d, wd]
    · rw [if_neg c4199] at h
      have c4199d := df c4199
      cases h
      refine ⟨N4173 + N4197, fun n hn => ?_⟩
      have kN4173 := kN4173 n (by omega)
      try simp (maxSteps := 2000000) only [wn] at kN4173
      have kN4197 := kN4197 n (by omega)
      try simp (maxSteps := 2000000) only [wn, rc_WaterConduit, rc_WaterNode] at kN4197
      simp (maxSteps := 2000000) only [W, reduceIte, Nat.reduceEqDiff, Nat.reduceAdd, Nat.reduceSub, Nat.reduceLT, Nat.reduceLeDiff, Nat.reduceMul, h64l0_0, q64l0_0, a64l0b, rc_WaterConduit, rc_WaterNode, c4171d, kN4173, g41761, g41763, kN4197, c4199d, wd]
  · rw [if_neg c4171] at h
    have c4171d := df c4171
    cases h
    refine ⟨0, fun n hn => ?_⟩
    simp (maxSteps := 2000000) only [W, reduceIte, Nat.reduceEqDiff, Nat.reduceAdd, Nat.reduceSub, Nat.reduceLT, Nat.reduceLeDiff, Nat.reduceMul, h64l0_0, q64l0_0, a64l0b, rc_WaterConduit, rc_WaterNode, c4171d, wd]
theorem c64_0 (z0 : Bool) (z1 : Bool) (v4157 : Int) (v4158 : Int) (v4159 : List WaterNode) (v4160 : List WaterConduit) (r4204 : Int) (r4205 : Int) (h : F64_0 v4157 v4158 v4159 v4160 = some (r4204, r4205)) : Ev fun n => (ex tab n).call 64 [.agg [.slice 0 0 v4159.length v4159.length 4 false, .slice 1 0 v4160.length v4160.length 6 false], .int .i64 v4157, .int .i64 v4158] [.row z0 true (rowC v4159), .row z1 true (rowC v4160)] = some (.tup [.int .i64 r4204, .int .i64 r4205], [.row z0 true (rowC v4159), .row z1 true (rowC v4160)]) := by
  unfold F64_0 at h
  obtain ⟨j4161, x4162, g4163, h⟩ := un2 h
  obtain ⟨g41631, g41632⟩ := geti_in g4163
  have g41633 := ac_WaterNode g41632
  try simp only [wn] at g41631
  by_cases c4164 : x4162.fLake = true
  · rw [if_pos c4164] at h
    have c4164d := c4164
    cases h
    refine ev_call (fn := a64) rfl ⟨0, fun n hn => ?_⟩
    simp (maxSteps := 2000000) only [W, reduceIte, Nat.reduceEqDiff, Nat.reduceAdd, Nat.reduceSub, Nat.reduceLT, Nat.reduceLeDiff, Nat.reduceMul, a64, a64l0, rc_WaterConduit, rc_WaterNode, g41631, g41633, c4164d, @x_loopAt]
  · rw [if_neg c4164] at h
    have c4164d := bf c4164
    by_cases c4165 : x4162.fDraw ≤ 9900
    · rw [if_pos c4165] at h
      have c4165d := dt c4165
      obtain ⟨g4201_, g4201, h⟩ := un1 h
      rcases g4201_ with r4203 | _
      · dsimp only at h
        have kN4202 := k64l0_0 z0 z1 v4157 v4158 v4159 v4160 100 _ g4201
        obtain ⟨N4202, kN4202⟩ := kN4202
        cases h
        refine ev_call (fn := a64) rfl ⟨N4202, fun n hn => ?_⟩
        have kN4202 := kN4202 n (by omega)
        simp (maxSteps := 2000000) only [h64l0_0, q64l0_0, wn, rc_WaterConduit, rc_WaterNode, c4164d] at kN4202
        simp (maxSteps := 2000000) only [W, reduceIte, Nat.reduceEqDiff, Nat.reduceAdd, Nat.reduceSub, Nat.reduceLT, Nat.reduceLeDiff, Nat.reduceMul, a64, a64l0, rc_WaterConduit, rc_WaterNode, g41631, g41633, c4164d, c4165d, kN4202, @x_loopAt]
      · dsimp only at h
        have kN4202 := k64l0_0 z0 z1 v4157 v4158 v4159 v4160 100 _ g4201
        obtain ⟨N4202, kN4202⟩ := kN4202
        cases h
        refine ev_call (fn := a64) rfl ⟨N4202, fun n hn => ?_⟩
        have kN4202 := kN4202 n (by omega)
        simp (maxSteps := 2000000) only [h64l0_0, q64l0_0, wn, rc_WaterConduit, rc_WaterNode, c4164d] at kN4202
        simp (maxSteps := 2000000) only [W, reduceIte, Nat.reduceEqDiff, Nat.reduceAdd, Nat.reduceSub, Nat.reduceLT, Nat.reduceLeDiff, Nat.reduceMul, a64, a64l0, rc_WaterConduit, rc_WaterNode, g41631, g41633, c4164d, c4165d, kN4202, @x_loopAt]
    · rw [if_neg c4165] at h
      have c4165d := df c4165
      cases h
      refine ev_call (fn := a64) rfl ⟨0, fun n hn => ?_⟩
      simp (maxSteps := 2000000) only [W, reduceIte, Nat.reduceEqDiff, Nat.reduceAdd, Nat.reduceSub, Nat.reduceLT, Nat.reduceLeDiff, Nat.reduceMul, a64, a64l0, rc_WaterConduit, rc_WaterNode, g41631, g41633, c4164d, c4165d, @x_loopAt]
theorem c11_0 (z0 : Bool) (z1 : Bool) (v3968 : Int) (v3969 : Int) (v3970 : List WaterNode) (v3971 : List WaterConduit) (r4219 : Bool) (h : F11_0 v3968 v3969 v3970 v3971 = some r4219) : Ev fun n => (ex tab n).call 11 [.agg [.slice 0 0 v3970.length v3970.length 4 false, .slice 1 0 v3971.length v3971.length 6 false], .int .i64 v3968, .int .i64 v3969] [.row z0 true (rowC v3970), .row z1 true (rowC v3971)] = some (.bool r4219, [.row z0 true (rowC v3970), .row z1 true (rowC v3971)]) := by
  unfold F11_0 at h
  obtain ⟨N3972, kN3972⟩ := awake_ev
  obtain ⟨r3975, g3973, h⟩ := un1 h
  obtain ⟨N3974, kN3974⟩ := c15_0 z0 z1 v3970 v3971 _ g3973
  by_cases c3976 : r3975 = true
  · rw [if_pos c3976] at h
    have c3976d := c3976
    obtain ⟨_, g3977, h⟩ := un1 h
    obtain ⟨N3978, kN3978⟩ := c17_0 z0 z1 v3970 v3971 g3977
    obtain ⟨r4059, r4060, g4057, h⟩ := un2 h
    obtain ⟨N4058, kN4058⟩ := c61_0 true true v3968 v3969 v3970 v3971 _ _ g4057
    obtain ⟨_, g4061, h⟩ := un1 h
    obtain ⟨N4062, kN4062⟩ := c17_0 z0 z1 v3970 v3971 g4061
    obtain ⟨r4128, r4129, g4126, h⟩ := un2 h
    obtain ⟨N4127, kN4127⟩ := c62_0 true true v3968 v3969 v3970 v3971 _ _ g4126
    obtain ⟨r4155, g4153, h⟩ := un1 h
    obtain ⟨N4154, kN4154⟩ := c63_0 z0 z1 v3968 v3969 v3970 v3971 _ g4153
    by_cases c4156 : r4155 = 0
    · rw [if_pos c4156] at h
      have c4156d := dt c4156
      obtain ⟨r4208, r4209, g4206, h⟩ := un2 h
      obtain ⟨N4207, kN4207⟩ := c64_0 z0 z1 v3968 v3969 v3970 v3971 _ _ g4206
      by_cases c4210 : r4060 = 0
      · rw [if_pos c4210] at h
        have c4210d := dt c4210
        obtain ⟨r4213, g4211, h⟩ := un1 h
        obtain ⟨N4212, kN4212⟩ := c65_0 z0 z1 v3968 v3969 v3970 v3971 _ g4211
        by_cases c4214 : r4059 = r4213
        · rw [if_pos c4214] at h
          have c4214d := dt c4214
          by_cases c4215 : r4129 = r4209
          · rw [if_pos c4215] at h
            have c4215d := dt c4215
            cases h
            refine ev_call (fn := a11) rfl ⟨N3972 + N3974 + N3978 + N4058 + N4062 + N4127 + N4154 + N4207 + N4212, fun n hn => ?_⟩
            have kN3972 := kN3972 n (by omega)
            have kN3974 := kN3974 n (by omega)
            try simp (maxSteps := 2000000) only [wn] at kN3974
            have kN3978 := kN3978 n (by omega)
            try simp (maxSteps := 2000000) only [wn] at kN3978
            have kN4058 := kN4058 n (by omega)
            try simp (maxSteps := 2000000) only [wn] at kN4058
            have kN4062 := kN4062 n (by omega)
            try simp (maxSteps := 2000000) only [wn] at kN4062
            have kN4127 := kN4127 n (by omega)
            try simp (maxSteps := 2000000) only [wn] at kN4127
            have kN4154 := kN4154 n (by omega)
            try simp (maxSteps := 2000000) only [wn] at kN4154
            have kN4207 := kN4207 n (by omega)
            try simp (maxSteps := 2000000) only [wn] at kN4207
            have kN4212 := kN4212 n (by omega)
            try simp (maxSteps := 2000000) only [wn] at kN4212
            simp (maxSteps := 2000000) only [W, reduceIte, Nat.reduceEqDiff, Nat.reduceAdd, Nat.reduceSub, Nat.reduceLT, Nat.reduceLeDiff, Nat.reduceMul, a11, kN3972, kN3974, c3976d, kN3978, kN4058, kN4062, kN4127, kN4154, c4156d, kN4207, c4210d, kN4212, c4214d, c4215d]
          · rw [if_neg c4215] at h
            have c4215d := df c4215
            cases h
            refine ev_call (fn := a11) rfl ⟨N3972 + N3974 + N3978 + N4058 + N4062 + N4127 + N4154 + N4207 + N4212, fun n hn => ?_⟩
            have kN3972 := kN3972 n (by omega)
            have kN3974 := kN3974 n (by omega)
            try simp (maxSteps := 2000000) only [wn] at kN3974
            have kN3978 := kN3978 n (by omega)
            try simp (maxSteps := 2000000) only [wn] at kN3978
            have kN4058 := kN4058 n (by omega)
            try simp (maxSteps := 2000000) only [wn] at kN4058
            have kN4062 := kN4062 n (by omega)
            try simp (maxSteps := 2000000) only [wn] at kN4062
            have kN4127 := kN4127 n (by omega)
            try simp (maxSteps := 2000000) only [wn] at kN4127
            have kN4154 := kN4154 n (by omega)
            try simp (maxSteps := 2000000) only [wn] at kN4154
            have kN4207 := kN4207 n (by omega)
            try simp (maxSteps := 2000000) only [wn] at kN4207
            have kN4212 := kN4212 n (by omega)
            try simp (maxSteps := 2000000) only [wn] at kN4212
            simp (maxSteps := 2000000) only [W, reduceIte, Nat.reduceEqDiff, Nat.reduceAdd, Nat.reduceSub, Nat.reduceLT, Nat.reduceLeDiff, Nat.reduceMul, a11, kN3972, kN3974, c3976d, kN3978, kN4058, kN4062, kN4127, kN4154, c4156d, kN4207, c4210d, kN4212, c4214d, c4215d]
        · rw [if_neg c4214] at h
          have c4214d := df c4214
          cases h
          refine ev_call (fn := a11) rfl ⟨N3972 + N3974 + N3978 + N4058 + N4062 + N4127 + N4154 + N4207 + N4212, fun n hn => ?_⟩
          have kN3972 := kN3972 n (by omega)
          have kN3974 := kN3974 n (by omega)
          try simp (maxSteps := 2000000) only [wn] at kN3974
          have kN3978 := kN3978 n (by omega)
          try simp (maxSteps := 2000000) only [wn] at kN3978
          have kN4058 := kN4058 n (by omega)
          try simp (maxSteps := 2000000) only [wn] at kN4058
          have kN4062 := kN4062 n (by omega)
          try simp (maxSteps := 2000000) only [wn] at kN4062
          have kN4127 := kN4127 n (by omega)
          try simp (maxSteps := 2000000) only [wn] at kN4127
          have kN4154 := kN4154 n (by omega)
          try simp (maxSteps := 2000000) only [wn] at kN4154
          have kN4207 := kN4207 n (by omega)
          try simp (maxSteps := 2000000) only [wn] at kN4207
          have kN4212 := kN4212 n (by omega)
          try simp (maxSteps := 2000000) only [wn] at kN4212
          simp (maxSteps := 2000000) only [W, reduceIte, Nat.reduceEqDiff, Nat.reduceAdd, Nat.reduceSub, Nat.reduceLT, Nat.reduceLeDiff, Nat.reduceMul, a11, kN3972, kN3974, c3976d, kN3978, kN4058, kN4062, kN4127, kN4154, c4156d, kN4207, c4210d, kN4212, c4214d]
      · rw [if_neg c4210] at h
        have c4210d := df c4210
        cases h
        refine ev_call (fn := a11) rfl ⟨N3972 + N3974 + N3978 + N4058 + N4062 + N4127 + N4154 + N4207, fun n hn => ?_⟩
        have kN3972 := kN3972 n (by omega)
        have kN3974 := kN3974 n (by omega)
        try simp (maxSteps := 2000000) only [wn] at kN3974
        have kN3978 := kN3978 n (by omega)
        try simp (maxSteps := 2000000) only [wn] at kN3978
        have kN4058 := kN4058 n (by omega)
        try simp (maxSteps := 2000000) only [wn] at kN4058
        have kN4062 := kN4062 n (by omega)
        try simp (maxSteps := 2000000) only [wn] at kN4062
        have kN4127 := kN4127 n (by omega)
        try simp (maxSteps := 2000000) only [wn] at kN4127
        have kN4154 := kN4154 n (by omega)
        try simp (maxSteps := 2000000) only [wn] at kN4154
        have kN4207 := kN4207 n (by omega)
        try simp (maxSteps := 2000000) only [wn] at kN4207
        simp (maxSteps := 2000000) only [W, reduceIte, Nat.reduceEqDiff, Nat.reduceAdd, Nat.reduceSub, Nat.reduceLT, Nat.reduceLeDiff, Nat.reduceMul, a11, kN3972, kN3974, c3976d, kN3978, kN4058, kN4062, kN4127, kN4154, c4156d, kN4207, c4210d]
    · rw [if_neg c4156] at h
      have c4156d := df c4156
      by_cases c4216 : r4060 = r4155
      · rw [if_pos c4216] at h
        have c4216d := dt c4216
        by_cases c4217 : r4129 = r4155
        · rw [if_pos c4217] at h
          have c4217d := dt c4217
          by_cases c4218 : r4059 = 0
          · rw [if_pos c4218] at h
            have c4218d := dt c4218
            cases h
            refine ev_call (fn := a11) rfl ⟨N3972 + N3974 + N3978 + N4058 + N4062 + N4127 + N4154, fun n hn => ?_⟩
            have kN3972 := kN3972 n (by omega)
            have kN3974 := kN3974 n (by omega)
            try simp (maxSteps := 2000000) only [wn] at kN3974
            have kN3978 := kN3978 n (by omega)
            try simp (maxSteps := 2000000) only [wn] at kN3978
            have kN4058 := kN4058 n (by omega)
            try simp (maxSteps := 2000000) only [wn] at kN4058
            have kN4062 := kN4062 n (by omega)
            try simp (maxSteps := 2000000) only [wn] at kN4062
            have kN4127 := kN4127 n (by omega)
            try simp (maxSteps := 2000000) only [wn] at kN4127
            have kN4154 := kN4154 n (by omega)
            try simp (maxSteps := 2000000) only [wn] at kN4154
            simp (maxSteps := 2000000) only [W, reduceIte, Nat.reduceEqDiff, Nat.reduceAdd, Nat.reduceSub, Nat.reduceLT, Nat.reduceLeDiff, Nat.reduceMul, a11, kN3972, kN3974, c3976d, kN3978, kN4058, kN4062, kN4127, kN4154, c4156d, c4216d, c4217d, c4218d]
          · rw [if_neg c4218] at h
            have c4218d := df c4218
            cases h
            refine ev_call (fn := a11) rfl ⟨N3972 + N3974 + N3978 + N4058 + N4062 + N4127 + N4154, fun n hn => ?_⟩
            have kN3972 := kN3972 n (by omega)
            have kN3974 := kN3974 n (by omega)
            try simp (maxSteps := 2000000) only [wn] at kN3974
            have kN3978 := kN3978 n (by omega)
            try simp (maxSteps := 2000000) only [wn] at kN3978
            have kN4058 := kN4058 n (by omega)
            try simp (maxSteps := 2000000) only [wn] at kN4058
            have kN4062 := kN4062 n (by omega)
            try simp (maxSteps := 2000000) only [wn] at kN4062
            have kN4127 := kN4127 n (by omega)
            try simp (maxSteps := 2000000) only [wn] at kN4127
            have kN4154 := kN4154 n (by omega)
            try simp (maxSteps := 2000000) only [wn] at kN4154
            simp (maxSteps := 2000000) only [W, reduceIte, Nat.reduceEqDiff, Nat.reduceAdd, Nat.reduceSub, Nat.reduceLT, Nat.reduceLeDiff, Nat.reduceMul, a11, kN3972, kN3974, c3976d, kN3978, kN4058, kN4062, kN4127, kN4154, c4156d, c4216d, c4217d, c4218d]
        · rw [if_neg c4217] at h
          have c4217d := df c4217
          cases h
          refine ev_call (fn := a11) rfl ⟨N3972 + N3974 + N3978 + N4058 + N4062 + N4127 + N4154, fun n hn => ?_⟩
          have kN3972 := kN3972 n (by omega)
          have kN3974 := kN3974 n (by omega)
          try simp (maxSteps := 2000000) only [wn] at kN3974
          have kN3978 := kN3978 n (by omega)
          try simp (maxSteps := 2000000) only [wn] at kN3978
          have kN4058 := kN4058 n (by omega)
          try simp (maxSteps := 2000000) only [wn] at kN4058
          have kN4062 := kN4062 n (by omega)
          try simp (maxSteps := 2000000) only [wn] at kN4062
          have kN4127 := kN4127 n (by omega)
          try simp (maxSteps := 2000000) only [wn] at kN4127
          have kN4154 := kN4154 n (by omega)
          try simp (maxSteps := 2000000) only [wn] at kN4154
          simp (maxSteps := 2000000) only [W, reduceIte, Nat.reduceEqDiff, Nat.reduceAdd, Nat.reduceSub, Nat.reduceLT, Nat.reduceLeDiff, Nat.reduceMul, a11, kN3972, kN3974, c3976d, kN3978, kN4058, kN4062, kN4127, kN4154, c4156d, c4216d, c4217d]
      · rw [if_neg c4216] at h
        have c4216d := df c4216
        cases h
        refine ev_call (fn := a11) rfl ⟨N3972 + N3974 + N3978 + N4058 + N4062 + N4127 + N4154, fun n hn => ?_⟩
        have kN3972 := kN3972 n (by omega)
        have kN3974 := kN3974 n (by omega)
        try simp (maxSteps := 2000000) only [wn] at kN3974
        have kN3978 := kN3978 n (by omega)
        try simp (maxSteps := 2000000) only [wn] at kN3978
        have kN4058 := kN4058 n (by omega)
        try simp (maxSteps := 2000000) only [wn] at kN4058
        have kN4062 := kN4062 n (by omega)
        try simp (maxSteps := 2000000) only [wn] at kN4062
        have kN4127 := kN4127 n (by omega)
        try simp (maxSteps := 2000000) only [wn] at kN4127
        have kN4154 := kN4154 n (by omega)
        try simp (maxSteps := 2000000) only [wn] at kN4154
        simp (maxSteps := 2000000) only [W, reduceIte, Nat.reduceEqDiff, Nat.reduceAdd, Nat.reduceSub, Nat.reduceLT, Nat.reduceLeDiff, Nat.reduceMul, a11, kN3972, kN3974, c3976d, kN3978, kN4058, kN4062, kN4127, kN4154, c4156d, c4216d]
  · rw [if_neg c3976] at h
    have c3976d := bf c3976
    cases h
    refine ev_call (fn := a11) rfl ⟨N3972 + N3974, fun n hn => ?_⟩
    have kN3972 := kN3972 n (by omega)
    have kN3974 := kN3974 n (by omega)
    try simp (maxSteps := 2000000) only [wn] at kN3974
    simp (maxSteps := 2000000) only [W, reduceIte, Nat.reduceEqDiff, Nat.reduceAdd, Nat.reduceSub, Nat.reduceLT, Nat.reduceLeDiff, Nat.reduceMul, a11, kN3972, kN3974, c3976d]
end Go.AI
end
