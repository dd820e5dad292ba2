/-
  Functions, walked through: water.WetIn, api.WaterConduit], water.net).turned, water.FilledBy, guidevaneref02.NetErr, guidevaneref02.NodeErr, guidevaneref02.reach, guidevaneref02.indexes, guidevaneref02.Reached.
-/
import Derived.Test.YtfglifekecijjaaCAiY
import Derived.Test.YtfglifekecijjaaCAiTab
import Derived.Test.YtfglifekecijjaaCAiAwake
import Derived.Test.YtfglifekecijjaaCWnF
import Derived.Test.YtfglifekecijjaaCWn0
import Derived.Test.YtfglifekecijjaaCWn3
import Derived.Test.YtfglifekecijjaaCWn4
import Derived.Test.YtfglifekecijjaaCWn8
set_option linter.unusedVariables false
set_option linter.unusedSimpArgs false
set_option maxRecDepth 100000
set_option maxHeartbeats 4000000
namespace Go.AI
theorem c30_0 (z0 : Bool) (z1 : Bool) (v1089 : List WaterNode) (v1090 : List WaterConduit) (r1153 : Int) (r1154 : List Int) (h : F30_0 v1089 v1090 = some (r1153, r1154)) : Ev fun n => (ex tab n).call 30 [.agg [.slice 0 0 v1089.length v1089.length 4 false, .slice 1 0 v1090.length v1090.length 6 false]] [.row z0 true (rowC v1089), .row z1 true (rowC v1090)] = some (.tup [.slice 2 0 r1154.length r1154.length 1 false, .int .i64 r1153], [.row z0 true (rowC v1089), .row z1 true (rowC v1090), .row true true (rowC r1154)]) := by
  unfold F30_0 at h
  obtain ⟨r1093, g1091, h⟩ := un1 h
  obtain ⟨N1092, kN1092⟩ := c87_0 z0 z1 v1089 v1090 _ g1091
  by_cases c1094 : r1093 = 0
  · rw [if_pos c1094] at h
    have c1094d := dt c1094
    obtain ⟨r1149, g1147, h⟩ := un1 h
    obtain ⟨N1148, kN1148⟩ := c92_0 z0 z1 v1089 v1090 _ g1147
    obtain ⟨r1152, g1150, h⟩ := un1 h
    obtain ⟨N1151, kN1151⟩ := c89_0 true r1149 _ g1150
    cases h
    refine ev_call (fn := a30) rfl ⟨N1092 + N1148 + N1151, fun n hn => ?_⟩
    have kN1092 := kN1092 n (by omega)
    try simp (maxSteps := 2000000) only [wn] at kN1092
    have kN1148 := kN1148 n (by omega)
    try simp (maxSteps := 2000000) only [wn, rc_WaterConduit, rc_WaterNode] at kN1148
    have kN1151 := kN1151 n (by omega)
    try simp (maxSteps := 2000000) only [wn, rc_WaterConduit, rc_WaterNode] at kN1151
    simp (maxSteps := 2000000) only [W, reduceIte, Nat.reduceEqDiff, Nat.reduceAdd, Nat.reduceSub, Nat.reduceLT, Nat.reduceLeDiff, Nat.reduceMul, a30, rc_WaterConduit, rc_WaterNode, kN1092, c1094d, kN1148, kN1151]
  · rw [if_neg c1094] at h
    have c1094d := df c1094
    cases h
    refine ev_call (fn := a30) rfl ⟨N1092, fun n hn => ?_⟩
    have kN1092 := kN1092 n (by omega)
    try simp (maxSteps := 2000000) only [wn] at kN1092
    simp (maxSteps := 2000000) only [W, reduceIte, Nat.reduceEqDiff, Nat.reduceAdd, Nat.reduceSub, Nat.reduceLT, Nat.reduceLeDiff, Nat.reduceMul, a30, rc_WaterConduit, rc_WaterNode, kN1092, c1094d]
theorem c136_0 (z0 : Bool) (v1185 : List WaterConduit) (h : F136_0 v1185 = some ()) : Ev fun n => (ex tab n).call 136 [.slice 0 0 v1185.length v1185.length 6 false] [.row z0 true (rowC v1185)] = some (.slice 1 0 v1185.length v1185.length 6 false, [.row z0 true (rowC v1185), .row true true (rowC v1185)]) := by
  unfold F136_0 at h
  by_cases c1186 : v1185.length = 0
  · rw [if_pos c1186] at h
    have c1186d := dt c1186
    cases h
  · rw [if_neg c1186] at h
    have c1186d := df c1186
    obtain ⟨g1187, h⟩ := un_roomd h
    cases h
    refine ev_call (fn := a136) rfl ⟨0, fun n hn => ?_⟩
    simp (maxSteps := 2000000) only [W, reduceIte, Nat.reduceEqDiff, Nat.reduceAdd, Nat.reduceSub, Nat.reduceLT, Nat.reduceLeDiff, Nat.reduceMul, a136, rc_WaterConduit, c1186d, g1187]
theorem c93_0 (z0 : Bool) (z1 : Bool) (v1181 : Int) (v1182 : Bool) (v1183 : List WaterNode) (v1184 : List WaterConduit) (r1193 : List WaterConduit) (h : F93_0 v1181 v1182 v1183 v1184 = some r1193) : Ev fun n => (ex tab n).call 93 [.agg [.slice 0 0 v1183.length v1183.length 4 false, .slice 1 0 v1184.length v1184.length 6 false], .int .i64 v1181, .bool v1182] [.row z0 true (rowC v1183), .row z1 true (rowC v1184)] = some (.agg [.slice 0 0 v1183.length v1183.length 4 false, .slice 2 0 r1193.length r1193.length 6 false], [.row z0 true (rowC v1183), .row z1 true (rowC v1184), .row true true (rowC r1193)]) := by
  unfold F93_0 at h
  obtain ⟨_, g1188, h⟩ := un1 h
  obtain ⟨N1189, kN1189⟩ := c136_0 false v1184 g1188
  obtain ⟨j1190, x1191, g1192, h⟩ := un2 h
  obtain ⟨g11921, g11922⟩ := geti_in g1192
  have g11923 := ac_WaterConduit g11922
  try simp only [wn] at g11921
  cases h
  refine ev_call (fn := a93) rfl ⟨N1189, fun n hn => ?_⟩
  have kN1189 := kN1189 n (by omega)
  try simp (maxSteps := 2000000) only [wn, rc_WaterConduit, rc_WaterNode] at kN1189
  simp (maxSteps := 2000000) only [W, reduceIte, Nat.reduceEqDiff, Nat.reduceAdd, Nat.reduceSub, Nat.reduceLT, Nat.reduceLeDiff, Nat.reduceMul, a93, rc_WaterConduit, rc_WaterNode, kN1189, g11921, g11923, wd]
noncomputable def h31l0_0 (z0 : Bool) (z1 : Bool) (v1206 : Int) (v1208 : List WaterNode) (v1209 : List WaterConduit) (v1210 : List Bool) : (Int × (List Bool)) → Env × Heap
  | (v1207, v1211) => ([(8, .slice 2 0 v1210.length v1210.length 1 false), (9, .slice 3 0 v1211.length v1211.length 1 false), (46, .int .i64 v1206), (47, .int .i64 v1207)], [.row z0 true (rowC v1208), .row z1 true (rowC v1209), .row true true (rowC v1210), .row true true (rowC v1211)])
noncomputable def q31l0_0 (z0 : Bool) (z1 : Bool) (v1206 : Int) (v1208 : List WaterNode) (v1209 : List WaterConduit) (v1210 : List Bool) : ((List Bool)) → AExit × Env × Heap
  | r1220 => (.exit 0, [(4, .undef), (5, .undef), (9, .slice 2 0 r1220.length r1220.length 1 false)], [.row z0 true (rowC v1208), .row z1 true (rowC v1209), .row true true (rowC r1220)])
theorem k31l0_0 (z0 : Bool) (z1 : Bool) (v1206 : Int) (v1208 : List WaterNode) (v1209 : List WaterConduit) (v1210 : List Bool) (s : Int × (List Bool)) (o : (List Bool)) (h : L31l0_0 v1206 v1208 v1209 v1210 s = some o) : Ev fun n => loopAt [8, 9, 46, 47] [4, 5, 9] a31l0b (ex tab n) 2 (h31l0_0 z0 z1 v1206 v1208 v1209 v1210 s) = some (q31l0_0 z0 z1 v1206 v1208 v1209 v1210 o) := by
  refine iter_sound (S31l0_0 v1206 v1208 v1209 v1210) [8, 9, 46, 47] [4, 5, 9] a31l0b 2 (h31l0_0 z0 z1 v1206 v1208 v1209 v1210) (q31l0_0 z0 z1 v1206 v1208 v1209 v1210) ?_ _ _ _ h
  rintro ⟨v1207, v1211⟩ z h
  simp only [S31l0_0] at h
  by_cases c1212 : v1206 ≤ v1207
  · rw [if_pos c1212] at h
    have c1212d := dt c1212
    cases h
    refine ⟨0, fun n hn => ?_⟩
    simp (maxSteps := 2000000) only [W, reduceIte, Nat.reduceEqDiff, Nat.reduceAdd, Nat.reduceSub, Nat.reduceLT, Nat.reduceLeDiff, Nat.reduceMul, h31l0_0, q31l0_0, a31l0b, c1212d]
  · rw [if_neg c1212] at h
    have c1212d := df c1212
    obtain ⟨j1213, x1214, g1215, h⟩ := un2 h
    obtain ⟨g12151, g12152⟩ := geti_in g1215
    have g12153 := ac_Bool g12152
    try simp only [wn] at g12151
    by_cases c1216 : x1214 = true
    · rw [if_pos c1216] at h
      have c1216d := c1216
      obtain ⟨j1217, x1218, g1219, h⟩ := un2 h
      obtain ⟨g12191, g12192⟩ := geti_in g1219
      have g12193 := ac_Bool g12192
      try simp only [wn] at g12191
      cases h
      refine ⟨0, fun n hn => ?_⟩
      simp (maxSteps := 2000000) only [W, reduceIte, Nat.reduceEqDiff, Nat.reduceAdd, Nat.reduceSub, Nat.reduceLT, Nat.reduceLeDiff, Nat.reduceMul, h31l0_0, q31l0_0, a31l0b, c1212d, g12151, g12153, c1216d, g12191, g12193]
    · rw [if_neg c1216] at h
      have c1216d := bf c1216
      cases h
      refine ⟨0, fun n hn => ?_⟩
      simp (maxSteps := 2000000) only [W, reduceIte, Nat.reduceEqDiff, Nat.reduceAdd, Nat.reduceSub, Nat.reduceLT, Nat.reduceLeDiff, Nat.reduceMul, h31l0_0, q31l0_0, a31l0b, c1212d, g12151, g12153, c1216d]
theorem c31_0 (z0 : Bool) (z1 : Bool) (v1161 : Int) (v1162 : List WaterNode) (v1163 : List WaterConduit) (r1227 : Int) (r1228 : List Int) (h : F31_0 v1161 v1162 v1163 = some (r1227, r1228)) : Ev fun n => (ex tab n).call 31 [.agg [.slice 0 0 v1162.length v1162.length 4 false, .slice 1 0 v1163.length v1163.length 6 false], .int .i64 v1161] [.row z0 true (rowC v1162), .row z1 true (rowC v1163)] = some (.tup [.slice 2 0 r1228.length r1228.length 1 false, .int .i64 r1227], [.row z0 true (rowC v1162), .row z1 true (rowC v1163), .row true true (rowC r1228)]) := by
  unfold F31_0 at h
  obtain ⟨r1166, g1164, h⟩ := un1 h
  obtain ⟨N1165, kN1165⟩ := c87_0 z0 z1 v1162 v1163 _ g1164
  obtain ⟨r1169, g1167, h⟩ := un1 h
  obtain ⟨N1168, kN1168⟩ := c74_0 v1161 0 (aw .i64 ((v1163.length : Int) - 1)) _ g1167
  obtain ⟨r1172, g1170, h⟩ := un1 h
  obtain ⟨N1171, kN1171⟩ := c72_0 r1169 6 _ g1170
  obtain ⟨r1175, g1173, h⟩ := un1 h
  obtain ⟨N1174, kN1174⟩ := c71_0 true ([r1166, r1172] : List Int) _ g1173
  by_cases c1176 : r1175 = 0
  · rw [if_pos c1176] at h
    have c1176d := dt c1176
    obtain ⟨j1177, x1178, g1179, h⟩ := un2 h
    obtain ⟨g11791, g11792⟩ := geti_in g1179
    have g11793 := ac_WaterConduit g11792
    try simp only [wn] at g11791
    by_cases c1180 : x1178.fValve = true
    · rw [if_pos c1180] at h
      have c1180d := c1180
      obtain ⟨r1196, g1194, h⟩ := un1 h
      obtain ⟨N1195, kN1195⟩ := c93_0 z0 z1 v1161 false v1162 v1163 _ g1194
      obtain ⟨r1199, g1197, h⟩ := un1 h
      obtain ⟨N1198, kN1198⟩ := c92_0 z0 true v1162 r1196 _ g1197
      obtain ⟨r1202, g1200, h⟩ := un1 h
      obtain ⟨N1201, kN1201⟩ := c93_0 z0 z1 v1161 true v1162 v1163 _ g1200
      obtain ⟨r1205, g1203, h⟩ := un1 h
      obtain ⟨N1204, kN1204⟩ := c92_0 z0 true v1162 r1202 _ g1203
      obtain ⟨r1223, g1221, h⟩ := un1 h
      have kN1222 := k31l0_0 z0 z1 (r1205.length : Int) v1162 v1163 r1199 (0, r1205) _ g1221
      obtain ⟨N1222, kN1222⟩ := kN1222
      obtain ⟨r1226, g1224, h⟩ := un1 h
      obtain ⟨N1225, kN1225⟩ := c89_0 true r1223 _ g1224
      cases h
      refine ev_call (fn := a31) rfl ⟨N1165 + N1168 + N1171 + N1174 + N1195 + N1198 + N1201 + N1204 + N1222 + N1225, fun n hn => ?_⟩
      have kN1165 := kN1165 n (by omega)
      try simp (maxSteps := 2000000) only [wn, c1180d] at kN1165
      have kN1168 := kN1168 n (by omega)
      try simp (maxSteps := 2000000) only [wn, rc_WaterConduit, rc_WaterNode, c1180d] at kN1168
      have kN1171 := kN1171 n (by omega)
      try simp (maxSteps := 2000000) only [wn, rc_WaterConduit, rc_WaterNode, c1180d] at kN1171
      have kN1174 := kN1174 n (by omega)
      try simp (maxSteps := 2000000) only [wn, rc_WaterConduit, rc_WaterNode, c1180d] at kN1174
      have kN1195 := kN1195 n (by omega)
      try simp (maxSteps := 2000000) only [wn, rc_WaterConduit, rc_WaterNode, c1180d] at kN1195
      have kN1198 := kN1198 n (by omega)
      try simp (maxSteps := 2000000) only [wn, rc_WaterConduit, rc_WaterNode, c1180d] at kN1198
      have kN1201 := kN1201 n (by omega)
      try simp (maxSteps := 2000000) only [wn, rc_WaterConduit, rc_WaterNode, c1180d] at kN1201
      have kN1204 := kN1204 n (by omega)
      try simp (maxSteps := 2000000) only [wn, rc_WaterConduit, rc_WaterNode, c1180d] at kN1204
      have kN1222 := kN1222 n (by omega)
      simp (maxSteps := 2000000) only [h31l0_0, q31l0_0, wn, rc_WaterConduit, rc_WaterNode, c1180d] at kN1222
      have kN1225 := kN1225 n (by omega)
      try simp (maxSteps := 2000000) only [wn, rc_WaterConduit, rc_WaterNode, c1180d] at kN1225
      simp (maxSteps := 2000000) only [W, reduceIte, Nat.reduceEqDiff, Nat.reduceAdd, Nat.reduceSub, Nat.reduceLT, Nat.reduceLeDiff, Nat.reduceMul, a31, a31l0, rc_WaterConduit, rc_WaterNode, kN1165, kN1168, kN1171, kN1174, c1176d, g11791, g11793, c1180d, kN1195, kN1198, kN1201, kN1204, kN1222, kN1225, @x_loopAt]
    · rw [if_neg c1180] at h
      have c1180d := bf c1180
      cases h
      refine ev_call (fn := a31) rfl ⟨N1165 + N1168 + N1171 + N1174, fun n hn => ?_⟩
      have kN1165 := kN1165 n (by omega)
      try simp (maxSteps := 2000000) only [wn, c1180d] at kN1165
      have kN1168 := kN1168 n (by omega)
      try simp (maxSteps := 2000000) only [wn, rc_WaterConduit, rc_WaterNode, c1180d] at kN1168
      have kN1171 := kN1171 n (by omega)
      try simp (maxSteps := 2000000) only [wn, rc_WaterConduit, rc_WaterNode, c1180d] at kN1171
      have kN1174 := kN1174 n (by omega)
      try simp (maxSteps := 2000000) only [wn, rc_WaterConduit, rc_WaterNode, c1180d] at kN1174
      simp (maxSteps := 2000000) only [W, reduceIte, Nat.reduceEqDiff, Nat.reduceAdd, Nat.reduceSub, Nat.reduceLT, Nat.reduceLeDiff, Nat.reduceMul, a31, a31l0, rc_WaterConduit, rc_WaterNode, kN1165, kN1168, kN1171, kN1174, c1176d, g11791, g11793, c1180d, @x_loopAt]
  · rw [if_neg c1176] at h
    have c1176d := df c1176
    cases h
    refine ev_call (fn := a31) rfl ⟨N1165 + N1168 + N1171 + N1174, fun n hn => ?_⟩
    have kN1165 := kN1165 n (by omega)
    try simp (maxSteps := 2000000) only [wn] at kN1165
    have kN1168 := kN1168 n (by omega)
    try simp (maxSteps := 2000000) only [wn, rc_WaterConduit, rc_WaterNode] at kN1168
    have kN1171 := kN1171 n (by omega)
    try simp (maxSteps := 2000000) only [wn, rc_WaterConduit, rc_WaterNode] at kN1171
    have kN1174 := kN1174 n (by omega)
    try simp (maxSteps := 2000000) only [wn, rc_WaterConduit, rc_WaterNode] at kN1174
    simp (maxSteps := 2000000) only [W, reduceIte, Nat.reduceEqDiff, Nat.reduceAdd, Nat.reduceSub, Nat.reduceLT, Nat.reduceLeDiff, Nat.reduceMul, a31, a31l0, rc_WaterConduit, rc_WaterNode, kN1165, kN1168, kN1171, kN1174, c1176d, @x_loopAt]
theorem c32_0 (z0 : Bool) (z1 : Bool) (v1233 : List WaterNode) (v1234 : List WaterConduit) (r1239 : Int) (h : F32_0 v1233 v1234 = some r1239) : Ev fun n => (ex tab n).call 32 [.agg [.slice 0 0 v1233.length v1233.length 4 false, .slice 1 0 v1234.length v1234.length 6 false]] [.row z0 true (rowC v1233), .row z1 true (rowC v1234)] = some (.int .i64 r1239, [.row z0 true (rowC v1233), .row z1 true (rowC v1234)]) := by
  unfold F32_0 at h
  obtain ⟨r1237, r1238, g1235, h⟩ := un2 h
  obtain ⟨N1236, kN1236⟩ := c19_0 z0 z1 v1233 v1234 _ _ g1235
  cases h
  refine ev_call (fn := a32) rfl ⟨N1236, fun n hn => ?_⟩
  have kN1236 := kN1236 n (by omega)
  try simp (maxSteps := 2000000) only [wn] at kN1236
  simp (maxSteps := 2000000) only [W, reduceIte, Nat.reduceEqDiff, Nat.reduceAdd, Nat.reduceSub, Nat.reduceLT, Nat.reduceLeDiff, Nat.reduceMul, a32, kN1236]
theorem c33_0 (z0 : Bool) (z1 : Bool) (v1244 : Int) (v1245 : List WaterNode) (v1246 : List WaterConduit) (r1251 : Int) (h : F33_0 v1244 v1245 v1246 = some r1251) : Ev fun n => (ex tab n).call 33 [.agg [.slice 0 0 v1245.length v1245.length 4 false, .slice 1 0 v1246.length v1246.length 6 false], .int .i64 v1244] [.row z0 true (rowC v1245), .row z1 true (rowC v1246)] = some (.int .i64 r1251, [.row z0 true (rowC v1245), .row z1 true (rowC v1246)]) := by
  unfold F33_0 at h
  obtain ⟨r1249, g1247, h⟩ := un1 h
  obtain ⟨N1248, kN1248⟩ := c20_0 v1244 0 (aw .i64 ((v1245.length : Int) - 1)) _ g1247
  by_cases c1250 : r1249 = true
  · rw [if_pos c1250] at h
    have c1250d := c1250
    cases h
    refine ev_call (fn := a33) rfl ⟨N1248, fun n hn => ?_⟩
    have kN1248 := kN1248 n (by omega)
    try simp (maxSteps := 2000000) only [wn] at kN1248
    simp (maxSteps := 2000000) only [W, reduceIte, Nat.reduceEqDiff, Nat.reduceAdd, Nat.reduceSub, Nat.reduceLT, Nat.reduceLeDiff, Nat.reduceMul, a33, kN1248, c1250d]
  · rw [if_neg c1250] at h
    have c1250d := bf c1250
    cases h
    refine ev_call (fn := a33) rfl ⟨N1248, fun n hn => ?_⟩
    have kN1248 := kN1248 n (by omega)
    try simp (maxSteps := 2000000) only [wn] at kN1248
    simp (maxSteps := 2000000) only [W, reduceIte, Nat.reduceEqDiff, Nat.reduceAdd, Nat.reduceSub, Nat.reduceLT, Nat.reduceLeDiff, Nat.reduceMul, a33, kN1248, c1250d]
noncomputable def h95l0_0 (z0 : Bool) (z1 : Bool) (z2 : Bool) (v1276 : Int) (v1278 : List WaterNode) (v1279 : List WaterConduit) (v1280 : List Bool) : (Int × (List Bool)) → Env × Heap
  | (v1277, v1281) => ([(2, .ptr 3 0), (5, .slice 4 0 v1281.length v1281.length 1 false), (6, .int .i64 v1276), (7, .int .i64 v1277)], [.row z0 true (rowC v1278), .row z1 true (rowC v1279), .row z2 true (rowC v1280), .row true false [.slice 0 0 v1278.length v1278.length 4 false, .slice 1 0 v1279.length v1279.length 6 false], .row true true (rowC v1281)])
noncomputable def q95l0_0 (z0 : Bool) (z1 : Bool) (z2 : Bool) (v1276 : Int) (v1278 : List WaterNode) (v1279 : List WaterConduit) (v1280 : List Bool) : ((List Bool)) → AExit × Env × Heap
  | r1300 => (.exit 2, [(2, .ptr 3 0), (4, .undef), (5, .slice 4 0 r1300.length r1300.length 1 false), (6, .int .i64 v1276)], [.row z0 true (rowC v1278), .row z1 true (rowC v1279), .row z2 true (rowC v1280), .row true false [.slice 0 0 v1278.length v1278.length 4 false, .slice 1 0 v1279.length v1279.length 6 false], .row true true (rowC r1300)])
theorem k95l0_0 (z0 : Bool) (z1 : Bool) (z2 : Bool) (v1276 : Int) (v1278 : List WaterNode) (v1279 : List WaterConduit) (v1280 : List Bool) (s : Int × (List Bool)) (o : (List Bool)) (h : L95l0_0 v1276 v1278 v1279 v1280 s = some o) : Ev fun n => loopAt [2, 5, 6, 7] [2, 4, 5, 6] a95l0b (ex tab n) 3 (h95l0_0 z0 z1 z2 v1276 v1278 v1279 v1280 s) = some (q95l0_0 z0 z1 z2 v1276 v1278 v1279 v1280 o) := by
  refine iter_sound (S95l0_0 v1276 v1278 v1279 v1280) [2, 5, 6, 7] [2, 4, 5, 6] a95l0b 3 (h95l0_0 z0 z1 z2 v1276 v1278 v1279 v1280) (q95l0_0 z0 z1 z2 v1276 v1278 v1279 v1280) ?_ _ _ _ h
  rintro ⟨v1277, v1281⟩ z h
  simp only [S95l0_0] at h
  by_cases c1282 : (v1279.length : Int) ≤ v1277
  · rw [if_pos c1282] at h
    have c1282d := dt c1282
    cases h
    refine ⟨0, fun n hn => ?_⟩
    simp (maxSteps := 2000000) only [W, reduceIte, Nat.reduceEqDiff, Nat.reduceAdd, Nat.reduceSub, Nat.reduceLT, Nat.reduceLeDiff, Nat.reduceMul, h95l0_0, q95l0_0, a95l0b, rc_WaterConduit, c1282d, wd]
  · rw [if_neg c1282] at h
    have c1282d := df c1282
    obtain ⟨j1283, x1284, g1285, h⟩ := un2 h
    obtain ⟨g12851, g12852⟩ := geti_in g1285
    have g12853 := ac_WaterConduit g12852
    try simp only [wn] at g12851
    by_cases c1286 : x1284.fOpen = true
    · rw [if_pos c1286] at h
      have c1286d := c1286
      obtain ⟨j1287, x1288, g1289, h⟩ := un2 h
      obtain ⟨g12891, g12892⟩ := geti_in g1289
      have g12893 := ac_Bool g12892
      try simp only [wn] at g12891
      by_cases c1290 : x1288 = true
      · rw [if_pos c1290] at h
        have c1290d := c1290
        obtain ⟨j1291, x1292, g1293, h⟩ := un2 h
        obtain ⟨g12931, g12932⟩ := geti_in g1293
        have g12933 := ac_Bool g12932
        try simp only [wn] at g12931
        try simp only [wn] at g12933
        cases h
        refine ⟨0, fun n hn => ?_⟩
        simp (maxSteps := 2000000) only [W, reduceIte, Nat.reduceEqDiff, Nat.reduceAdd, Nat.reduceSub, Nat.reduceLT, Nat.reduceLeDiff, Nat.reduceMul, h95l0_0, q95l0_0, a95l0b, rc_WaterConduit, c1282d, g12851, g12853, c1286d, g12891, g12893, c1290d, g12931, g12933, wd]
      · rw [if_neg c1290] at h
        have c1290d := bf c1290
        obtain ⟨j1294, x1295, g1296, h⟩ := un2 h
        obtain ⟨g12961, g12962⟩ := geti_in g1296
        have g12963 := ac_Bool g12962
        try simp only [wn] at g12961
        by_cases c1297 : x1295 = true
        · rw [if_pos c1297] at h
          have c1297d := c1297
          obtain ⟨x1298, g1299, h⟩ := un1 h
          have g12993 := ac_Bool g1299
          cases h
          refine ⟨0, fun n hn => ?_⟩
          simp (maxSteps := 2000000) only [W, reduceIte, Nat.reduceEqDiff, Nat.reduceAdd, Nat.reduceSub, Nat.reduceLT, Nat.reduceLeDiff, Nat.reduceMul, h95l0_0, q95l0_0, a95l0b, rc_WaterConduit, c1282d, g12851, g12853, c1286d, g12891, g12893, c1290d, g12961, g12963, c1297d, g12993, wd]
        · rw [if_neg c1297] at h
          have c1297d := bf c1297
          cases h
          refine ⟨0, fun n hn => ?_⟩
          simp (maxSteps := 2000000) only [W, reduceIte, Nat.reduceEqDiff, Nat.reduceAdd, Nat.reduceSub, Nat.reduceLT, Nat.reduceLeDiff, Nat.reduceMul, h95l0_0, q95l0_0, a95l0b, rc_WaterConduit, c1282d, g12851, g12853, c1286d, g12891, g12893, c1290d, g12961, g12963, c1297d, wd]
    · rw [if_neg c1286] at h
      have c1286d := bf c1286
      cases h
      refine ⟨0, fun n hn => ?_⟩
      simp (maxSteps := 2000000) only [W, reduceIte, Nat.reduceEqDiff, Nat.reduceAdd, Nat.reduceSub, Nat.reduceLT, Nat.reduceLeDiff, Nat.reduceMul, h95l0_0, q95l0_0, a95l0b, rc_WaterConduit, c1282d, g12851, g12853, c1286d, wd]
noncomputable def h95l1_0 (z0 : Bool) (z1 : Bool) (z2 : Bool) (v1271 : List WaterNode) (v1272 : List WaterConduit) (v1273 : List Bool) : (Int × (List Bool)) → Env × Heap
  | (v1270, v1274) => ([(2, .ptr 3 0), (5, .slice 4 0 v1274.length v1274.length 1 false), (6, .int .i64 v1270)], [.row z0 true (rowC v1271), .row z1 true (rowC v1272), .row z2 true (rowC v1273), .row true false [.slice 0 0 v1271.length v1271.length 4 false, .slice 1 0 v1272.length v1272.length 6 false], .row true true (rowC v1274)])
noncomputable def q95l1_0 (z0 : Bool) (z1 : Bool) (z2 : Bool) (v1271 : List WaterNode) (v1272 : List WaterConduit) (v1273 : List Bool) : ((List Bool)) → AExit × Env × Heap
  | r1304 => (.exit 0, [(4, .undef), (5, .slice 3 0 r1304.length r1304.length 1 false)], [.row z0 true (rowC v1271), .row z1 true (rowC v1272), .row z2 true (rowC v1273), .row true true (rowC r1304)])
theorem k95l1_0 (z0 : Bool) (z1 : Bool) (z2 : Bool) (v1271 : List WaterNode) (v1272 : List WaterConduit) (v1273 : List Bool) (s : Int × (List Bool)) (o : (List Bool)) (h : L95l1_0 v1271 v1272 v1273 s = some o) : Ev fun n => loopAt [2, 5, 6] [4, 5] a95l1b (ex tab n) 3 (h95l1_0 z0 z1 z2 v1271 v1272 v1273 s) = some (q95l1_0 z0 z1 z2 v1271 v1272 v1273 o) := by
  refine iter_sound (S95l1_0 v1271 v1272 v1273) [2, 5, 6] [4, 5] a95l1b 3 (h95l1_0 z0 z1 z2 v1271 v1272 v1273) (q95l1_0 z0 z1 z2 v1271 v1272 v1273) ?_ _ _ _ h
  rintro ⟨v1270, v1274⟩ z h
  simp only [S95l1_0] at h
  by_cases c1275 : (v1271.length : Int) ≤ v1270
  · rw [if_pos c1275] at h
    have c1275d := dt c1275
    cases h
    refine ⟨0, fun n hn => ?_⟩
    simp (maxSteps := 2000000) only [W, reduceIte, Nat.reduceEqDiff, Nat.reduceAdd, Nat.reduceSub, Nat.reduceLT, Nat.reduceLeDiff, Nat.reduceMul, h95l1_0, q95l1_0, a95l0, a95l1b, rc_WaterConduit, c1275d, @x_loopAt]
  · rw [if_neg c1275] at h
    have c1275d := df c1275
    obtain ⟨r1303, g1301, h⟩ := un1 h
    have kN1302 := k95l0_0 z0 z1 z2 v1270 v1271 v1272 v1273 (0, v1274) _ g1301
    obtain ⟨N1302, kN1302⟩ := kN1302
    cases h
    refine ⟨N1302, fun n hn => ?_⟩
    have kN1302 := kN1302 n (by omega)
    simp (maxSteps := 2000000) only [h95l0_0, q95l0_0, wn, rc_WaterConduit] at kN1302
    simp (maxSteps := 2000000) only [W, reduceIte, Nat.reduceEqDiff, Nat.reduceAdd, Nat.reduceSub, Nat.reduceLT, Nat.reduceLeDiff, Nat.reduceMul, h95l1_0, q95l1_0, a95l0, a95l1b, rc_WaterConduit, c1275d, kN1302, @x_loopAt]
theorem c95_0 (z0 : Bool) (z1 : Bool) (z2 : Bool) (v1266 : List WaterNode) (v1267 : List WaterConduit) (v1268 : List Bool) (r1308 : List Bool) (h : F95_0 v1266 v1267 v1268 = some r1308) : Ev fun n => (ex tab n).call 95 [.agg [.slice 0 0 v1266.length v1266.length 4 false, .slice 1 0 v1267.length v1267.length 6 false], .slice 2 0 v1268.length v1268.length 1 false] [.row z0 true (rowC v1266), .row z1 true (rowC v1267), .row z2 true (rowC v1268)] = some (.slice 3 0 r1308.length r1308.length 1 false, [.row z0 true (rowC v1266), .row z1 true (rowC v1267), .row z2 true (rowC v1268), .row true true (rowC r1308)]) := by
  unfold F95_0 at h
  obtain ⟨g1269, h⟩ := un_roomd h
  try simp only [Nat.reduceLeDiff] at g1269
  obtain ⟨r1307, g1305, h⟩ := un1 h
  have kN1306 := k95l1_0 z0 z1 z2 v1266 v1267 v1268 (0, v1268) _ g1305
  obtain ⟨N1306, kN1306⟩ := kN1306
  cases h
  refine ev_call (fn := a95) rfl ⟨N1306, fun n hn => ?_⟩
  have kN1306 := kN1306 n (by omega)
  simp (maxSteps := 2000000) only [h95l1_0, q95l1_0, wn, rc_WaterConduit] at kN1306
  simp (maxSteps := 2000000) only [W, reduceIte, Nat.reduceEqDiff, Nat.reduceAdd, Nat.reduceSub, Nat.reduceLT, Nat.reduceLeDiff, Nat.reduceMul, a95, a95l1, rc_WaterConduit, g1269, kN1306, @x_loopAt]
noncomputable def h94l0_0 (z0 : Bool) (v1314 : List Bool) : (Int × (List Int)) → Env × Heap
  | (v1313, v1315) => ([(0, .slice 0 0 v1314.length v1314.length 1 false), (3, .slice 1 0 v1315.length v1315.length 1 false), (4, .int .i64 v1313)], [.row z0 true (rowC v1314), .row true true (rowC v1315)])
noncomputable def q94l0_0 (z0 : Bool) (v1314 : List Bool) : ((List Int)) → AExit × Env × Heap
  | r1322 => (.exit 0, [(2, .undef), (3, .slice 1 0 r1322.length r1322.length 1 false)], [.row z0 true (rowC v1314), .row true true (rowC r1322)])
theorem k94l0_0 (z0 : Bool) (v1314 : List Bool) (s : Int × (List Int)) (o : (List Int)) (h : L94l0_0 v1314 s = some o) : Ev fun n => loopAt [0, 3, 4] [2, 3] a94l0b (ex tab n) 1 (h94l0_0 z0 v1314 s) = some (q94l0_0 z0 v1314 o) := by
  refine iter_sound (S94l0_0 v1314) [0, 3, 4] [2, 3] a94l0b 1 (h94l0_0 z0 v1314) (q94l0_0 z0 v1314) ?_ _ _ _ h
  rintro ⟨v1313, v1315⟩ z h
  simp only [S94l0_0] at h
  by_cases c1316 : (v1314.length : Int) ≤ v1313
  · rw [if_pos c1316] at h
    have c1316d := dt c1316
    cases h
    refine ⟨0, fun n hn => ?_⟩
    simp (maxSteps := 2000000) only [W, reduceIte, Nat.reduceEqDiff, Nat.reduceAdd, Nat.reduceSub, Nat.reduceLT, Nat.reduceLeDiff, Nat.reduceMul, h94l0_0, q94l0_0, a94l0b, c1316d]
  · rw [if_neg c1316] at h
    have c1316d := df c1316
    obtain ⟨j1317, x1318, g1319, h⟩ := un2 h
    obtain ⟨g13191, g13192⟩ := geti_in g1319
    have g13193 := ac_Bool g13192
    try simp only [wn] at g13191
    by_cases c1320 : x1318 = true
    · rw [if_pos c1320] at h
      have c1320d := c1320
      obtain ⟨g1321, h⟩ := un_roomd h
      cases h
      refine ⟨0, fun n hn => ?_⟩
      simp (maxSteps := 2000000) only [W, reduceIte, Nat.reduceEqDiff, Nat.reduceAdd, Nat.reduceSub, Nat.reduceLT, Nat.reduceLeDiff, Nat.reduceMul, h94l0_0, q94l0_0, a94l0b, c1316d, g13191, g13193, c1320d, g1321]
    · rw [if_neg c1320] at h
      have c1320d := bf c1320
      cases h
      refine ⟨0, fun n hn => ?_⟩
      simp (maxSteps := 2000000) only [W, reduceIte, Nat.reduceEqDiff, Nat.reduceAdd, Nat.reduceSub, Nat.reduceLT, Nat.reduceLeDiff, Nat.reduceMul, h94l0_0, q94l0_0, a94l0b, c1316d, g13191, g13193, c1320d]
theorem c94_0 (z0 : Bool) (v1312 : List Bool) (r1326 : List Int) (h : F94_0 v1312 = some r1326) : Ev fun n => (ex tab n).call 94 [.slice 0 0 v1312.length v1312.length 1 false] [.row z0 true (rowC v1312)] = some (.slice 1 0 r1326.length r1326.length 1 false, [.row z0 true (rowC v1312), .row true true (rowC r1326)]) := by
  unfold F94_0 at h
  obtain ⟨r1325, g1323, h⟩ := un1 h
  have kN1324 := k94l0_0 z0 v1312 (0, ([] : List Int)) _ g1323
  obtain ⟨N1324, kN1324⟩ := kN1324
  cases h
  refine ev_call (fn := a94) rfl ⟨N1324, fun n hn => ?_⟩
  have kN1324 := kN1324 n (by omega)
  simp (maxSteps := 2000000) only [h94l0_0, q94l0_0, wn] at kN1324
  simp (maxSteps := 2000000) only [W, reduceIte, Nat.reduceEqDiff, Nat.reduceAdd, Nat.reduceSub, Nat.reduceLT, Nat.reduceLeDiff, Nat.reduceMul, a94, a94l0, kN1324, @x_loopAt]
theorem c35_0 (z0 : Bool) (z1 : Bool) (v1257 : Int) (v1258 : List WaterNode) (v1259 : List WaterConduit) (r1330 : List Int) (h : F35_0 v1257 v1258 v1259 = some r1330) : Ev fun n => (ex tab n).call 35 [.agg [.slice 0 0 v1258.length v1258.length 4 false, .slice 1 0 v1259.length v1259.length 6 false], .int .i64 v1257] [.row z0 true (rowC v1258), .row z1 true (rowC v1259)] = some (.slice 2 0 r1330.length r1330.length 1 false, [.row z0 true (rowC v1258), .row z1 true (rowC v1259), .row true true (rowC r1330)]) := by
  unfold F35_0 at h
  obtain ⟨n1260, g1261, h⟩ := un1 h
  try simp only [wn] at g1261
  obtain ⟨g1262, h⟩ := un_roomd h
  try simp only [Nat.reduceLeDiff] at g1262
  obtain ⟨j1263, x1264, g1265, h⟩ := un2 h
  obtain ⟨g12651, g12652⟩ := geti_in g1265
  have g12653 := ac_Bool g12652
  try simp only [wn] at g12651
  try simp only [wn] at g12653
  obtain ⟨r1311, g1309, h⟩ := un1 h
  obtain ⟨N1310, kN1310⟩ := c95_0 z0 z1 true v1258 v1259 ((List.replicate n1260 false).set j1263 true) _ g1309
  obtain ⟨r1329, g1327, h⟩ := un1 h
  obtain ⟨N1328, kN1328⟩ := c94_0 true r1311 _ g1327
  cases h
  refine ev_call (fn := a35) rfl ⟨N1310 + N1328, fun n hn => ?_⟩
  have kN1310 := kN1310 n (by omega)
  try simp (maxSteps := 2000000) only [wn] at kN1310
  have kN1328 := kN1328 n (by omega)
  try simp (maxSteps := 2000000) only [wn] at kN1328
  simp (maxSteps := 2000000) only [W, reduceIte, Nat.reduceEqDiff, Nat.reduceAdd, Nat.reduceSub, Nat.reduceLT, Nat.reduceLeDiff, Nat.reduceMul, a35, g1261, g1262, g12651, g12653, kN1310, kN1328]
end Go.AI
