import Derived.Test.YtfglifekecijjaaHAiY
import Derived.Test.YtfglifekecijjaaHAiTab
import Derived.Test.YtfglifekecijjaaHAiAwake
import Derived.Test.YtfglifekecijjaaHWnF
import Derived.Test.YtfglifekecijjaaHWn2
import Derived.Test.YtfglifekecijjaaHWn14
section
/-
  Functions, walked through: water.tree).state, water.StateAt.
-/
set_option linter.unusedVariables false
set_option linter.unusedSimpArgs false
set_option maxRecDepth 100000
set_option maxHeartbeats 4000000
namespace Go.AI
noncomputable def h101l2_0 (z0 : Bool) (z1 : Bool) (z2 : Bool) (v2213 : Int) (v2215 : List WaterNode) (v2216 : List WaterConduit) (v2217 : List Branch) (v2218 : Int) (v2219 : List Int) (v2220 : List Int) (v2221 : List Int) : (Int × (List Int)) → Env × Heap
  | (v2214, v2222) => ([(2, .ptr 3 0), (4, .ptr 4 0), (5, .ptr 7 0), (128, .slice 2 0 v2217.length v2217.length 2 false), (129, .int .i64 v2213), (130, .int .i64 v2214)], [.row z0 true (rowC v2215), .row z1 true (rowC v2216), .row z2 true (rowC v2217), .row true false [.slice 0 0 v2215.length v2215.length 4 false, .slice 1 0 v2216.length v2216.length 6 false, .slice 2 0 v2217.length v2217.length 2 false, .int .i64 v2218], .row true false [.slice 5 0 v2219.length v2219.length 1 false, .slice 6 0 v2220.length v2220.length 1 false], .row true true (rowC v2219), .row true true (rowC v2220), .row true false [.slice 8 0 v2221.length v2221.length 1 true, .slice 9 0 v2222.length v2222.length 1 true], .row true true (rowC v2221), .row true true (rowC v2222)])
noncomputable def q101l2_0 (z0 : Bool) (z1 : Bool) (z2 : Bool) (v2213 : Int) (v2215 : List WaterNode) (v2216 : List WaterConduit) (v2217 : List Branch) (v2218 : Int) (v2219 : List Int) (v2220 : List Int) (v2221 : List Int) : ((List Int)) → AExit × Env × Heap
  | r2246 => (.exit 4, [(4, .ptr 3 0), (5, .ptr 6 0)], [.row z0 true (rowC v2215), .row z1 true (rowC v2216), .row z2 true (rowC v2217), .row true false [.slice 4 0 v2219.length v2219.length 1 false, .slice 5 0 v2220.length v2220.length 1 false], .row true true (rowC v2219), .row true true (rowC v2220), .row true false [.slice 7 0 v2221.length v2221.length 1 true, .slice 8 0 r2246.length r2246.length 1 true], .row true true (rowC v2221), .row true true (rowC r2246)])
theorem k101l2_0 (z0 : Bool) (z1 : Bool) (z2 : Bool) (v2213 : Int) (v2215 : List WaterNode) (v2216 : List WaterConduit) (v2217 : List Branch) (v2218 : Int) (v2219 : List Int) (v2220 : List Int) (v2221 : List Int) (s : Int × (List Int)) (o : (List Int)) (h : L101l2_0 v2213 v2215 v2216 v2217 v2218 v2219 v2220 v2221 s = some o) : Ev fun n => loopAt [2, 4, 5, 128, 129, 130] [4, 5] a101l2b (ex tab n) 3 (h101l2_0 z0 z1 z2 v2213 v2215 v2216 v2217 v2218 v2219 v2220 v2221 s) = some (q101l2_0 z0 z1 z2 v2213 v2215 v2216 v2217 v2218 v2219 v2220 v2221 o) := by
  refine iter_sound (S101l2_0 v2213 v2215 v2216 v2217 v2218 v2219 v2220 v2221) [2, 4, 5, 128, 129, 130] [4, 5] a101l2b 3 (h101l2_0 z0 z1 z2 v2213 v2215 v2216 v2217 v2218 v2219 v2220 v2221) (q101l2_0 z0 z1 z2 v2213 v2215 v2216 v2217 v2218 v2219 v2220 v2221) ?_ _ _ _ h
  rintro ⟨v2214, v2222⟩ z h
  simp only [S101l2_0] at h
  by_cases c2223 : v2213 ≤ v2214
  · rw [if_pos c2223] at h
    have c2223d := dt c2223
    cases h
    refine ⟨0, fun n hn => ?_⟩
    simp (maxSteps := 2000000) only [W, reduceIte, Nat.reduceEqDiff, Nat.reduceAdd, Nat.reduceSub, Nat.reduceLT, Nat.reduceLeDiff, Nat.reduceMul, h101l2_0, q101l2_0, a101l2b, rc_Branch, rc_WaterConduit, c2223d, wd]
  · rw [if_neg c2223] at h
    have c2223d := df c2223
    obtain ⟨j2224, x2225, g2226, h⟩ := un2 h
    obtain ⟨g22261, g22262⟩ := geti_in g2226
    have g22263 := ac_Branch g22262
    try simp only [wn] at g22261
    obtain ⟨r2229, r2230, g2227, h⟩ := un2 h
    obtain ⟨N2228, kN2228⟩ := c140_0 z0 z1 z2 v2218 x2225.fconduit x2225.fnode v2215 v2216 v2217 _ _ g2227
    obtain ⟨j2231, x2232, g2233, h⟩ := un2 h
    obtain ⟨g22331, g22332⟩ := geti_in g2233
    have g22333 := ac_Int g22332
    try simp only [wn] at g22331
    obtain ⟨j2234, x2235, g2236, h⟩ := un2 h
    obtain ⟨g22361, g22362⟩ := geti_in g2236
    have g22363 := ac_WaterConduit g22362
    try simp only [wn] at g22361
    obtain ⟨j2237, x2238, g2239, h⟩ := un2 h
    obtain ⟨g22391, g22392⟩ := geti_in g2239
    have g22393 := ac_Int g22392
    try simp only [wn] at g22391
    obtain ⟨r2242, g2240, h⟩ := un1 h
    obtain ⟨N2241, kN2241⟩ := c77_0 x2235.fResist (aw .i64 (r2230 * x2238)) _ g2240
    obtain ⟨j2243, x2244, g2245, h⟩ := un2 h
    obtain ⟨g22451, g22452⟩ := geti_in g2245
    have g22453 := ac_Int g22452
    try simp only [wn] at g22451
    cases h
    refine ⟨N2228 + N2241, fun n hn => ?_⟩
    have kN2228 := kN2228 n (by omega)
    try simp (maxSteps := 2000000) only [wn, rc_Branch] at kN2228
    have kN2241 := kN2241 n (by omega)
    try simp (maxSteps := 2000000) only [wn, rc_Branch, rc_WaterConduit] at kN2241
    simp (maxSteps := 2000000) only [W, reduceIte, Nat.reduceEqDiff, Nat.reduceAdd, Nat.reduceSub, Nat.reduceLT, Nat.reduceLeDiff, Nat.reduceMul, h101l2_0, q101l2_0, a101l2b, rc_Branch, rc_WaterConduit, c2223d, g22261, g22263, kN2228, g22331, g22333, g22361, g22363, g22391, g22393, kN2241, g22451, g22453, wd]
theorem c101_0 (z0 : Bool) (z1 : Bool) (z2 : Bool) (v2027 : Int) (v2028 : Int) (v2029 : List WaterNode) (v2030 : List WaterConduit) (v2031 : List Branch) (r2259 : List Int) (r2260 : List Int) (h : F101_0 v2027 v2028 v2029 v2030 v2031 = some (r2259, r2260)) : Ev fun n => (ex tab n).call 101 [.agg [.slice 0 0 v2029.length v2029.length 4 false, .slice 1 0 v2030.length v2030.length 6 false, .slice 2 0 v2031.length v2031.length 2 false, .int .i64 v2027], .int .i64 v2028] [.row z0 true (rowC v2029), .row z1 true (rowC v2030), .row z2 true (rowC v2031)] = some (.agg [.slice 3 0 r2259.length r2259.length 1 true, .slice 4 0 r2260.length r2260.length 1 true], [.row z0 true (rowC v2029), .row z1 true (rowC v2030), .row z2 true (rowC v2031), .row true true (rowC r2259), .row true true (rowC r2260)]) := by
  unfold F101_0 at h
  obtain ⟨n2032, g2033, h⟩ := un1 h
  try simp only [wn] at g2033
  obtain ⟨g2034, h⟩ := un_roomd h
  obtain ⟨n2035, g2036, h⟩ := un1 h
  try simp only [wn] at g2036
  obtain ⟨g2037, h⟩ := un_roomd h
  obtain ⟨g2039, h⟩ := un_roomd h
  obtain ⟨r2066, r2067, g2064, h⟩ := un2 h
  have kN2065 := k101l0_0 z0 z1 z2 v2028 (v2029.length : Int) v2029 v2030 v2031 v2027 ([] : List Int) ([] : List Int) (List.replicate n2032 (0 : Int)) (0, (List.replicate n2035 (0 : Int)), (List.replicate n2035 (0 : Int))) _ g2064
  obtain ⟨N2065, kN2065⟩ := kN2065
  by_cases c2068 : 0 ≤ v2027
  · rw [if_pos c2068] at h
    have c2068d := dt c2068
    obtain ⟨j2069, x2070, g2071, h⟩ := un2 h
    obtain ⟨g20711, g20712⟩ := geti_in g2071
    have g20713 := ac_WaterConduit g20712
    try simp only [wn] at g20711
    obtain ⟨j2072, x2073, g2074, h⟩ := un2 h
    obtain ⟨g20741, g20742⟩ := geti_in g2074
    have g20743 := ac_Int g20742
    try simp only [wn] at g20741
    try simp only [wn] at g20743
    obtain ⟨j2075, x2076, g2077, h⟩ := un2 h
    obtain ⟨g20771, g20772⟩ := geti_in g2077
    have g20773 := ac_Int g20772
    try simp only [wn] at g20771
    obtain ⟨j2078, x2079, g2080, h⟩ := un2 h
    obtain ⟨g20801, g20802⟩ := geti_in g2080
    have g20803 := ac_Int g20802
    try simp only [wn] at g20801
    try simp only [wn] at g20803
    obtain ⟨_, g2082, h⟩ := un1 h
    obtain ⟨N2083, kN2083⟩ := c139_0 z2 v2031 g2082
    obtain ⟨r2211, r2212, g2209, h⟩ := un2 h
    obtain ⟨N2210, kN2210⟩ := c154_2 true z0 z1 z2 true true true true true true true v2027 v2029 v2030 v2031 ([] : List Int) ([] : List Int) ((List.replicate n2032 (0 : Int)).set j2072 v2028) r2066 ((r2067.set j2075 (aw .i64 (x2076 + v2028))).set j2078 (aw .i64 (x2079 - v2028))) _ _ g2209
    obtain ⟨r2249, g2247, h⟩ := un1 h
    have kN2248 := k101l2_0 z0 z1 z2 (v2031.length : Int) v2029 v2030 v2031 v2027 ([] : List Int) ([] : List Int) r2211 (0, r2066) _ g2247
    obtain ⟨N2248, kN2248⟩ := kN2248
    cases h
    refine ev_call (fn := a101) rfl ⟨N2065 + N2083 + N2210 + N2248, fun n hn => ?_⟩
    have kN2065 := kN2065 n (by omega)
    simp (maxSteps := 2000000) only [h101l0_0, q101l0_0, wn, rc_WaterNode] at kN2065
    have kN2083 := kN2083 n (by omega)
    try simp (maxSteps := 2000000) only [wn, rc_WaterConduit, rc_WaterNode] at kN2083
    have kN2210 := kN2210 n (by omega)
    try simp (maxSteps := 2000000) only [wn, rc_WaterConduit, rc_WaterNode] at kN2210
    have kN2248 := kN2248 n (by omega)
    simp (maxSteps := 2000000) only [h101l2_0, q101l2_0, wn, rc_Branch, rc_WaterConduit, rc_WaterNode] at kN2248
    simp (maxSteps := 2000000) only [W, reduceIte, Nat.reduceEqDiff, Nat.reduceAdd, Nat.reduceSub, Nat.reduceLT, Nat.reduceLeDiff, Nat.reduceMul, a101, a101l0, a101l2, rc_Branch, rc_WaterConduit, rc_WaterNode, g2033, g2034, g2036, g2037, g2039, kN2065, c2068d, g20711, g20713, g20741, g20743, g20771, g20773, g20801, g20803, kN2083, kN2210, kN2248, @x_loopAt, wd, wg]
  · rw [if_neg c2068] at h
    have c2068d := df c2068
    obtain ⟨_, g2250, h⟩ := un1 h
    obtain ⟨N2251, kN2251⟩ := c139_0 z2 v2031 g2250
    obtain ⟨r2254, r2255, g2252, h⟩ := un2 h
    obtain ⟨N2253, kN2253⟩ := c154_2 true z0 z1 z2 true true true true true true true v2027 v2029 v2030 v2031 ([] : List Int) ([] : List Int) (List.replicate n2032 (0 : Int)) r2066 r2067 _ _ g2252
    obtain ⟨r2258, g2256, h⟩ := un1 h
    have kN2257 := k101l2_0 z0 z1 z2 (v2031.length : Int) v2029 v2030 v2031 v2027 ([] : List Int) ([] : List Int) r2254 (0, r2066) _ g2256
    obtain ⟨N2257, kN2257⟩ := kN2257
    cases h
    refine ev_call (fn := a101) rfl ⟨N2065 + N2251 + N2253 + N2257, fun n hn => ?_⟩
    have kN2065 := kN2065 n (by omega)
    simp (maxSteps := 2000000) only [h101l0_0, q101l0_0, wn, rc_WaterNode] at kN2065
    have kN2251 := kN2251 n (by omega)
    try simp (maxSteps := 2000000) only [wn, rc_Branch, rc_WaterConduit, rc_WaterNode] at kN2251
    have kN2253 := kN2253 n (by omega)
    try simp (maxSteps := 2000000) only [wn, rc_Branch, rc_WaterConduit, rc_WaterNode] at kN2253
    have kN2257 := kN2257 n (by omega)
    simp (maxSteps := 2000000) only [h101l2_0, q101l2_0, wn, rc_Branch, rc_WaterConduit, rc_WaterNode] at kN2257
    simp (maxSteps := 2000000) only [W, reduceIte, Nat.reduceEqDiff, Nat.reduceAdd, Nat.reduceSub, Nat.reduceLT, Nat.reduceLeDiff, Nat.reduceMul, a101, a101l0, a101l2, rc_Branch, rc_WaterConduit, rc_WaterNode, g2033, g2034, g2036, g2037, g2039, kN2065, c2068d, kN2251, kN2253, kN2257, @x_loopAt, wd, wg]
end Go.AI
end
section
/-
  Functions, walked through: water.tree).gap, water.GapAt.
-/
set_option linter.unusedVariables false
set_option linter.unusedSimpArgs false
set_option maxRecDepth 100000
set_option maxHeartbeats 4000000
namespace Go.AI
theorem c102_0 (z0 : Bool) (z1 : Bool) (z2 : Bool) (v2490 : Int) (v2491 : Int) (v2492 : List WaterNode) (v2493 : List WaterConduit) (v2494 : List Branch) (r2511 : Int) (h : F102_0 v2490 v2491 v2492 v2493 v2494 = some r2511) : Ev fun n => (ex tab n).call 102 [.agg [.slice 0 0 v2492.length v2492.length 4 false, .slice 1 0 v2493.length v2493.length 6 false, .slice 2 0 v2494.length v2494.length 2 false, .int .i64 v2490], .int .i64 v2491] [.row z0 true (rowC v2492), .row z1 true (rowC v2493), .row z2 true (rowC v2494)] = some (.int .i64 r2511, [.row z0 true (rowC v2492), .row z1 true (rowC v2493), .row z2 true (rowC v2494)]) := by
  unfold F102_0 at h
  obtain ⟨j2495, x2496, g2497, h⟩ := un2 h
  obtain ⟨g24971, g24972⟩ := geti_in g2497
  have g24973 := ac_WaterConduit g24972
  try simp only [wn] at g24971
  obtain ⟨r2500, r2501, g2498, h⟩ := un2 h
  obtain ⟨N2499, kN2499⟩ := c101_0 z0 z1 z2 v2490 v2491 v2492 v2493 v2494 _ _ g2498
  obtain ⟨r2504, g2502, h⟩ := un1 h
  obtain ⟨N2503, kN2503⟩ := c77_0 x2496.fResist v2491 _ g2502
  obtain ⟨j2505, x2506, g2507, h⟩ := un2 h
  obtain ⟨g25071, g25072⟩ := geti_in g2507
  have g25073 := ac_Int g25072
  try simp only [wn] at g25071
  obtain ⟨j2508, x2509, g2510, h⟩ := un2 h
  obtain ⟨g25101, g25102⟩ := geti_in g2510
  have g25103 := ac_Int g25102
  try simp only [wn] at g25101
  cases h
  refine ev_call (fn := a102) rfl ⟨N2499 + N2503, fun n hn => ?_⟩
  have kN2499 := kN2499 n (by omega)
  try simp (maxSteps := 2000000) only [wn, rc_WaterConduit] at kN2499
  have kN2503 := kN2503 n (by omega)
  try simp (maxSteps := 2000000) only [wn, rc_WaterConduit] at kN2503
  simp (maxSteps := 2000000) only [W, reduceIte, Nat.reduceEqDiff, Nat.reduceAdd, Nat.reduceSub, Nat.reduceLT, Nat.reduceLeDiff, Nat.reduceMul, a102, rc_WaterConduit, g24971, g24973, kN2499, kN2503, g25071, g25073, g25101, g25103, wd]
end Go.AI
end
section
/-
  Functions, walked through: water.tree).isFlat, water.openFlowing, water.tree).circulation$1, water.least, water.tree).circulation, water.CirculationOf, water.tree).proves.
-/
set_option linter.unusedVariables false
set_option linter.unusedSimpArgs false
set_option maxRecDepth 100000
set_option maxHeartbeats 4000000
namespace Go.AI
theorem c108_0 (z0 : Bool) (z1 : Bool) (z2 : Bool) (v3138 : Int) (v3139 : List WaterNode) (v3140 : List WaterConduit) (v3141 : List Branch) (r3149 : Bool) (h : F108_0 v3138 v3139 v3140 v3141 = some r3149) : Ev fun n => (ex tab n).call 108 [.agg [.slice 0 0 v3139.length v3139.length 4 false, .slice 1 0 v3140.length v3140.length 6 false, .slice 2 0 v3141.length v3141.length 2 false, .int .i64 v3138]] [.row z0 true (rowC v3139), .row z1 true (rowC v3140), .row z2 true (rowC v3141)] = some (.bool r3149, [.row z0 true (rowC v3139), .row z1 true (rowC v3140), .row z2 true (rowC v3141)]) := by
  unfold F108_0 at h
  by_cases c3142 : 0 ≤ v3138
  · rw [if_pos c3142] at h
    have c3142d := dt c3142
    obtain ⟨r3145, g3143, h⟩ := un1 h
    obtain ⟨N3144, kN3144⟩ := c102_0 false false false v3138 (-200000) v3139 v3140 v3141 _ g3143
    obtain ⟨r3148, g3146, h⟩ := un1 h
    obtain ⟨N3147, kN3147⟩ := c102_0 z0 z1 z2 v3138 200000 v3139 v3140 v3141 _ g3146
    cases h
    refine ev_call (fn := a108) rfl ⟨N3144 + N3147, fun n hn => ?_⟩
    have kN3144 := kN3144 n (by omega)
    try simp (maxSteps := 2000000) only [wn] at kN3144
    have kN3147 := kN3147 n (by omega)
    try simp (maxSteps := 2000000) only [wn] at kN3147
    simp (maxSteps := 2000000) only [W, reduceIte, Nat.reduceEqDiff, Nat.reduceAdd, Nat.reduceSub, Nat.reduceLT, Nat.reduceLeDiff, Nat.reduceMul, a108, c3142d, kN3144, kN3147, wd]
  · rw [if_neg c3142] at h
    have c3142d := df c3142
    cases h
    refine ev_call (fn := a108) rfl ⟨0, fun n hn => ?_⟩
    simp (maxSteps := 2000000) only [W, reduceIte, Nat.reduceEqDiff, Nat.reduceAdd, Nat.reduceSub, Nat.reduceLT, Nat.reduceLeDiff, Nat.reduceMul, a108, c3142d, wd]
theorem c106_0 (z0 : Bool) (z1 : Bool) (v3130 : List WaterNode) (v3131 : List WaterConduit) (r : (Int × Int × (List Branch)) ⊕ (Int)) (h : F106_0 v3130 v3131 = some r) : match r with
    | .inl (r3164, r3165, r3166) => Ev fun n => (ex tab n).call 106 [.agg [.slice 0 0 v3130.length v3130.length 4 false, .slice 1 0 v3131.length v3131.length 6 false]] [.row z0 true (rowC v3130), .row z1 true (rowC v3131)] = some (.tup [.agg [.slice 0 0 v3130.length v3130.length 4 false, .slice 1 0 v3131.length v3131.length 6 false, .slice 2 0 r3166.length r3166.length 2 false, .int .i64 r3164], .int .i64 r3165], [.row z0 true (rowC v3130), .row z1 true (rowC v3131), .row true true (rowC r3166)])
    | .inr (r3167) => Ev fun n => (ex tab n).call 106 [.agg [.slice 0 0 v3130.length v3130.length 4 false, .slice 1 0 v3131.length v3131.length 6 false]] [.row z0 true (rowC v3130), .row z1 true (rowC v3131)] = some (.tup [.agg [.slice 2 0 0 0 4 false, .slice 3 0 0 0 6 false, .slice 4 0 0 0 2 false, .int .i64 0], .int .i64 r3167], [.row z0 true (rowC v3130), .row z1 true (rowC v3131), .row true true [], .row true true [], .row true true []]) := by
  unfold F106_0 at h
  obtain ⟨g3132_, g3132, h⟩ := un1 h
  rcases g3132_ with ⟨r3134, r3135, r3136⟩ | r3156
  · dsimp only at h
    obtain ⟨N3133, kN3133⟩ := c99_0 z0 z1 v3130 v3131 _ g3132
    by_cases c3137 : r3135 = 0
    · rw [if_pos c3137] at h
      have c3137d := dt c3137
      obtain ⟨r3152, g3150, h⟩ := un1 h
      obtain ⟨N3151, kN3151⟩ := c108_0 false false false r3134 v3130 v3131 r3136 _ g3150
      obtain ⟨r3155, g3153, h⟩ := un1 h
      obtain ⟨N3154, kN3154⟩ := c72_0 (!r3152) 11 _ g3153
      cases h
      refine ev_call (fn := a106) rfl ⟨N3133 + N3151 + N3154, fun n hn => ?_⟩
      have kN3133 := kN3133 n (by omega)
      try simp (maxSteps := 2000000) only [wn, rc_Branch, rc_WaterConduit, rc_WaterNode] at kN3133
      have kN3151 := kN3151 n (by omega)
      try simp (maxSteps := 2000000) only [wn, rc_Branch, rc_WaterConduit, rc_WaterNode] at kN3151
      have kN3154 := kN3154 n (by omega)
      try simp (maxSteps := 2000000) only [wn, rc_Branch, rc_WaterConduit, rc_WaterNode] at kN3154
      simp (maxSteps := 2000000) only [W, reduceIte, Nat.reduceEqDiff, Nat.reduceAdd, Nat.reduceSub, Nat.reduceLT, Nat.reduceLeDiff, Nat.reduceMul, a106, rc_Branch, rc_WaterConduit, rc_WaterNode, kN3133, c3137d, kN3151, kN3154, wd]
    · rw [if_neg c3137] at h
      have c3137d := df c3137
      cases h
      refine ev_call (fn := a106) rfl ⟨N3133, fun n hn => ?_⟩
      have kN3133 := kN3133 n (by omega)
      try simp (maxSteps := 2000000) only [wn, rc_Branch, rc_WaterConduit, rc_WaterNode] at kN3133
      simp (maxSteps := 2000000) only [W, reduceIte, Nat.reduceEqDiff, Nat.reduceAdd, Nat.reduceSub, Nat.reduceLT, Nat.reduceLeDiff, Nat.reduceMul, a106, rc_Branch, rc_WaterConduit, rc_WaterNode, kN3133, c3137d, wd]
  · dsimp only at h
    obtain ⟨N3133, kN3133⟩ := c99_0 z0 z1 v3130 v3131 _ g3132
    by_cases c3157 : r3156 = 0
    · rw [if_pos c3157] at h
      have c3157d := dt c3157
      obtain ⟨r3160, g3158, h⟩ := un1 h
      obtain ⟨N3159, kN3159⟩ := c108_0 false false false 0 ([] : List WaterNode) ([] : List WaterConduit) ([] : List Branch) _ g3158
      obtain ⟨r3163, g3161, h⟩ := un1 h
      obtain ⟨N3162, kN3162⟩ := c72_0 (!r3160) 11 _ g3161
      cases h
      refine ev_call (fn := a106) rfl ⟨N3133 + N3159 + N3162, fun n hn => ?_⟩
      have kN3133 := kN3133 n (by omega)
      try simp (maxSteps := 2000000) only [wn, rc_Branch, rc_WaterConduit, rc_WaterNode] at kN3133
      have kN3159 := kN3159 n (by omega)
      try simp (maxSteps := 2000000) only [wn, rc_Branch, rc_WaterConduit, rc_WaterNode] at kN3159
      have kN3162 := kN3162 n (by omega)
      try simp (maxSteps := 2000000) only [wn, rc_Branch, rc_WaterConduit, rc_WaterNode] at kN3162
      simp (maxSteps := 2000000) only [W, reduceIte, Nat.reduceEqDiff, Nat.reduceAdd, Nat.reduceSub, Nat.reduceLT, Nat.reduceLeDiff, Nat.reduceMul, a106, rc_Branch, rc_WaterConduit, rc_WaterNode, kN3133, c3157d, kN3159, kN3162, wd]
    · rw [if_neg c3157] at h
      have c3157d := df c3157
      cases h
      refine ev_call (fn := a106) rfl ⟨N3133, fun n hn => ?_⟩
      have kN3133 := kN3133 n (by omega)
      try simp (maxSteps := 2000000) only [wn, rc_Branch, rc_WaterConduit, rc_WaterNode] at kN3133
      simp (maxSteps := 2000000) only [W, reduceIte, Nat.reduceEqDiff, Nat.reduceAdd, Nat.reduceSub, Nat.reduceLT, Nat.reduceLeDiff, Nat.reduceMul, a106, rc_Branch, rc_WaterConduit, rc_WaterNode, kN3133, c3157d, wd]
theorem c141_0 (z0 : Bool) (z1 : Bool) (z2 : Bool) (z3 : Bool) (v3193 : Int) (v3194 : Int) (v3195 : List WaterNode) (v3196 : List WaterConduit) (v3197 : List Branch) (r3201 : Bool) (h : F141_0 v3193 v3194 v3195 v3196 v3197 = some r3201) : Ev fun n => (ex tab n).call 141 [.int .i64 v3193, .ptr 0 0] [.row z0 false [.slice 1 0 v3195.length v3195.length 4 false, .slice 2 0 v3196.length v3196.length 6 false, .slice 3 0 v3197.length v3197.length 2 false, .int .i64 v3194], .row z1 true (rowC v3195), .row z2 true (rowC v3196), .row z3 true (rowC v3197)] = some (.bool r3201, [.row z0 false [.slice 1 0 v3195.length v3195.length 4 false, .slice 2 0 v3196.length v3196.length 6 false, .slice 3 0 v3197.length v3197.length 2 false, .int .i64 v3194], .row z1 true (rowC v3195), .row z2 true (rowC v3196), .row z3 true (rowC v3197)]) := by
  unfold F141_0 at h
  obtain ⟨r3200, g3198, h⟩ := un1 h
  obtain ⟨N3199, kN3199⟩ := c102_0 z1 z2 z3 v3194 v3193 v3195 v3196 v3197 _ g3198
  cases h
  refine ev_call (fn := a141) rfl ⟨N3199, fun n hn => ?_⟩
  have kN3199 := kN3199 n (by omega)
  try simp (maxSteps := 2000000) only [wn] at kN3199
  simp (maxSteps := 2000000) only [W, reduceIte, Nat.reduceEqDiff, Nat.reduceAdd, Nat.reduceSub, Nat.reduceLT, Nat.reduceLeDiff, Nat.reduceMul, a141, kN3199]
noncomputable def h84l0_3 (z0 : Bool) (z1 : Bool) (z2 : Bool) (z3 : Bool) (v3187 : Int) (v3188 : List WaterNode) (v3189 : List WaterConduit) (v3190 : List Branch) : (Int × Int) → Env × Heap
  | (v3185, v3186) => ([(0, .int .i64 v3185), (1, .int .i64 v3186), (2, .func 141 [] [.ptr 0 0])], [.row z0 false [.slice 1 0 v3188.length v3188.length 4 false, .slice 2 0 v3189.length v3189.length 6 false, .slice 3 0 v3190.length v3190.length 2 false, .int .i64 v3187], .row z1 true (rowC v3188), .row z2 true (rowC v3189), .row z3 true (rowC v3190)])
noncomputable def q84l0_3 (z0 : Bool) (z1 : Bool) (z2 : Bool) (z3 : Bool) (v3187 : Int) (v3188 : List WaterNode) (v3189 : List WaterConduit) (v3190 : List Branch) : (Int) → AExit × Env × Heap
  | r3206 => (.exit 0, [(0, .int .i64 r3206), (6, .undef)], [.row z0 false [.slice 1 0 v3188.length v3188.length 4 false, .slice 2 0 v3189.length v3189.length 6 false, .slice 3 0 v3190.length v3190.length 2 false, .int .i64 v3187], .row z1 true (rowC v3188), .row z2 true (rowC v3189), .row z3 true (rowC v3190)])
theorem k84l0_3 (z0 : Bool) (z1 : Bool) (z2 : Bool) (z3 : Bool) (v3187 : Int) (v3188 : List WaterNode) (v3189 : List WaterConduit) (v3190 : List Branch) (s : Int × Int) (o : Int) (h : L84l0_3 v3187 v3188 v3189 v3190 s = some o) : Ev fun n => loopAt [0, 1, 2] [0, 6] a84l0b (ex tab n) 4 (h84l0_3 z0 z1 z2 z3 v3187 v3188 v3189 v3190 s) = some (q84l0_3 z0 z1 z2 z3 v3187 v3188 v3189 v3190 o) := by
  refine iter_sound (S84l0_3 v3187 v3188 v3189 v3190) [0, 1, 2] [0, 6] a84l0b 4 (h84l0_3 z0 z1 z2 z3 v3187 v3188 v3189 v3190) (q84l0_3 z0 z1 z2 z3 v3187 v3188 v3189 v3190) ?_ _ _ _ h
  rintro ⟨v3185, v3186⟩ z h
  simp only [S84l0_3] at h
  by_cases c3191 : v3186 ≤ v3185
  · rw [if_pos c3191] at h
    have c3191d := dt c3191
    cases h
    refine ⟨0, fun n hn => ?_⟩
    simp (maxSteps := 2000000) only [W, reduceIte, Nat.reduceEqDiff, Nat.reduceAdd, Nat.reduceSub, Nat.reduceLT, Nat.reduceLeDiff, Nat.reduceMul, h84l0_3, q84l0_3, a84l0b, c3191d]
  · rw [if_neg c3191] at h
    have c3191d := df c3191
    have d3192 := fun x => bin_quo .i64 x 2 (by decide)
    obtain ⟨r3204, g3202, h⟩ := un1 h
    obtain ⟨N3203, kN3203⟩ := c141_0 z0 z1 z2 z3 (aw .i64 (v3185 + (aw .i64 (Int.tdiv (aw .i64 (v3186 - v3185)) 2)))) v3187 v3188 v3189 v3190 _ g3202
    by_cases c3205 : r3204 = true
    · rw [if_pos c3205] at h
      have c3205d := c3205
      cases h
      refine ⟨N3203, fun n hn => ?_⟩
      have kN3203 := kN3203 n (by omega)
      try simp (maxSteps := 2000000) only [wn] at kN3203
      simp (maxSteps := 2000000) only [W, reduceIte, Nat.reduceEqDiff, Nat.reduceAdd, Nat.reduceSub, Nat.reduceLT, Nat.reduceLeDiff, Nat.reduceMul, h84l0_3, q84l0_3, a84l0b, c3191d, d3192, kN3203, c3205d]
    · rw [if_neg c3205] at h
      have c3205d := bf c3205
      cases h
      refine ⟨N3203, fun n hn => ?_⟩
      have kN3203 := kN3203 n (by omega)
      try simp (maxSteps := 2000000) only [wn] at kN3203
      simp (maxSteps := 2000000) only [W, reduceIte, Nat.reduceEqDiff, Nat.reduceAdd, Nat.reduceSub, Nat.reduceLT, Nat.reduceLeDiff, Nat.reduceMul, h84l0_3, q84l0_3, a84l0b, c3191d, d3192, kN3203, c3205d]
theorem c84_3 (z0 : Bool) (z1 : Bool) (z2 : Bool) (z3 : Bool) (v3179 : Int) (v3180 : Int) (v3181 : Int) (v3182 : List WaterNode) (v3183 : List WaterConduit) (v3184 : List Branch) (r3210 : Int) (h : F84_3 v3179 v3180 v3181 v3182 v3183 v3184 = some r3210) : Ev fun n => (ex tab n).call 84 [.int .i64 v3179, .int .i64 v3180, .func 141 [] [.ptr 0 0]] [.row z0 false [.slice 1 0 v3182.length v3182.length 4 false, .slice 2 0 v3183.length v3183.length 6 false, .slice 3 0 v3184.length v3184.length 2 false, .int .i64 v3181], .row z1 true (rowC v3182), .row z2 true (rowC v3183), .row z3 true (rowC v3184)] = some (.int .i64 r3210, [.row z0 false [.slice 1 0 v3182.length v3182.length 4 false, .slice 2 0 v3183.length v3183.length 6 false, .slice 3 0 v3184.length v3184.length 2 false, .int .i64 v3181], .row z1 true (rowC v3182), .row z2 true (rowC v3183), .row z3 true (rowC v3184)]) := by
  unfold F84_3 at h
  obtain ⟨r3209, g3207, h⟩ := un1 h
  have kN3208 := k84l0_3 z0 z1 z2 z3 v3181 v3182 v3183 v3184 (v3179, v3180) _ g3207
  obtain ⟨N3208, kN3208⟩ := kN3208
  cases h
  refine ev_call (fn := a84) rfl ⟨N3208, fun n hn => ?_⟩
  have kN3208 := kN3208 n (by omega)
  simp (maxSteps := 2000000) only [h84l0_3, q84l0_3, wn] at kN3208
  simp (maxSteps := 2000000) only [W, reduceIte, Nat.reduceEqDiff, Nat.reduceAdd, Nat.reduceSub, Nat.reduceLT, Nat.reduceLeDiff, Nat.reduceMul, a84, a84l0, kN3208, @x_loopAt]
theorem c107_0 (z0 : Bool) (z1 : Bool) (z2 : Bool) (v3174 : Int) (v3175 : List WaterNode) (v3176 : List WaterConduit) (v3177 : List Branch) (r3218 : Int) (r3219 : Int) (h : F107_0 v3174 v3175 v3176 v3177 = some (r3218, r3219)) : Ev fun n => (ex tab n).call 107 [.agg [.slice 0 0 v3175.length v3175.length 4 false, .slice 1 0 v3176.length v3176.length 6 false, .slice 2 0 v3177.length v3177.length 2 false, .int .i64 v3174]] [.row z0 true (rowC v3175), .row z1 true (rowC v3176), .row z2 true (rowC v3177)] = some (.agg [.int .i64 r3218, .int .i64 r3219], [.row z0 true (rowC v3175), .row z1 true (rowC v3176), .row z2 true (rowC v3177)]) := by
  unfold F107_0 at h
  by_cases c3178 : 0 ≤ v3174
  · rw [if_pos c3178] at h
    have c3178d := dt c3178
    obtain ⟨r3213, g3211, h⟩ := un1 h
    obtain ⟨N3212, kN3212⟩ := c84_3 true z0 z1 z2 (-200000) 200000 v3174 v3175 v3176 v3177 _ g3211
    obtain ⟨r3216, g3214, h⟩ := un1 h
    obtain ⟨N3215, kN3215⟩ := c102_0 z0 z1 z2 v3174 r3213 v3175 v3176 v3177 _ g3214
    by_cases c3217 : r3216 = 0
    · rw [if_pos c3217] at h
      have c3217d := dt c3217
      cases h
      refine ev_call (fn := a107) rfl ⟨N3212 + N3215, fun n hn => ?_⟩
      have kN3212 := kN3212 n (by omega)
      try simp (maxSteps := 2000000) only [wn] at kN3212
      have kN3215 := kN3215 n (by omega)
      try simp (maxSteps := 2000000) only [wn] at kN3215
      simp (maxSteps := 2000000) only [W, reduceIte, Nat.reduceEqDiff, Nat.reduceAdd, Nat.reduceSub, Nat.reduceLT, Nat.reduceLeDiff, Nat.reduceMul, a107, c3178d, kN3212, kN3215, c3217d]
    · rw [if_neg c3217] at h
      have c3217d := df c3217
      cases h
      refine ev_call (fn := a107) rfl ⟨N3212 + N3215, fun n hn => ?_⟩
      have kN3212 := kN3212 n (by omega)
      try simp (maxSteps := 2000000) only [wn] at kN3212
      have kN3215 := kN3215 n (by omega)
      try simp (maxSteps := 2000000) only [wn] at kN3215
      simp (maxSteps := 2000000) only [W, reduceIte, Nat.reduceEqDiff, Nat.reduceAdd, Nat.reduceSub, Nat.reduceLT, Nat.reduceLeDiff, Nat.reduceMul, a107, c3178d, kN3212, kN3215, c3217d]
  · rw [if_neg c3178] at h
    have c3178d := df c3178
    cases h
    refine ev_call (fn := a107) rfl ⟨0, fun n hn => ?_⟩
    simp (maxSteps := 2000000) only [W, reduceIte, Nat.reduceEqDiff, Nat.reduceAdd, Nat.reduceSub, Nat.reduceLT, Nat.reduceLeDiff, Nat.reduceMul, a107, c3178d]
end Go.AI
end
section
/-
  Functions, walked through: water.CheckCirculation, water.ranges, water.tree).steady, water.SteadyOf, guidevaneref02.at.
-/
set_option linter.unusedVariables false
set_option linter.unusedSimpArgs false
set_option maxRecDepth 100000
set_option maxHeartbeats 4000000
namespace Go.AI
noncomputable def h142l0_0 (z0 : Bool) (z1 : Bool) (v3358 : Int) (v3360 : List Int) (v3361 : List Int) : (Int × (List Range)) → Env × Heap
  | (v3359, v3362) => ([(0, .slice 0 0 v3360.length v3360.length 1 false), (1, .slice 1 0 v3361.length v3361.length 1 false), (5, .slice 2 0 v3362.length v3362.length 2 false), (8, .int .i64 v3358), (9, .int .i64 v3359)], [.row z0 true (rowC v3360), .row z1 true (rowC v3361), .row true true (rowC v3362)])
noncomputable def q142l0_0 (z0 : Bool) (z1 : Bool) (v3358 : Int) (v3360 : List Int) (v3361 : List Int) : ((List Range)) → AExit × Env × Heap
  | r3371 => (.exit 0, [(4, .undef), (5, .slice 2 0 r3371.length r3371.length 2 false)], [.row z0 true (rowC v3360), .row z1 true (rowC v3361), .row true true (rowC r3371)])
theorem k142l0_0 (z0 : Bool) (z1 : Bool) (v3358 : Int) (v3360 : List Int) (v3361 : List Int) (s : Int × (List Range)) (o : (List Range)) (h : L142l0_0 v3358 v3360 v3361 s = some o) : Ev fun n => loopAt [0, 1, 5, 8, 9] [4, 5] a142l0b (ex tab n) 2 (h142l0_0 z0 z1 v3358 v3360 v3361 s) = some (q142l0_0 z0 z1 v3358 v3360 v3361 o) := by
  refine iter_sound (S142l0_0 v3358 v3360 v3361) [0, 1, 5, 8, 9] [4, 5] a142l0b 2 (h142l0_0 z0 z1 v3358 v3360 v3361) (q142l0_0 z0 z1 v3358 v3360 v3361) ?_ _ _ _ h
  rintro ⟨v3359, v3362⟩ z h
  simp only [S142l0_0] at h
  by_cases c3363 : v3358 ≤ v3359
  · rw [if_pos c3363] at h
    have c3363d := dt c3363
    cases h
    refine ⟨0, fun n hn => ?_⟩
    simp (maxSteps := 2000000) only [W, reduceIte, Nat.reduceEqDiff, Nat.reduceAdd, Nat.reduceSub, Nat.reduceLT, Nat.reduceLeDiff, Nat.reduceMul, h142l0_0, q142l0_0, a142l0b, rc_Range, c3363d, wd]
  · rw [if_neg c3363] at h
    have c3363d := df c3363
    obtain ⟨j3364, x3365, g3366, h⟩ := un2 h
    obtain ⟨g33661, g33662⟩ := geti_in g3366
    have g33663 := ac_Int g33662
    try simp only [wn] at g33661
    obtain ⟨j3367, x3368, g3369, h⟩ := un2 h
    obtain ⟨g33691, g33692⟩ := geti_in g3369
    have g33693 := ac_Int g33692
    try simp only [wn] at g33691
    obtain ⟨g3370, h⟩ := un_roomd h
    cases h
    refine ⟨0, fun n hn => ?_⟩
    simp (maxSteps := 2000000) only [W, reduceIte, Nat.reduceEqDiff, Nat.reduceAdd, Nat.reduceSub, Nat.reduceLT, Nat.reduceLeDiff, Nat.reduceMul, h142l0_0, q142l0_0, a142l0b, rc_Range, c3363d, g33661, g33663, g33691, g33693, g3370, wd]
theorem c142_0 (z0 : Bool) (z1 : Bool) (v3356 : List Int) (v3357 : List Int) (r3375 : List Range) (h : F142_0 v3356 v3357 = some r3375) : Ev fun n => (ex tab n).call 142 [.slice 0 0 v3356.length v3356.length 1 false, .slice 1 0 v3357.length v3357.length 1 false] [.row z0 true (rowC v3356), .row z1 true (rowC v3357)] = some (.slice 2 0 r3375.length r3375.length 2 false, [.row z0 true (rowC v3356), .row z1 true (rowC v3357), .row true true (rowC r3375)]) := by
  unfold F142_0 at h
  obtain ⟨r3374, g3372, h⟩ := un1 h
  have kN3373 := k142l0_0 z0 z1 (v3356.length : Int) v3356 v3357 (0, ([] : List Range)) _ g3372
  obtain ⟨N3373, kN3373⟩ := kN3373
  cases h
  refine ev_call (fn := a142) rfl ⟨N3373, fun n hn => ?_⟩
  have kN3373 := kN3373 n (by omega)
  simp (maxSteps := 2000000) only [h142l0_0, q142l0_0, wn, rc_Range] at kN3373
  simp (maxSteps := 2000000) only [W, reduceIte, Nat.reduceEqDiff, Nat.reduceAdd, Nat.reduceSub, Nat.reduceLT, Nat.reduceLeDiff, Nat.reduceMul, a142, a142l0, rc_Range, kN3373, @x_loopAt]
theorem c110_0 (z0 : Bool) (z1 : Bool) (z2 : Bool) (v3340 : Int) (v3341 : List WaterNode) (v3342 : List WaterConduit) (v3343 : List Branch) (r3382 : List Range) (r3383 : List Range) (h : F110_0 v3340 v3341 v3342 v3343 = some (r3382, r3383)) : Ev fun n => (ex tab n).call 110 [.agg [.slice 0 0 v3341.length v3341.length 4 false, .slice 1 0 v3342.length v3342.length 6 false, .slice 2 0 v3343.length v3343.length 2 false, .int .i64 v3340]] [.row z0 true (rowC v3341), .row z1 true (rowC v3342), .row z2 true (rowC v3343)] = some (.agg [.slice 3 0 r3382.length r3382.length 2 false, .slice 4 0 r3383.length r3383.length 2 false], [.row z0 true (rowC v3341), .row z1 true (rowC v3342), .row z2 true (rowC v3343), .row true true (rowC r3382), .row true true (rowC r3383)]) := by
  unfold F110_0 at h
  obtain ⟨r3346, r3347, g3344, h⟩ := un2 h
  obtain ⟨N3345, kN3345⟩ := c107_0 z0 z1 z2 v3340 v3341 v3342 v3343 _ _ g3344
  obtain ⟨r3350, r3351, g3348, h⟩ := un2 h
  obtain ⟨N3349, kN3349⟩ := c101_0 false false false v3340 r3346 v3341 v3342 v3343 _ _ g3348
  obtain ⟨r3354, r3355, g3352, h⟩ := un2 h
  obtain ⟨N3353, kN3353⟩ := c101_0 false false false v3340 r3347 v3341 v3342 v3343 _ _ g3352
  obtain ⟨r3378, g3376, h⟩ := un1 h
  obtain ⟨N3377, kN3377⟩ := c142_0 false false r3350 r3354 _ g3376
  obtain ⟨r3381, g3379, h⟩ := un1 h
  obtain ⟨N3380, kN3380⟩ := c142_0 true true r3351 r3355 _ g3379
  cases h
  refine ev_call (fn := a110) rfl ⟨N3345 + N3349 + N3353 + N3377 + N3380, fun n hn => ?_⟩
  have kN3345 := kN3345 n (by omega)
  try simp (maxSteps := 2000000) only [wn, rc_Range] at kN3345
  have kN3349 := kN3349 n (by omega)
  try simp (maxSteps := 2000000) only [wn, rc_Range] at kN3349
  have kN3353 := kN3353 n (by omega)
  try simp (maxSteps := 2000000) only [wn, rc_Range] at kN3353
  have kN3377 := kN3377 n (by omega)
  try simp (maxSteps := 2000000) only [wn, rc_Range] at kN3377
  have kN3380 := kN3380 n (by omega)
  try simp (maxSteps := 2000000) only [wn, rc_Range] at kN3380
  simp (maxSteps := 2000000) only [W, reduceIte, Nat.reduceEqDiff, Nat.reduceAdd, Nat.reduceSub, Nat.reduceLT, Nat.reduceLeDiff, Nat.reduceMul, a110, rc_Range, kN3345, kN3349, kN3353, kN3377, kN3380, wd]
noncomputable def h114l0_0 (z0 : Bool) (z1 : Bool) (v3448 : Int) (v3449 : Int) (v3451 : List WaterNode) (v3452 : List WaterConduit) (v3453 : List Int) (v3454 : List Int) (v3455 : List Int) (v3456 : List Int) : (Int × (List Int)) → Env × Heap
  | (v3450, v3457) => ([(1, .int .i64 v3448), (2, .ptr 2 0), (4, .ptr 3 0), (5, .slice 6 0 v3455.length v3455.length 1 false), (6, .slice 7 0 v3456.length v3456.length 1 false), (8, .int .i64 v3449), (10, .slice 8 0 v3457.length v3457.length 1 false), (11, .int .i64 v3450)], [.row z0 true (rowC v3451), .row z1 true (rowC v3452), .row true false [.slice 0 0 v3451.length v3451.length 4 false, .slice 1 0 v3452.length v3452.length 6 false], .row true false [.slice 4 0 v3453.length v3453.length 1 false, .slice 5 0 v3454.length v3454.length 1 false], .row true true (rowC v3453), .row true true (rowC v3454), .row true true (rowC v3455), .row true true (rowC v3456), .row true true (rowC v3457)])
noncomputable def q114l0_0 (z0 : Bool) (z1 : Bool) (v3448 : Int) (v3449 : Int) (v3451 : List WaterNode) (v3452 : List WaterConduit) (v3453 : List Int) (v3454 : List Int) (v3455 : List Int) (v3456 : List Int) : ((List Int)) → AExit × Env × Heap
  | r3463 => (.exit 0, [(1, .int .i64 v3448), (2, .ptr 2 0), (4, .ptr 3 0), (5, .slice 6 0 v3455.length v3455.length 1 false), (6, .slice 7 0 v3456.length v3456.length 1 false), (8, .int .i64 v3449), (10, .slice 8 0 r3463.length r3463.length 1 false)], [.row z0 true (rowC v3451), .row z1 true (rowC v3452), .row true false [.slice 0 0 v3451.length v3451.length 4 false, .slice 1 0 v3452.length v3452.length 6 false], .row true false [.slice 4 0 v3453.length v3453.length 1 false, .slice 5 0 v3454.length v3454.length 1 false], .row true true (rowC v3453), .row true true (rowC v3454), .row true true (rowC v3455), .row true true (rowC v3456), .row true true (rowC r3463)])
theorem k114l0_0 (z0 : Bool) (z1 : Bool) (v3448 : Int) (v3449 : Int) (v3451 : List WaterNode) (v3452 : List WaterConduit) (v3453 : List Int) (v3454 : List Int) (v3455 : List Int) (v3456 : List Int) (s : Int × (List Int)) (o : (List Int)) (h : L114l0_0 v3448 v3449 v3451 v3452 v3453 v3454 v3455 v3456 s = some o) : Ev fun n => loopAt [1, 2, 4, 5, 6, 8, 10, 11] [1, 2, 4, 5, 6, 8, 10] a114l0b (ex tab n) 2 (h114l0_0 z0 z1 v3448 v3449 v3451 v3452 v3453 v3454 v3455 v3456 s) = some (q114l0_0 z0 z1 v3448 v3449 v3451 v3452 v3453 v3454 v3455 v3456 o) := by
  refine iter_sound (S114l0_0 v3448 v3449 v3451 v3452 v3453 v3454 v3455 v3456) [1, 2, 4, 5, 6, 8, 10, 11] [1, 2, 4, 5, 6, 8, 10] a114l0b 2 (h114l0_0 z0 z1 v3448 v3449 v3451 v3452 v3453 v3454 v3455 v3456) (q114l0_0 z0 z1 v3448 v3449 v3451 v3452 v3453 v3454 v3455 v3456) ?_ _ _ _ h
  rintro ⟨v3450, v3457⟩ z h
  simp only [S114l0_0] at h
  by_cases c3458 : (v3451.length : Int) ≤ v3450
  · rw [if_pos c3458] at h
    have c3458d := dt c3458
    cases h
    refine ⟨0, fun n hn => ?_⟩
    simp (maxSteps := 2000000) only [W, reduceIte, Nat.reduceEqDiff, Nat.reduceAdd, Nat.reduceSub, Nat.reduceLT, Nat.reduceLeDiff, Nat.reduceMul, h114l0_0, q114l0_0, a114l0b, rc_WaterNode, c3458d]
  · rw [if_neg c3458] at h
    have c3458d := df c3458
    obtain ⟨j3459, x3460, g3461, h⟩ := un2 h
    obtain ⟨g34611, g34612⟩ := geti_in g3461
    have g34613 := ac_WaterNode g34612
    try simp only [wn] at g34611
    obtain ⟨g3462, h⟩ := un_roomd h
    cases h
    refine ⟨0, fun n hn => ?_⟩
    simp (maxSteps := 2000000) only [W, reduceIte, Nat.reduceEqDiff, Nat.reduceAdd, Nat.reduceSub, Nat.reduceLT, Nat.reduceLeDiff, Nat.reduceMul, h114l0_0, q114l0_0, a114l0b, rc_WaterNode, c3458d, g34611, g34613, g3462]
noncomputable def h155l0_0 (z0 : Bool) (v3535 : Int) (v3537 : List Int) : (Int) → Env × Heap
  | v3536 => ([(0, .slice 0 0 v3537.length v3537.length 1 false), (1, .int .i64 v3535), (5, .int .i64 v3536)], [.row z0 true (rowC v3537)])
noncomputable def q155l0_0 (z0 : Bool) (v3535 : Int) (v3537 : List Int) : ((Unit) ⊕ (Int)) → AExit × Env × Heap
  | .inl (_) => (.exit 0, [(4, .undef)], [.row z0 true (rowC v3537)])
  | .inr (r3543) => (.ret, [(4, .int .i64 r3543)], [.row z0 true (rowC v3537)])
theorem k155l0_0 (z0 : Bool) (v3535 : Int) (v3537 : List Int) (s : Int) (o : (Unit) ⊕ (Int)) (h : L155l0_0 v3535 v3537 s = some o) : Ev fun n => loopAt [0, 1, 5] [4] a155l0b (ex tab n) 1 (h155l0_0 z0 v3535 v3537 s) = some (q155l0_0 z0 v3535 v3537 o) := by
  refine iter_sound (S155l0_0 v3535 v3537) [0, 1, 5] [4] a155l0b 1 (h155l0_0 z0 v3535 v3537) (q155l0_0 z0 v3535 v3537) ?_ _ _ _ h
  rintro v3536 z h
  simp only [S155l0_0] at h
  by_cases c3538 : (v3537.length : Int) ≤ v3536
  · rw [if_pos c3538] at h
    have c3538d := dt c3538
    cases h
    refine ⟨0, fun n hn => ?_⟩
    simp (maxSteps := 2000000) only [W, reduceIte, Nat.reduceEqDiff, Nat.reduceAdd, Nat.reduceSub, Nat.reduceLT, Nat.reduceLeDiff, Nat.reduceMul, h155l0_0, q155l0_0, a155l0b, c3538d]
  · rw [if_neg c3538] at h
    have c3538d := df c3538
    obtain ⟨j3539, x3540, g3541, h⟩ := un2 h
    obtain ⟨g35411, g35412⟩ := geti_in g3541
    have g35413 := ac_Int g35412
    try simp only [wn] at g35411
    by_cases c3542 : x3540 = v3535
    · rw [if_pos c3542] at h
      have c3542d := dt c3542
      cases h
      refine ⟨0, fun n hn => ?_⟩
      simp (maxSteps := 2000000) only [W, reduceIte, Nat.reduceEqDiff, Nat.reduceAdd, Nat.reduceSub, Nat.reduceLT, Nat.reduceLeDiff, Nat.reduceMul, h155l0_0, q155l0_0, a155l0b, c3538d, g35411, g35413, c3542d]
    · rw [if_neg c3542] at h
      have c3542d := df c3542
      cases h
      refine ⟨0, fun n hn => ?_⟩
      simp (maxSteps := 2000000) only [W, reduceIte, Nat.reduceEqDiff, Nat.reduceAdd, Nat.reduceSub, Nat.reduceLT, Nat.reduceLeDiff, Nat.reduceMul, h155l0_0, q155l0_0, a155l0b, c3538d, g35411, g35413, c3542d]
theorem c155_0 (z0 : Bool) (v3533 : Int) (v3534 : List Int) (r3547 : Int) (h : F155_0 v3533 v3534 = some r3547) : Ev fun n => (ex tab n).call 155 [.slice 0 0 v3534.length v3534.length 1 false, .int .i64 v3533] [.row z0 true (rowC v3534)] = some (.int .i64 r3547, [.row z0 true (rowC v3534)]) := by
  unfold F155_0 at h
  obtain ⟨g3544_, g3544, h⟩ := un1 h
  rcases g3544_ with _ | r3546
  · dsimp only at h
    have kN3545 := k155l0_0 z0 v3533 v3534 0 _ g3544
    obtain ⟨N3545, kN3545⟩ := kN3545
    cases h
    refine ev_call (fn := a155) rfl ⟨N3545, fun n hn => ?_⟩
    have kN3545 := kN3545 n (by omega)
    simp (maxSteps := 2000000) only [h155l0_0, q155l0_0, wn] at kN3545
    simp (maxSteps := 2000000) only [W, reduceIte, Nat.reduceEqDiff, Nat.reduceAdd, Nat.reduceSub, Nat.reduceLT, Nat.reduceLeDiff, Nat.reduceMul, a155, a155l0, kN3545, @x_loopAt]
  · dsimp only at h
    have kN3545 := k155l0_0 z0 v3533 v3534 0 _ g3544
    obtain ⟨N3545, kN3545⟩ := kN3545
    cases h
    refine ev_call (fn := a155) rfl ⟨N3545, fun n hn => ?_⟩
    have kN3545 := kN3545 n (by omega)
    simp (maxSteps := 2000000) only [h155l0_0, q155l0_0, wn] at kN3545
    simp (maxSteps := 2000000) only [W, reduceIte, Nat.reduceEqDiff, Nat.reduceAdd, Nat.reduceSub, Nat.reduceLT, Nat.reduceLeDiff, Nat.reduceMul, a155, a155l0, kN3545, @x_loopAt]
noncomputable def h143l0_0 (z0 : Bool) (z1 : Bool) (z2 : Bool) (z3 : Bool) (v3517 : Int) (v3518 : List WaterNode) (v3519 : List WaterConduit) (v3520 : List Int) (v3521 : List Int) : (Int) → Env × Heap
  | v3516 => ([(1, .slice 2 0 v3520.length v3520.length 1 false), (2, .slice 3 0 v3521.length v3521.length 1 false), (3, .int .i64 v3516), (4, .int .i64 v3517), (5, .ptr 4 0)], [.row z0 true (rowC v3518), .row z1 true (rowC v3519), .row z2 true (rowC v3520), .row z3 true (rowC v3521), .row true false [.slice 0 0 v3518.length v3518.length 4 false, .slice 1 0 v3519.length v3519.length 6 false]])
noncomputable def q143l0_0 (z0 : Bool) (z1 : Bool) (z2 : Bool) (z3 : Bool) (v3517 : Int) (v3518 : List WaterNode) (v3519 : List WaterConduit) (v3520 : List Int) (v3521 : List Int) : (Int) → AExit × Env × Heap
  | r3554 => (.exit 0, [(3, .int .i64 r3554), (4, .int .i64 v3517), (10, .undef)], [.row z0 true (rowC v3518), .row z1 true (rowC v3519), .row z2 true (rowC v3520), .row z3 true (rowC v3521)])
theorem k143l0_0 (z0 : Bool) (z1 : Bool) (z2 : Bool) (z3 : Bool) (v3517 : Int) (v3518 : List WaterNode) (v3519 : List WaterConduit) (v3520 : List Int) (v3521 : List Int) (s : Int) (o : Int) (h : L143l0_0 v3517 v3518 v3519 v3520 v3521 s = some o) : Ev fun n => loopAt [1, 2, 3, 4, 5] [3, 4, 10] a143l0b (ex tab n) 4 (h143l0_0 z0 z1 z2 z3 v3517 v3518 v3519 v3520 v3521 s) = some (q143l0_0 z0 z1 z2 z3 v3517 v3518 v3519 v3520 v3521 o) := by
  refine iter_sound (S143l0_0 v3517 v3518 v3519 v3520 v3521) [1, 2, 3, 4, 5] [3, 4, 10] a143l0b 4 (h143l0_0 z0 z1 z2 z3 v3517 v3518 v3519 v3520 v3521) (q143l0_0 z0 z1 z2 z3 v3517 v3518 v3519 v3520 v3521) ?_ _ _ _ h
  rintro v3516 z h
  simp only [S143l0_0] at h
  by_cases c3522 : v3516 ≤ v3517
  · rw [if_pos c3522] at h
    have c3522d := dt c3522
    cases h
    refine ⟨0, fun n hn => ?_⟩
    simp (maxSteps := 2000000) only [W, reduceIte, Nat.reduceEqDiff, Nat.reduceAdd, Nat.reduceSub, Nat.reduceLT, Nat.reduceLeDiff, Nat.reduceMul, h143l0_0, q143l0_0, a143l0b, rc_WaterConduit, c3522d, wd]
  · rw [if_neg c3522] at h
    have c3522d := df c3522
    obtain ⟨j3523, x3524, g3525, h⟩ := un2 h
    obtain ⟨g35251, g35252⟩ := geti_in g3525
    have g35253 := ac_Int g35252
    try simp only [wn] at g35251
    obtain ⟨j3526, x3527, g3528, h⟩ := un2 h
    obtain ⟨g35281, g35282⟩ := geti_in g3528
    have g35283 := ac_WaterConduit g35282
    try simp only [wn] at g35281
    obtain ⟨j3529, x3530, g3531, h⟩ := un2 h
    obtain ⟨g35311, g35312⟩ := geti_in g3531
    have g35313 := ac_Int g35312
    try simp only [wn] at g35311
    by_cases c3532 : x3527.fFrom = x3530
    · rw [if_pos c3532] at h
      have c3532d := dt c3532
      obtain ⟨r3550, g3548, h⟩ := un1 h
      obtain ⟨N3549, kN3549⟩ := c155_0 z3 x3527.fTo v3521 _ g3548
      cases h
      refine ⟨N3549, fun n hn => ?_⟩
      have kN3549 := kN3549 n (by omega)
      try simp (maxSteps := 2000000) only [wn, rc_WaterConduit] at kN3549
      simp (maxSteps := 2000000) only [W, reduceIte, Nat.reduceEqDiff, Nat.reduceAdd, Nat.reduceSub, Nat.reduceLT, Nat.reduceLeDiff, Nat.reduceMul, h143l0_0, q143l0_0, a143l0b, rc_WaterConduit, c3522d, g35251, g35253, g35281, g35283, g35311, g35313, c3532d, kN3549, wd]
    · rw [if_neg c3532] at h
      have c3532d := df c3532
      obtain ⟨r3553, g3551, h⟩ := un1 h
      obtain ⟨N3552, kN3552⟩ := c155_0 z3 x3527.fFrom v3521 _ g3551
      cases h
      refine ⟨N3552, fun n hn => ?_⟩
      have kN3552 := kN3552 n (by omega)
      try simp (maxSteps := 2000000) only [wn, rc_WaterConduit] at kN3552
      simp (maxSteps := 2000000) only [W, reduceIte, Nat.reduceEqDiff, Nat.reduceAdd, Nat.reduceSub, Nat.reduceLT, Nat.reduceLeDiff, Nat.reduceMul, h143l0_0, q143l0_0, a143l0b, rc_WaterConduit, c3522d, g35251, g35253, g35281, g35283, g35311, g35313, c3532d, kN3552, wd]
end Go.AI
end
section
/-
  Functions, walked through: guidevanelaw02.WaterNets, guidevaneref02.ResistErr, guidevaneref02.ResistsErr, guidevaneref02.DropErr, guidevanebase.CopyInts, water.resistsErr$1, slices.IndexFunc[[]int,int], slices.ContainsFunc[[]int,int], water.resistsErr, water.dropErr, water.through$1, water.least.
-/
set_option linter.unusedVariables false
set_option linter.unusedSimpArgs false
set_option maxRecDepth 100000
set_option maxHeartbeats 4000000
namespace Go.AI
end Go.AI
end
section
/-
  Functions, walked through: water.through, water.parallel, water.ParallelOf, guidevanebase.CopyInts, water.FlowThrough, water.DropFor$1, water.least, water.DropFor$2, water.least, water.DropFor.
-/
set_option linter.unusedVariables false
set_option linter.unusedSimpArgs false
set_option maxRecDepth 100000
set_option maxHeartbeats 4000000
namespace Go.AI
end Go.AI
end
section
/-
  Functions, walked through: water.SerialOf, guidevanebase.Root, guidevanebase.Floor, guidevanebase.Ceil, guidevanebase.RootUp, guidevaneref02.Through, guidevaneref02.Parallel.
-/
set_option linter.unusedVariables false
set_option linter.unusedSimpArgs false
set_option maxRecDepth 100000
set_option maxHeartbeats 4000000
namespace Go.AI
theorem c113_0 (v2882 : Int) (v2883 : Int) (r2888 : Int) (h : F113_0 v2882 v2883 = some r2888) : Ev fun n => (ex tab n).call 113 [.int .i64 v2882, .int .i64 v2883] [] = some (.int .i64 r2888, []) := by
  unfold F113_0 at h
  by_cases c2885 : v2883 = 0
  · rw [if_pos c2885] at h
    have c2885d := dt c2885
    cases h
  · rw [if_neg c2885] at h
    have c2885d := df c2885
    have d2884 := fun x => bin_quo .i64 x v2883 (by assumption)
    have d2886 := fun x => bin_rem .i64 x v2883 (by assumption)
    by_cases c2887 : 0 ≤ (Int.tmod v2882 v2883)
    · rw [if_pos c2887] at h
      have c2887d := dt c2887
      cases h
      refine ev_call (fn := a113) rfl ⟨0, fun n hn => ?_⟩
      simp (maxSteps := 2000000) only [W, reduceIte, Nat.reduceEqDiff, Nat.reduceAdd, Nat.reduceSub, Nat.reduceLT, Nat.reduceLeDiff, Nat.reduceMul, a113, c2885d, d2884, d2886, c2887d]
    · rw [if_neg c2887] at h
      have c2887d := df c2887
      cases h
      refine ev_call (fn := a113) rfl ⟨0, fun n hn => ?_⟩
      simp (maxSteps := 2000000) only [W, reduceIte, Nat.reduceEqDiff, Nat.reduceAdd, Nat.reduceSub, Nat.reduceLT, Nat.reduceLeDiff, Nat.reduceMul, a113, c2885d, d2884, d2886, c2887d]
end Go.AI
end
section
/-
  Functions, walked through: guidevaneref02.through, guidevaneref02.State, guidevaneref02.Gap.
-/
set_option linter.unusedVariables false
set_option linter.unusedSimpArgs false
set_option maxRecDepth 100000
set_option maxHeartbeats 4000000
namespace Go.AI
theorem c143_0 (z0 : Bool) (z1 : Bool) (z2 : Bool) (z3 : Bool) (v3510 : Int) (v3511 : Int) (v3512 : List WaterNode) (v3513 : List WaterConduit) (v3514 : List Int) (v3515 : List Int) (r3558 : Bool) (h : F143_0 v3510 v3511 v3512 v3513 v3514 v3515 = some r3558) : Ev fun n => (ex tab n).call 143 [.agg [.slice 0 0 v3512.length v3512.length 4 false, .slice 1 0 v3513.length v3513.length 6 false], .slice 2 0 v3514.length v3514.length 1 false, .slice 3 0 v3515.length v3515.length 1 false, .int .i64 v3510, .int .i64 v3511] [.row z0 true (rowC v3512), .row z1 true (rowC v3513), .row z2 true (rowC v3514), .row z3 true (rowC v3515)] = some (.bool r3558, [.row z0 true (rowC v3512), .row z1 true (rowC v3513), .row z2 true (rowC v3514), .row z3 true (rowC v3515)]) := by
  unfold F143_0 at h
  obtain ⟨r3557, g3555, h⟩ := un1 h
  have kN3556 := k143l0_0 z0 z1 z2 z3 v3511 v3512 v3513 v3514 v3515 v3510 _ g3555
  obtain ⟨N3556, kN3556⟩ := kN3556
  cases h
  refine ev_call (fn := a143) rfl ⟨N3556, fun n hn => ?_⟩
  have kN3556 := kN3556 n (by omega)
  simp (maxSteps := 2000000) only [h143l0_0, q143l0_0, wn, rc_WaterConduit] at kN3556
  simp (maxSteps := 2000000) only [W, reduceIte, Nat.reduceEqDiff, Nat.reduceAdd, Nat.reduceSub, Nat.reduceLT, Nat.reduceLeDiff, Nat.reduceMul, a143, a143l0, rc_WaterConduit, kN3556, @x_loopAt]
noncomputable def h114l1_0 (z0 : Bool) (z1 : Bool) (v3497 : Int) (v3500 : List WaterNode) (v3501 : List WaterConduit) (v3502 : List Int) (v3503 : List Int) (v3504 : List Int) (v3505 : List Int) (v3506 : List Int) (v3507 : List Int) (v3508 : List Int) : (Int × Int) → Env × Heap
  | (v3498, v3499) => ([(2, .ptr 2 0), (4, .ptr 3 0), (5, .slice 6 0 v3504.length v3504.length 1 false), (6, .slice 7 0 v3505.length v3505.length 1 false), (10, .slice 8 0 v3506.length v3506.length 1 false), (12, .ptr 9 0), (14, .int .i64 v3497), (15, .int .i64 v3498), (16, .int .i64 v3499)], [.row z0 true (rowC v3500), .row z1 true (rowC v3501), .row true false [.slice 0 0 v3500.length v3500.length 4 false, .slice 1 0 v3501.length v3501.length 6 false], .row true false [.slice 4 0 v3502.length v3502.length 1 false, .slice 5 0 v3503.length v3503.length 1 false], .row true true (rowC v3502), .row true true (rowC v3503), .row true true (rowC v3504), .row true true (rowC v3505), .row true true (rowC v3506), .row true false [.slice 10 0 v3507.length v3507.length 1 true, .slice 11 0 v3508.length v3508.length 1 true], .row true true (rowC v3507), .row true true (rowC v3508)])
noncomputable def q114l1_0 (z0 : Bool) (z1 : Bool) (v3497 : Int) (v3500 : List WaterNode) (v3501 : List WaterConduit) (v3502 : List Int) (v3503 : List Int) (v3504 : List Int) (v3505 : List Int) (v3506 : List Int) (v3507 : List Int) (v3508 : List Int) : (Int) → AExit × Env × Heap
  | r3569 => (.exit 4, [(2, .ptr 2 0), (4, .ptr 3 0), (5, .slice 6 0 v3504.length v3504.length 1 false), (6, .slice 7 0 v3505.length v3505.length 1 false), (10, .slice 8 0 v3506.length v3506.length 1 false), (12, .ptr 9 0), (14, .int .i64 v3497), (15, .int .i64 r3569)], [.row z0 true (rowC v3500), .row z1 true (rowC v3501), .row true false [.slice 0 0 v3500.length v3500.length 4 false, .slice 1 0 v3501.length v3501.length 6 false], .row true false [.slice 4 0 v3502.length v3502.length 1 false, .slice 5 0 v3503.length v3503.length 1 false], .row true true (rowC v3502), .row true true (rowC v3503), .row true true (rowC v3504), .row true true (rowC v3505), .row true true (rowC v3506), .row true false [.slice 10 0 v3507.length v3507.length 1 true, .slice 11 0 v3508.length v3508.length 1 true], .row true true (rowC v3507), .row true true (rowC v3508)])
theorem k114l1_0 (z0 : Bool) (z1 : Bool) (v3497 : Int) (v3500 : List WaterNode) (v3501 : List WaterConduit) (v3502 : List Int) (v3503 : List Int) (v3504 : List Int) (v3505 : List Int) (v3506 : List Int) (v3507 : List Int) (v3508 : List Int) (s : Int × Int) (o : Int) (h : L114l1_0 v3497 v3500 v3501 v3502 v3503 v3504 v3505 v3506 v3507 v3508 s = some o) : Ev fun n => loopAt [2, 4, 5, 6, 10, 12, 14, 15, 16] [2, 4, 5, 6, 10, 12, 14, 15] a114l1b (ex tab n) 2 (h114l1_0 z0 z1 v3497 v3500 v3501 v3502 v3503 v3504 v3505 v3506 v3507 v3508 s) = some (q114l1_0 z0 z1 v3497 v3500 v3501 v3502 v3503 v3504 v3505 v3506 v3507 v3508 o) := by
  refine iter_sound (S114l1_0 v3497 v3500 v3501 v3502 v3503 v3504 v3505 v3506 v3507 v3508) [2, 4, 5, 6, 10, 12, 14, 15, 16] [2, 4, 5, 6, 10, 12, 14, 15] a114l1b 2 (h114l1_0 z0 z1 v3497 v3500 v3501 v3502 v3503 v3504 v3505 v3506 v3507 v3508) (q114l1_0 z0 z1 v3497 v3500 v3501 v3502 v3503 v3504 v3505 v3506 v3507 v3508) ?_ _ _ _ h
  rintro ⟨v3498, v3499⟩ z h
  simp only [S114l1_0] at h
  by_cases c3509 : (v3504.length : Int) ≤ v3499
  · rw [if_pos c3509] at h
    have c3509d := dt c3509
    cases h
    refine ⟨0, fun n hn => ?_⟩
    simp (maxSteps := 2000000) only [W, reduceIte, Nat.reduceEqDiff, Nat.reduceAdd, Nat.reduceSub, Nat.reduceLT, Nat.reduceLeDiff, Nat.reduceMul, h114l1_0, q114l1_0, a114l1b, c3509d]
  · rw [if_neg c3509] at h
    have c3509d := df c3509
    obtain ⟨r3561, g3559, h⟩ := un1 h
    obtain ⟨N3560, kN3560⟩ := c143_0 z0 z1 true true v3499 v3497 v3500 v3501 v3504 v3505 _ g3559
    by_cases c3562 : r3561 = true
    · rw [if_pos c3562] at h
      have c3562d := c3562
      obtain ⟨j3563, x3564, g3565, h⟩ := un2 h
      obtain ⟨g35651, g35652⟩ := geti_in g3565
      have g35653 := ac_Int g35652
      try simp only [wn] at g35651
      obtain ⟨j3566, x3567, g3568, h⟩ := un2 h
      obtain ⟨g35681, g35682⟩ := geti_in g3568
      have g35683 := ac_Int g35682
      try simp only [wn] at g35681
      cases h
      refine ⟨N3560, fun n hn => ?_⟩
      have kN3560 := kN3560 n (by omega)
      try simp (maxSteps := 2000000) only [wn] at kN3560
      simp (maxSteps := 2000000) only [W, reduceIte, Nat.reduceEqDiff, Nat.reduceAdd, Nat.reduceSub, Nat.reduceLT, Nat.reduceLeDiff, Nat.reduceMul, h114l1_0, q114l1_0, a114l1b, c3509d, kN3560, c3562d, g35651, g35653, g35681, g35683]
    · rw [if_neg c3562] at h
      have c3562d := bf c3562
      cases h
      refine ⟨N3560, fun n hn => ?_⟩
      have kN3560 := kN3560 n (by omega)
      try simp (maxSteps := 2000000) only [wn] at kN3560
      simp (maxSteps := 2000000) only [W, reduceIte, Nat.reduceEqDiff, Nat.reduceAdd, Nat.reduceSub, Nat.reduceLT, Nat.reduceLeDiff, Nat.reduceMul, h114l1_0, q114l1_0, a114l1b, c3509d, kN3560, c3562d]
noncomputable def h114l2_0 (z0 : Bool) (z1 : Bool) (v3487 : List WaterNode) (v3488 : List WaterConduit) (v3489 : List Int) (v3490 : List Int) (v3491 : List Int) (v3492 : List Int) (v3493 : List Int) (v3495 : List Int) : (Int × (List Int)) → Env × Heap
  | (v3486, v3494) => ([(2, .ptr 2 0), (4, .ptr 3 0), (5, .slice 6 0 v3491.length v3491.length 1 false), (6, .slice 7 0 v3492.length v3492.length 1 false), (10, .slice 8 0 v3493.length v3493.length 1 false), (12, .ptr 9 0), (14, .int .i64 v3486)], [.row z0 true (rowC v3487), .row z1 true (rowC v3488), .row true false [.slice 0 0 v3487.length v3487.length 4 false, .slice 1 0 v3488.length v3488.length 6 false], .row true false [.slice 4 0 v3489.length v3489.length 1 false, .slice 5 0 v3490.length v3490.length 1 false], .row true true (rowC v3489), .row true true (rowC v3490), .row true true (rowC v3491), .row true true (rowC v3492), .row true true (rowC v3493), .row true false [.slice 10 0 v3494.length v3494.length 1 true, .slice 11 0 v3495.length v3495.length 1 true], .row true true (rowC v3494), .row true true (rowC v3495)])
noncomputable def q114l2_0 (z0 : Bool) (z1 : Bool) (v3487 : List WaterNode) (v3488 : List WaterConduit) (v3489 : List Int) (v3490 : List Int) (v3491 : List Int) (v3492 : List Int) (v3493 : List Int) (v3495 : List Int) : ((List Int)) → AExit × Env × Heap
  | r3589 => (.exit 2, [(2, .ptr 2 0), (4, .ptr 3 0), (5, .slice 6 0 v3491.length v3491.length 1 false), (6, .slice 7 0 v3492.length v3492.length 1 false), (12, .ptr 8 0)], [.row z0 true (rowC v3487), .row z1 true (rowC v3488), .row true false [.slice 0 0 v3487.length v3487.length 4 false, .slice 1 0 v3488.length v3488.length 6 false], .row true false [.slice 4 0 v3489.length v3489.length 1 false, .slice 5 0 v3490.length v3490.length 1 false], .row true true (rowC v3489), .row true true (rowC v3490), .row true true (rowC v3491), .row true true (rowC v3492), .row true false [.slice 9 0 r3589.length r3589.length 1 true, .slice 10 0 v3495.length v3495.length 1 true], .row true true (rowC r3589), .row true true (rowC v3495)])
theorem k114l2_0 (z0 : Bool) (z1 : Bool) (v3487 : List WaterNode) (v3488 : List WaterConduit) (v3489 : List Int) (v3490 : List Int) (v3491 : List Int) (v3492 : List Int) (v3493 : List Int) (v3495 : List Int) (s : Int × (List Int)) (o : (List Int)) (h : L114l2_0 v3487 v3488 v3489 v3490 v3491 v3492 v3493 v3495 s = some o) : Ev fun n => loopAt [2, 4, 5, 6, 10, 12, 14] [2, 4, 5, 6, 12] a114l2b (ex tab n) 2 (h114l2_0 z0 z1 v3487 v3488 v3489 v3490 v3491 v3492 v3493 v3495 s) = some (q114l2_0 z0 z1 v3487 v3488 v3489 v3490 v3491 v3492 v3493 v3495 o) := by
  refine iter_sound (S114l2_0 v3487 v3488 v3489 v3490 v3491 v3492 v3493 v3495) [2, 4, 5, 6, 10, 12, 14] [2, 4, 5, 6, 12] a114l2b 2 (h114l2_0 z0 z1 v3487 v3488 v3489 v3490 v3491 v3492 v3493 v3495) (q114l2_0 z0 z1 v3487 v3488 v3489 v3490 v3491 v3492 v3493 v3495) ?_ _ _ _ h
  rintro ⟨v3486, v3494⟩ z h
  simp only [S114l2_0] at h
  by_cases c3496 : (v3491.length : Int) ≤ v3486
  · rw [if_pos c3496] at h
    have c3496d := dt c3496
    cases h
    refine ⟨0, fun n hn => ?_⟩
    simp (maxSteps := 2000000) only [W, reduceIte, Nat.reduceEqDiff, Nat.reduceAdd, Nat.reduceSub, Nat.reduceLT, Nat.reduceLeDiff, Nat.reduceMul, h114l2_0, q114l2_0, a114l1, a114l2b, rc_WaterConduit, c3496d, @x_loopAt, wd]
  · rw [if_neg c3496] at h
    have c3496d := df c3496
    obtain ⟨r3572, g3570, h⟩ := un1 h
    have kN3571 := k114l1_0 z0 z1 v3486 v3487 v3488 v3489 v3490 v3491 v3492 v3493 v3494 v3495 (0, v3486) _ g3570
    obtain ⟨N3571, kN3571⟩ := kN3571
    obtain ⟨j3573, x3574, g3575, h⟩ := un2 h
    obtain ⟨g35751, g35752⟩ := geti_in g3575
    have g35753 := ac_Int g35752
    try simp only [wn] at g35751
    obtain ⟨j3576, x3577, g3578, h⟩ := un2 h
    obtain ⟨g35781, g35782⟩ := geti_in g3578
    have g35783 := ac_WaterConduit g35782
    try simp only [wn] at g35781
    obtain ⟨j3579, x3580, g3581, h⟩ := un2 h
    obtain ⟨g35811, g35812⟩ := geti_in g3581
    have g35813 := ac_Int g35812
    try simp only [wn] at g35811
    by_cases c3582 : x3577.fTo = x3580
    · rw [if_pos c3582] at h
      have c3582d := dt c3582
      obtain ⟨j3583, x3584, g3585, h⟩ := un2 h
      obtain ⟨g35851, g35852⟩ := geti_in g3585
      have g35853 := ac_Int g35852
      try simp only [wn] at g35851
      cases h
      refine ⟨N3571, fun n hn => ?_⟩
      have kN3571 := kN3571 n (by omega)
      simp (maxSteps := 2000000) only [h114l1_0, q114l1_0, wn] at kN3571
      simp (maxSteps := 2000000) only [W, reduceIte, Nat.reduceEqDiff, Nat.reduceAdd, Nat.reduceSub, Nat.reduceLT, Nat.reduceLeDiff, Nat.reduceMul, h114l2_0, q114l2_0, a114l1, a114l2b, rc_WaterConduit, c3496d, kN3571, g35751, g35753, g35781, g35783, g35811, g35813, c3582d, g35851, g35853, @x_loopAt, wd]
    · rw [if_neg c3582] at h
      have c3582d := df c3582
      obtain ⟨j3586, x3587, g3588, h⟩ := un2 h
      obtain ⟨g35881, g35882⟩ := geti_in g3588
      have g35883 := ac_Int g35882
      try simp only [wn] at g35881
      cases h
      refine ⟨N3571, fun n hn => ?_⟩
      have kN3571 := kN3571 n (by omega)
      simp (maxSteps := 2000000) only [h114l1_0, q114l1_0, wn] at kN3571
      simp (maxSteps := 2000000) only [W, reduceIte, Nat.reduceEqDiff, Nat.reduceAdd, Nat.reduceSub, Nat.reduceLT, Nat.reduceLeDiff, Nat.reduceMul, h114l2_0, q114l2_0, a114l1, a114l2b, rc_WaterConduit, c3496d, kN3571, g35751, g35753, g35781, g35783, g35811, g35813, c3582d, g35881, g35883, @x_loopAt, wd]
noncomputable def h114l3_0 (z0 : Bool) (z1 : Bool) (v3594 : List WaterNode) (v3595 : List WaterConduit) (v3596 : List Int) (v3597 : List Int) (v3598 : List Int) (v3599 : List Int) (v3600 : List Int) : (Int × (List Int)) → Env × Heap
  | (v3593, v3601) => ([(2, .ptr 2 0), (4, .ptr 3 0), (5, .slice 6 0 v3598.length v3598.length 1 false), (6, .slice 7 0 v3599.length v3599.length 1 false), (12, .ptr 8 0), (17, .int .i64 v3593)], [.row z0 true (rowC v3594), .row z1 true (rowC v3595), .row true false [.slice 0 0 v3594.length v3594.length 4 false, .slice 1 0 v3595.length v3595.length 6 false], .row true false [.slice 4 0 v3596.length v3596.length 1 false, .slice 5 0 v3597.length v3597.length 1 false], .row true true (rowC v3596), .row true true (rowC v3597), .row true true (rowC v3598), .row true true (rowC v3599), .row true false [.slice 9 0 v3600.length v3600.length 1 true, .slice 10 0 v3601.length v3601.length 1 true], .row true true (rowC v3600), .row true true (rowC v3601)])
noncomputable def q114l3_0 (z0 : Bool) (z1 : Bool) (v3594 : List WaterNode) (v3595 : List WaterConduit) (v3596 : List Int) (v3597 : List Int) (v3598 : List Int) (v3599 : List Int) (v3600 : List Int) : ((List Int)) → AExit × Env × Heap
  | r3610 => (.exit 6, [(2, .ptr 2 0), (4, .ptr 3 0), (5, .slice 6 0 v3598.length v3598.length 1 false), (6, .slice 7 0 v3599.length v3599.length 1 false), (12, .ptr 8 0)], [.row z0 true (rowC v3594), .row z1 true (rowC v3595), .row true false [.slice 0 0 v3594.length v3594.length 4 false, .slice 1 0 v3595.length v3595.length 6 false], .row true false [.slice 4 0 v3596.length v3596.length 1 false, .slice 5 0 v3597.length v3597.length 1 false], .row true true (rowC v3596), .row true true (rowC v3597), .row true true (rowC v3598), .row true true (rowC v3599), .row true false [.slice 9 0 v3600.length v3600.length 1 true, .slice 10 0 r3610.length r3610.length 1 true], .row true true (rowC v3600), .row true true (rowC r3610)])
theorem k114l3_0 (z0 : Bool) (z1 : Bool) (v3594 : List WaterNode) (v3595 : List WaterConduit) (v3596 : List Int) (v3597 : List Int) (v3598 : List Int) (v3599 : List Int) (v3600 : List Int) (s : Int × (List Int)) (o : (List Int)) (h : L114l3_0 v3594 v3595 v3596 v3597 v3598 v3599 v3600 s = some o) : Ev fun n => loopAt [2, 4, 5, 6, 12, 17] [2, 4, 5, 6, 12] a114l3b (ex tab n) 2 (h114l3_0 z0 z1 v3594 v3595 v3596 v3597 v3598 v3599 v3600 s) = some (q114l3_0 z0 z1 v3594 v3595 v3596 v3597 v3598 v3599 v3600 o) := by
  refine iter_sound (S114l3_0 v3594 v3595 v3596 v3597 v3598 v3599 v3600) [2, 4, 5, 6, 12, 17] [2, 4, 5, 6, 12] a114l3b 2 (h114l3_0 z0 z1 v3594 v3595 v3596 v3597 v3598 v3599 v3600) (q114l3_0 z0 z1 v3594 v3595 v3596 v3597 v3598 v3599 v3600) ?_ _ _ _ h
  rintro ⟨v3593, v3601⟩ z h
  simp only [S114l3_0] at h
  by_cases c3602 : (v3594.length : Int) ≤ v3593
  · rw [if_pos c3602] at h
    have c3602d := dt c3602
    cases h
    refine ⟨0, fun n hn => ?_⟩
    simp (maxSteps := 2000000) only [W, reduceIte, Nat.reduceEqDiff, Nat.reduceAdd, Nat.reduceSub, Nat.reduceLT, Nat.reduceLeDiff, Nat.reduceMul, h114l3_0, q114l3_0, a114l3b, rc_WaterNode, c3602d, wd]
  · rw [if_neg c3602] at h
    have c3602d := df c3602
    obtain ⟨j3603, x3604, g3605, h⟩ := un2 h
    obtain ⟨g36051, g36052⟩ := geti_in g3605
    have g36053 := ac_WaterNode g36052
    try simp only [wn] at g36051
    by_cases c3606 : x3604.fLake = true
    · rw [if_pos c3606] at h
      have c3606d := c3606
      obtain ⟨j3607, x3608, g3609, h⟩ := un2 h
      obtain ⟨g36091, g36092⟩ := geti_in g3609
      have g36093 := ac_Int g36092
      try simp only [wn] at g36091
      cases h
      refine ⟨0, fun n hn => ?_⟩
      simp (maxSteps := 2000000) only [W, reduceIte, Nat.reduceEqDiff, Nat.reduceAdd, Nat.reduceSub, Nat.reduceLT, Nat.reduceLeDiff, Nat.reduceMul, h114l3_0, q114l3_0, a114l3b, rc_WaterNode, c3602d, g36051, g36053, c3606d, g36091, g36093, wd]
    · rw [if_neg c3606] at h
      have c3606d := bf c3606
      cases h
      refine ⟨0, fun n hn => ?_⟩
      simp (maxSteps := 2000000) only [W, reduceIte, Nat.reduceEqDiff, Nat.reduceAdd, Nat.reduceSub, Nat.reduceLT, Nat.reduceLeDiff, Nat.reduceMul, h114l3_0, q114l3_0, a114l3b, rc_WaterNode, c3602d, g36051, g36053, c3606d, wd]
noncomputable def h114l4_0 (z0 : Bool) (z1 : Bool) (v3615 : List WaterNode) (v3616 : List WaterConduit) (v3617 : List Int) (v3618 : List Int) (v3619 : List Int) (v3620 : List Int) (v3621 : List Int) : (Int × (List Int)) → Env × Heap
  | (v3614, v3622) => ([(2, .ptr 2 0), (4, .ptr 3 0), (5, .slice 6 0 v3619.length v3619.length 1 false), (6, .slice 7 0 v3620.length v3620.length 1 false), (12, .ptr 8 0), (18, .int .i64 v3614)], [.row z0 true (rowC v3615), .row z1 true (rowC v3616), .row true false [.slice 0 0 v3615.length v3615.length 4 false, .slice 1 0 v3616.length v3616.length 6 false], .row true false [.slice 4 0 v3617.length v3617.length 1 false, .slice 5 0 v3618.length v3618.length 1 false], .row true true (rowC v3617), .row true true (rowC v3618), .row true true (rowC v3619), .row true true (rowC v3620), .row true false [.slice 9 0 v3621.length v3621.length 1 true, .slice 10 0 v3622.length v3622.length 1 true], .row true true (rowC v3621), .row true true (rowC v3622)])
noncomputable def q114l4_0 (z0 : Bool) (z1 : Bool) (v3615 : List WaterNode) (v3616 : List WaterConduit) (v3617 : List Int) (v3618 : List Int) (v3619 : List Int) (v3620 : List Int) (v3621 : List Int) : ((List Int)) → AExit × Env × Heap
  | r3658 => (.exit 8, [(4, .ptr 2 0), (12, .ptr 5 0)], [.row z0 true (rowC v3615), .row z1 true (rowC v3616), .row true false [.slice 3 0 v3617.length v3617.length 1 false, .slice 4 0 v3618.length v3618.length 1 false], .row true true (rowC v3617), .row true true (rowC v3618), .row true false [.slice 6 0 v3621.length v3621.length 1 true, .slice 7 0 r3658.length r3658.length 1 true], .row true true (rowC v3621), .row true true (rowC r3658)])
theorem k114l4_0 (z0 : Bool) (z1 : Bool) (v3615 : List WaterNode) (v3616 : List WaterConduit) (v3617 : List Int) (v3618 : List Int) (v3619 : List Int) (v3620 : List Int) (v3621 : List Int) (s : Int × (List Int)) (o : (List Int)) (h : L114l4_0 v3615 v3616 v3617 v3618 v3619 v3620 v3621 s = some o) : Ev fun n => loopAt [2, 4, 5, 6, 12, 18] [4, 12] a114l4b (ex tab n) 2 (h114l4_0 z0 z1 v3615 v3616 v3617 v3618 v3619 v3620 v3621 s) = some (q114l4_0 z0 z1 v3615 v3616 v3617 v3618 v3619 v3620 v3621 o) := by
  refine iter_sound (S114l4_0 v3615 v3616 v3617 v3618 v3619 v3620 v3621) [2, 4, 5, 6, 12, 18] [4, 12] a114l4b 2 (h114l4_0 z0 z1 v3615 v3616 v3617 v3618 v3619 v3620 v3621) (q114l4_0 z0 z1 v3615 v3616 v3617 v3618 v3619 v3620 v3621) ?_ _ _ _ h
  rintro ⟨v3614, v3622⟩ z h
  simp only [S114l4_0] at h
  by_cases c3623 : (v3619.length : Int) ≤ v3614
  · rw [if_pos c3623] at h
    have c3623d := dt c3623
    cases h
    refine ⟨0, fun n hn => ?_⟩
    simp (maxSteps := 2000000) only [W, reduceIte, Nat.reduceEqDiff, Nat.reduceAdd, Nat.reduceSub, Nat.reduceLT, Nat.reduceLeDiff, Nat.reduceMul, h114l4_0, q114l4_0, a114l4b, rc_WaterConduit, c3623d, wd]
  · rw [if_neg c3623] at h
    have c3623d := df c3623
    obtain ⟨j3624, x3625, g3626, h⟩ := un2 h
    obtain ⟨g36261, g36262⟩ := geti_in g3626
    have g36263 := ac_Int g36262
    try simp only [wn] at g36261
    obtain ⟨j3627, x3628, g3629, h⟩ := un2 h
    obtain ⟨g36291, g36292⟩ := geti_in g3629
    have g36293 := ac_WaterConduit g36292
    try simp only [wn] at g36291
    obtain ⟨j3630, x3631, g3632, h⟩ := un2 h
    obtain ⟨g36321, g36322⟩ := geti_in g3632
    have g36323 := ac_Int g36322
    try simp only [wn] at g36321
    by_cases c3633 : x3628.fTo = x3631
    · rw [if_pos c3633] at h
      have c3633d := dt c3633
      obtain ⟨j3634, x3635, g3636, h⟩ := un2 h
      obtain ⟨g36361, g36362⟩ := geti_in g3636
      have g36363 := ac_Int g36362
      try simp only [wn] at g36361
      obtain ⟨j3637, x3638, g3639, h⟩ := un2 h
      obtain ⟨g36391, g36392⟩ := geti_in g3639
      have g36393 := ac_Int g36392
      try simp only [wn] at g36391
      obtain ⟨r3642, g3640, h⟩ := un1 h
      obtain ⟨N3641, kN3641⟩ := c22_0 x3628.fResist x3638 _ g3640
      obtain ⟨j3643, x3644, g3645, h⟩ := un2 h
      obtain ⟨g36451, g36452⟩ := geti_in g3645
      have g36453 := ac_Int g36452
      try simp only [wn] at g36451
      cases h
      refine ⟨N3641, fun n hn => ?_⟩
      have kN3641 := kN3641 n (by omega)
      try simp (maxSteps := 2000000) only [wn, rc_WaterConduit] at kN3641
      simp (maxSteps := 2000000) only [W, reduceIte, Nat.reduceEqDiff, Nat.reduceAdd, Nat.reduceSub, Nat.reduceLT, Nat.reduceLeDiff, Nat.reduceMul, h114l4_0, q114l4_0, a114l4b, rc_WaterConduit, c3623d, g36261, g36263, g36291, g36293, g36321, g36323, c3633d, g36361, g36363, g36391, g36393, kN3641, g36451, g36453, wd]
    · rw [if_neg c3633] at h
      have c3633d := df c3633
      obtain ⟨j3646, x3647, g3648, h⟩ := un2 h
      obtain ⟨g36481, g36482⟩ := geti_in g3648
      have g36483 := ac_Int g36482
      try simp only [wn] at g36481
      obtain ⟨j3649, x3650, g3651, h⟩ := un2 h
      obtain ⟨g36511, g36512⟩ := geti_in g3651
      have g36513 := ac_Int g36512
      try simp only [wn] at g36511
      obtain ⟨r3654, g3652, h⟩ := un1 h
      obtain ⟨N3653, kN3653⟩ := c22_0 x3628.fResist x3650 _ g3652
      obtain ⟨j3655, x3656, g3657, h⟩ := un2 h
      obtain ⟨g36571, g36572⟩ := geti_in g3657
      have g36573 := ac_Int g36572
      try simp only [wn] at g36571
      cases h
      refine ⟨N3653, fun n hn => ?_⟩
      have kN3653 := kN3653 n (by omega)
      try simp (maxSteps := 2000000) only [wn, rc_WaterConduit] at kN3653
      simp (maxSteps := 2000000) only [W, reduceIte, Nat.reduceEqDiff, Nat.reduceAdd, Nat.reduceSub, Nat.reduceLT, Nat.reduceLeDiff, Nat.reduceMul, h114l4_0, q114l4_0, a114l4b, rc_WaterConduit, c3623d, g36261, g36263, g36291, g36293, g36321, g36323, c3633d, g36481, g36483, g36511, g36513, kN3653, g36571, g36573, wd]
theorem c114_0 (z0 : Bool) (z1 : Bool) (v3436 : Int) (v3437 : List WaterNode) (v3438 : List WaterConduit) (r3671 : List Int) (r3672 : List Int) (h : F114_0 v3436 v3437 v3438 = some (r3671, r3672)) : Ev fun n => (ex tab n).call 114 [.agg [.slice 0 0 v3437.length v3437.length 4 false, .slice 1 0 v3438.length v3438.length 6 false], .int .i64 v3436] [.row z0 true (rowC v3437), .row z1 true (rowC v3438)] = some (.agg [.slice 2 0 r3671.length r3671.length 1 true, .slice 3 0 r3672.length r3672.length 1 true], [.row z0 true (rowC v3437), .row z1 true (rowC v3438), .row true true (rowC r3671), .row true true (rowC r3672)]) := by
  unfold F114_0 at h
  obtain ⟨r3441, r3442, r3443, g3439, h⟩ := un3 h
  obtain ⟨N3440, kN3440⟩ := c137_0 z0 z1 v3437 v3438 _ _ _ g3439
  obtain ⟨r3446, r3447, g3444, h⟩ := un2 h
  obtain ⟨N3445, kN3445⟩ := c97_0 z0 z1 v3437 v3438 _ _ g3444
  obtain ⟨r3466, g3464, h⟩ := un1 h
  have kN3465 := k114l0_0 z0 z1 v3436 r3446 v3437 v3438 ([] : List Int) ([] : List Int) r3442 r3443 (0, ([] : List Int)) _ g3464
  obtain ⟨N3465, kN3465⟩ := kN3465
  obtain ⟨n3467, g3468, h⟩ := un1 h
  try simp only [wn] at g3468
  obtain ⟨g3469, h⟩ := un_roomd h
  obtain ⟨n3470, g3471, h⟩ := un1 h
  try simp only [wn] at g3471
  obtain ⟨g3472, h⟩ := un_roomd h
  by_cases c3473 : 0 ≤ r3446
  · rw [if_pos c3473] at h
    have c3473d := dt c3473
    obtain ⟨j3474, x3475, g3476, h⟩ := un2 h
    obtain ⟨g34761, g34762⟩ := geti_in g3476
    have g34763 := ac_WaterConduit g34762
    try simp only [wn] at g34761
    obtain ⟨j3477, x3478, g3479, h⟩ := un2 h
    obtain ⟨g34791, g34792⟩ := geti_in g3479
    have g34793 := ac_Int g34792
    try simp only [wn] at g34791
    try simp only [wn] at g34793
    obtain ⟨j3480, x3481, g3482, h⟩ := un2 h
    obtain ⟨g34821, g34822⟩ := geti_in g3482
    have g34823 := ac_Int g34822
    try simp only [wn] at g34821
    obtain ⟨j3483, x3484, g3485, h⟩ := un2 h
    obtain ⟨g34851, g34852⟩ := geti_in g3485
    have g34853 := ac_Int g34852
    try simp only [wn] at g34851
    try simp only [wn] at g34853
    obtain ⟨r3592, g3590, h⟩ := un1 h
    have kN3591 := k114l2_0 z0 z1 v3437 v3438 ([] : List Int) ([] : List Int) r3442 r3443 ((r3466.set j3480 (aw .i64 (x3481 + v3436))).set j3483 (aw .i64 (x3484 - v3436))) (List.replicate n3470 (0 : Int)) (0, ((List.replicate n3467 (0 : Int)).set j3477 v3436)) _ g3590
    obtain ⟨N3591, kN3591⟩ := kN3591
    obtain ⟨r3613, g3611, h⟩ := un1 h
    have kN3612 := k114l3_0 z0 z1 v3437 v3438 ([] : List Int) ([] : List Int) r3442 r3443 r3592 (0, (List.replicate n3470 (0 : Int))) _ g3611
    obtain ⟨N3612, kN3612⟩ := kN3612
    obtain ⟨r3661, g3659, h⟩ := un1 h
    have kN3660 := k114l4_0 z0 z1 v3437 v3438 ([] : List Int) ([] : List Int) r3442 r3443 r3592 (0, r3613) _ g3659
    obtain ⟨N3660, kN3660⟩ := kN3660
    cases h
    refine ev_call (fn := a114) rfl ⟨N3440 + N3445 + N3465 + N3591 + N3612 + N3660, fun n hn => ?_⟩
    have kN3440 := kN3440 n (by omega)
    try simp (maxSteps := 2000000) only [wn] at kN3440
    have kN3445 := kN3445 n (by omega)
    try simp (maxSteps := 2000000) only [wn] at kN3445
    have kN3465 := kN3465 n (by omega)
    simp (maxSteps := 2000000) only [h114l0_0, q114l0_0, wn, rc_WaterNode] at kN3465
    have kN3591 := kN3591 n (by omega)
    simp (maxSteps := 2000000) only [h114l2_0, q114l2_0, wn, rc_WaterConduit, rc_WaterNode] at kN3591
    have kN3612 := kN3612 n (by omega)
    simp (maxSteps := 2000000) only [h114l3_0, q114l3_0, wn, rc_WaterConduit, rc_WaterNode] at kN3612
    have kN3660 := kN3660 n (by omega)
    simp (maxSteps := 2000000) only [h114l4_0, q114l4_0, wn, rc_WaterConduit, rc_WaterNode] at kN3660
    simp (maxSteps := 2000000) only [W, reduceIte, Nat.reduceEqDiff, Nat.reduceAdd, Nat.reduceSub, Nat.reduceLT, Nat.reduceLeDiff, Nat.reduceMul, a114, a114l0, a114l2, a114l3, a114l4, rc_WaterConduit, rc_WaterNode, kN3440, kN3445, kN3465, g3468, g3469, g3471, g3472, c3473d, g34761, g34763, g34791, g34793, g34821, g34823, g34851, g34853, kN3591, kN3612, kN3660, @x_loopAt, wd]
  · rw [if_neg c3473] at h
    have c3473d := df c3473
    obtain ⟨r3664, g3662, h⟩ := un1 h
    have kN3663 := k114l2_0 z0 z1 v3437 v3438 ([] : List Int) ([] : List Int) r3442 r3443 r3466 (List.replicate n3470 (0 : Int)) (0, (List.replicate n3467 (0 : Int))) _ g3662
    obtain ⟨N3663, kN3663⟩ := kN3663
    obtain ⟨r3667, g3665, h⟩ := un1 h
    have kN3666 := k114l3_0 z0 z1 v3437 v3438 ([] : List Int) ([] : List Int) r3442 r3443 r3664 (0, (List.replicate n3470 (0 : Int))) _ g3665
    obtain ⟨N3666, kN3666⟩ := kN3666
    obtain ⟨r3670, g3668, h⟩ := un1 h
    have kN3669 := k114l4_0 z0 z1 v3437 v3438 ([] : List Int) ([] : List Int) r3442 r3443 r3664 (0, r3667) _ g3668
    obtain ⟨N3669, kN3669⟩ := kN3669
    cases h
    refine ev_call (fn := a114) rfl ⟨N3440 + N3445 + N3465 + N3663 + N3666 + N3669, fun n hn => ?_⟩
    have kN3440 := kN3440 n (by omega)
    try simp (maxSteps := 2000000) only [wn] at kN3440
    have kN3445 := kN3445 n (by omega)
    try simp (maxSteps := 2000000) only [wn] at kN3445
    have kN3465 := kN3465 n (by omega)
    simp (maxSteps := 2000000) only [h114l0_0, q114l0_0, wn, rc_WaterNode] at kN3465
    have kN3663 := kN3663 n (by omega)
    simp (maxSteps := 2000000) only [h114l2_0, q114l2_0, wn, rc_WaterConduit, rc_WaterNode] at kN3663
    have kN3666 := kN3666 n (by omega)
    simp (maxSteps := 2000000) only [h114l3_0, q114l3_0, wn, rc_WaterConduit, rc_WaterNode] at kN3666
    have kN3669 := kN3669 n (by omega)
    simp (maxSteps := 2000000) only [h114l4_0, q114l4_0, wn, rc_WaterConduit, rc_WaterNode] at kN3669
    simp (maxSteps := 2000000) only [W, reduceIte, Nat.reduceEqDiff, Nat.reduceAdd, Nat.reduceSub, Nat.reduceLT, Nat.reduceLeDiff, Nat.reduceMul, a114, a114l0, a114l2, a114l3, a114l4, rc_WaterConduit, rc_WaterNode, kN3440, kN3445, kN3465, g3468, g3469, g3471, g3472, c3473d, kN3663, kN3666, kN3669, @x_loopAt, wd]
theorem c112_0 (z0 : Bool) (z1 : Bool) (v3426 : Int) (v3427 : List WaterNode) (v3428 : List WaterConduit) (r3686 : Int) (h : F112_0 v3426 v3427 v3428 = some r3686) : Ev fun n => (ex tab n).call 112 [.agg [.slice 0 0 v3427.length v3427.length 4 false, .slice 1 0 v3428.length v3428.length 6 false], .int .i64 v3426] [.row z0 true (rowC v3427), .row z1 true (rowC v3428)] = some (.int .i64 r3686, [.row z0 true (rowC v3427), .row z1 true (rowC v3428)]) := by
  unfold F112_0 at h
  obtain ⟨r3431, r3432, g3429, h⟩ := un2 h
  obtain ⟨N3430, kN3430⟩ := c97_0 z0 z1 v3427 v3428 _ _ g3429
  obtain ⟨j3433, x3434, g3435, h⟩ := un2 h
  obtain ⟨g34351, g34352⟩ := geti_in g3435
  have g34353 := ac_WaterConduit g34352
  try simp only [wn] at g34351
  obtain ⟨r3675, r3676, g3673, h⟩ := un2 h
  obtain ⟨N3674, kN3674⟩ := c114_0 false false v3426 v3427 v3428 _ _ g3673
  obtain ⟨r3679, g3677, h⟩ := un1 h
  obtain ⟨N3678, kN3678⟩ := c22_0 x3434.fResist v3426 _ g3677
  obtain ⟨j3680, x3681, g3682, h⟩ := un2 h
  obtain ⟨g36821, g36822⟩ := geti_in g3682
  have g36823 := ac_Int g36822
  try simp only [wn] at g36821
  obtain ⟨j3683, x3684, g3685, h⟩ := un2 h
  obtain ⟨g36851, g36852⟩ := geti_in g3685
  have g36853 := ac_Int g36852
  try simp only [wn] at g36851
  cases h
  refine ev_call (fn := a112) rfl ⟨N3430 + N3674 + N3678, fun n hn => ?_⟩
  have kN3430 := kN3430 n (by omega)
  try simp (maxSteps := 2000000) only [wn] at kN3430
  have kN3674 := kN3674 n (by omega)
  try simp (maxSteps := 2000000) only [wn, rc_WaterConduit] at kN3674
  have kN3678 := kN3678 n (by omega)
  try simp (maxSteps := 2000000) only [wn, rc_WaterConduit] at kN3678
  simp (maxSteps := 2000000) only [W, reduceIte, Nat.reduceEqDiff, Nat.reduceAdd, Nat.reduceSub, Nat.reduceLT, Nat.reduceLeDiff, Nat.reduceMul, a112, rc_WaterConduit, kN3430, g34351, g34353, kN3674, kN3678, g36821, g36823, g36851, g36853, wd]
end Go.AI
end
section
/-
  Functions, walked through: guidevaneref02.Circulation, guidevaneref02.CheckCirculation, guidevaneref02.Steady, guidevanebase.Ranges, guidevaneref02.SameSteady.
-/
set_option linter.unusedVariables false
set_option linter.unusedSimpArgs false
set_option maxRecDepth 100000
set_option maxHeartbeats 4000000
namespace Go.AI
noncomputable def h53l0_0 (z0 : Bool) (z1 : Bool) (v3710 : List WaterNode) (v3711 : List WaterConduit) : (Int × Int) → Env × Heap
  | (v3708, v3709) => ([(1, .ptr 2 0), (2, .ptr 3 0), (6, .int .i64 v3708), (7, .int .i64 v3709)], [.row z0 true (rowC v3710), .row z1 true (rowC v3711), .row true false [.slice 0 0 v3710.length v3710.length 4 false, .slice 1 0 v3711.length v3711.length 6 false], .row true true [.int .i64 0, .int .i64 0]])
noncomputable def q53l0_0 (z0 : Bool) (z1 : Bool) (v3710 : List WaterNode) (v3711 : List WaterConduit) : (Int) → AExit × Env × Heap
  | r3722 => (.exit 0, [(1, .ptr 2 0), (2, .ptr 3 0), (3, .undef), (6, .int .i64 r3722)], [.row z0 true (rowC v3710), .row z1 true (rowC v3711), .row true false [.slice 0 0 v3710.length v3710.length 4 false, .slice 1 0 v3711.length v3711.length 6 false], .row true true [.int .i64 0, .int .i64 0]])
theorem k53l0_0 (z0 : Bool) (z1 : Bool) (v3710 : List WaterNode) (v3711 : List WaterConduit) (s : Int × Int) (o : Int) (h : L53l0_0 v3710 v3711 s = some o) : Ev fun n => loopAt [1, 2, 6, 7] [1, 2, 3, 6] a53l0b (ex tab n) 2 (h53l0_0 z0 z1 v3710 v3711 s) = some (q53l0_0 z0 z1 v3710 v3711 o) := by
  refine iter_sound (S53l0_0 v3710 v3711) [1, 2, 6, 7] [1, 2, 3, 6] a53l0b 2 (h53l0_0 z0 z1 v3710 v3711) (q53l0_0 z0 z1 v3710 v3711) ?_ _ _ _ h
  rintro ⟨v3708, v3709⟩ z h
  simp only [S53l0_0] at h
  by_cases c3714 : v3709 ≤ v3708
  · rw [if_pos c3714] at h
    have c3714d := dt c3714
    cases h
    refine ⟨0, fun n hn => ?_⟩
    simp (maxSteps := 2000000) only [W, reduceIte, Nat.reduceEqDiff, Nat.reduceAdd, Nat.reduceSub, Nat.reduceLT, Nat.reduceLeDiff, Nat.reduceMul, h53l0_0, q53l0_0, a53l0b, c3714d]
  · rw [if_neg c3714] at h
    have c3714d := df c3714
    obtain ⟨r3717, g3715, h⟩ := un1 h
    obtain ⟨N3716, kN3716⟩ := c113_0 (aw .i64 (v3708 + v3709)) 2 _ g3715
    obtain ⟨r3720, g3718, h⟩ := un1 h
    obtain ⟨N3719, kN3719⟩ := c112_0 z0 z1 r3717 v3710 v3711 _ g3718
    by_cases c3721 : 0 ≤ r3720
    · rw [if_pos c3721] at h
      have c3721d := dt c3721
      cases h
      refine ⟨N3716 + N3719, fun n hn => ?_⟩
      have kN3716 := kN3716 n (by omega)
      try simp (maxSteps := 2000000) only [wn] at kN3716
      have kN3719 := kN3719 n (by omega)
      try simp (maxSteps := 2000000) only [wn] at kN3719
      simp (maxSteps := 2000000) only [W, reduceIte, Nat.reduceEqDiff, Nat.reduceAdd, Nat.reduceSub, Nat.reduceLT, Nat.reduceLeDiff, Nat.reduceMul, h53l0_0, q53l0_0, a53l0b, c3714d, kN3716, kN3719, c3721d]
    · rw [if_neg c3721] at h
      have c3721d := df c3721
      cases h
      refine ⟨N3716 + N3719, fun n hn => ?_⟩
      have kN3716 := kN3716 n (by omega)
      try simp (maxSteps := 2000000) only [wn] at kN3716
      have kN3719 := kN3719 n (by omega)
      try simp (maxSteps := 2000000) only [wn] at kN3719
      simp (maxSteps := 2000000) only [W, reduceIte, Nat.reduceEqDiff, Nat.reduceAdd, Nat.reduceSub, Nat.reduceLT, Nat.reduceLeDiff, Nat.reduceMul, h53l0_0, q53l0_0, a53l0b, c3714d, kN3716, kN3719, c3721d]
theorem c53_0 (z0 : Bool) (z1 : Bool) (v3419 : List WaterNode) (v3420 : List WaterConduit) (r3730 : Int) (r3731 : Int) (r3732 : Int) (h : F53_0 v3419 v3420 = some (r3730, r3731, r3732)) : Ev fun n => (ex tab n).call 53 [.agg [.slice 0 0 v3419.length v3419.length 4 false, .slice 1 0 v3420.length v3420.length 6 false]] [.row z0 true (rowC v3419), .row z1 true (rowC v3420)] = some (.tup [.agg [.int .i64 r3730, .int .i64 r3731], .int .i64 r3732], [.row z0 true (rowC v3419), .row z1 true (rowC v3420)]) := by
  unfold F53_0 at h
  obtain ⟨r3423, r3424, g3421, h⟩ := un2 h
  obtain ⟨N3422, kN3422⟩ := c97_0 z0 z1 v3419 v3420 _ _ g3421
  by_cases c3425 : 0 ≤ r3423
  · rw [if_pos c3425] at h
    have c3425d := dt c3425
    obtain ⟨r3689, g3687, h⟩ := un1 h
    obtain ⟨N3688, kN3688⟩ := c112_0 false false (-200000) v3419 v3420 _ g3687
    obtain ⟨r3692, g3690, h⟩ := un1 h
    obtain ⟨N3691, kN3691⟩ := c112_0 z0 z1 200000 v3419 v3420 _ g3690
    by_cases c3693 : r3689 = r3692
    · rw [if_pos c3693] at h
      have c3693d := dt c3693
      cases h
      refine ev_call (fn := a53) rfl ⟨N3422 + N3688 + N3691, fun n hn => ?_⟩
      have kN3422 := kN3422 n (by omega)
      try simp (maxSteps := 2000000) only [wn] at kN3422
      have kN3688 := kN3688 n (by omega)
      try simp (maxSteps := 2000000) only [wn] at kN3688
      have kN3691 := kN3691 n (by omega)
      try simp (maxSteps := 2000000) only [wn] at kN3691
      simp (maxSteps := 2000000) only [W, reduceIte, Nat.reduceEqDiff, Nat.reduceAdd, Nat.reduceSub, Nat.reduceLT, Nat.reduceLeDiff, Nat.reduceMul, a53, a53l0, kN3422, c3425d, kN3688, kN3691, c3693d, @x_loopAt, wd]
    · rw [if_neg c3693] at h
      have c3693d := df c3693
      obtain ⟨r3725, g3723, h⟩ := un1 h
      have kN3724 := k53l0_0 z0 z1 v3419 v3420 ((-200000), 200000) _ g3723
      obtain ⟨N3724, kN3724⟩ := kN3724
      obtain ⟨r3728, g3726, h⟩ := un1 h
      obtain ⟨N3727, kN3727⟩ := c112_0 z0 z1 r3725 v3419 v3420 _ g3726
      by_cases c3729 : r3728 = 0
      · rw [if_pos c3729] at h
        have c3729d := dt c3729
        cases h
        refine ev_call (fn := a53) rfl ⟨N3422 + N3688 + N3691 + N3724 + N3727, fun n hn => ?_⟩
        have kN3422 := kN3422 n (by omega)
        try simp (maxSteps := 2000000) only [wn] at kN3422
        have kN3688 := kN3688 n (by omega)
        try simp (maxSteps := 2000000) only [wn] at kN3688
        have kN3691 := kN3691 n (by omega)
        try simp (maxSteps := 2000000) only [wn] at kN3691
        have kN3724 := kN3724 n (by omega)
        simp (maxSteps := 2000000) only [h53l0_0, q53l0_0, wn] at kN3724
        have kN3727 := kN3727 n (by omega)
        try simp (maxSteps := 2000000) only [wn] at kN3727
        simp (maxSteps := 2000000) only [W, reduceIte, Nat.reduceEqDiff, Nat.reduceAdd, Nat.reduceSub, Nat.reduceLT, Nat.reduceLeDiff, Nat.reduceMul, a53, a53l0, kN3422, c3425d, kN3688, kN3691, c3693d, kN3724, kN3727, c3729d, @x_loopAt, wd]
      · rw [if_neg c3729] at h
        have c3729d := df c3729
        cases h
        refine ev_call (fn := a53) rfl ⟨N3422 + N3688 + N3691 + N3724 + N3727, fun n hn => ?_⟩
        have kN3422 := kN3422 n (by omega)
        try simp (maxSteps := 2000000) only [wn] at kN3422
        have kN3688 := kN3688 n (by omega)
        try simp (maxSteps := 2000000) only [wn] at kN3688
        have kN3691 := kN3691 n (by omega)
        try simp (maxSteps := 2000000) only [wn] at kN3691
        have kN3724 := kN3724 n (by omega)
        simp (maxSteps := 2000000) only [h53l0_0, q53l0_0, wn] at kN3724
        have kN3727 := kN3727 n (by omega)
        try simp (maxSteps := 2000000) only [wn] at kN3727
        simp (maxSteps := 2000000) only [W, reduceIte, Nat.reduceEqDiff, Nat.reduceAdd, Nat.reduceSub, Nat.reduceLT, Nat.reduceLeDiff, Nat.reduceMul, a53, a53l0, kN3422, c3425d, kN3688, kN3691, c3693d, kN3724, kN3727, c3729d, @x_loopAt, wd]
  · rw [if_neg c3425] at h
    have c3425d := df c3425
    cases h
    refine ev_call (fn := a53) rfl ⟨N3422, fun n hn => ?_⟩
    have kN3422 := kN3422 n (by omega)
    try simp (maxSteps := 2000000) only [wn] at kN3422
    simp (maxSteps := 2000000) only [W, reduceIte, Nat.reduceEqDiff, Nat.reduceAdd, Nat.reduceSub, Nat.reduceLT, Nat.reduceLeDiff, Nat.reduceMul, a53, a53l0, kN3422, c3425d, @x_loopAt, wd]
noncomputable def h54l0_0 (z0 : Bool) (z1 : Bool) (v3769 : List WaterNode) (v3770 : List WaterConduit) (v3771 : List Range) (v3772 : List Range) (v3773 : List Int) (v3774 : List Int) (v3775 : List Int) (v3776 : List Int) (v3778 : List Range) : (Int × (List Range)) → Env × Heap
  | (v3768, v3777) => ([(4, .ptr 2 0), (5, .ptr 5 0), (6, .ptr 8 0), (7, .ptr 11 0), (8, .int .i64 v3768)], [.row z0 true (rowC v3769), .row z1 true (rowC v3770), .row true false [.slice 3 0 v3771.length v3771.length 2 false, .slice 4 0 v3772.length v3772.length 2 false], .row true true (rowC v3771), .row true true (rowC v3772), .row true false [.slice 6 0 v3773.length v3773.length 1 true, .slice 7 0 v3774.length v3774.length 1 true], .row true true (rowC v3773), .row true true (rowC v3774), .row true false [.slice 9 0 v3775.length v3775.length 1 true, .slice 10 0 v3776.length v3776.length 1 true], .row true true (rowC v3775), .row true true (rowC v3776), .row true false [.slice 12 0 v3777.length v3777.length 2 false, .slice 13 0 v3778.length v3778.length 2 false], .row true true (rowC v3777), .row true true (rowC v3778)])
noncomputable def q54l0_0 (z0 : Bool) (z1 : Bool) (v3769 : List WaterNode) (v3770 : List WaterConduit) (v3771 : List Range) (v3772 : List Range) (v3773 : List Int) (v3774 : List Int) (v3775 : List Int) (v3776 : List Int) (v3778 : List Range) : ((List Range)) → AExit × Env × Heap
  | r3787 => (.exit 0, [(4, .ptr 2 0), (5, .ptr 5 0), (6, .ptr 8 0), (7, .ptr 11 0)], [.row z0 true (rowC v3769), .row z1 true (rowC v3770), .row true false [.slice 3 0 v3771.length v3771.length 2 false, .slice 4 0 v3772.length v3772.length 2 false], .row true true (rowC v3771), .row true true (rowC v3772), .row true false [.slice 6 0 v3773.length v3773.length 1 true, .slice 7 0 v3774.length v3774.length 1 true], .row true true (rowC v3773), .row true true (rowC v3774), .row true false [.slice 9 0 v3775.length v3775.length 1 true, .slice 10 0 v3776.length v3776.length 1 true], .row true true (rowC v3775), .row true true (rowC v3776), .row true false [.slice 12 0 r3787.length r3787.length 2 false, .slice 13 0 v3778.length v3778.length 2 false], .row true true (rowC r3787), .row true true (rowC v3778)])
theorem k54l0_0 (z0 : Bool) (z1 : Bool) (v3769 : List WaterNode) (v3770 : List WaterConduit) (v3771 : List Range) (v3772 : List Range) (v3773 : List Int) (v3774 : List Int) (v3775 : List Int) (v3776 : List Int) (v3778 : List Range) (s : Int × (List Range)) (o : (List Range)) (h : L54l0_0 v3769 v3770 v3771 v3772 v3773 v3774 v3775 v3776 v3778 s = some o) : Ev fun n => loopAt [4, 5, 6, 7, 8] [4, 5, 6, 7] a54l0b (ex tab n) 2 (h54l0_0 z0 z1 v3769 v3770 v3771 v3772 v3773 v3774 v3775 v3776 v3778 s) = some (q54l0_0 z0 z1 v3769 v3770 v3771 v3772 v3773 v3774 v3775 v3776 v3778 o) := by
  refine iter_sound (S54l0_0 v3769 v3770 v3771 v3772 v3773 v3774 v3775 v3776 v3778) [4, 5, 6, 7, 8] [4, 5, 6, 7] a54l0b 2 (h54l0_0 z0 z1 v3769 v3770 v3771 v3772 v3773 v3774 v3775 v3776 v3778) (q54l0_0 z0 z1 v3769 v3770 v3771 v3772 v3773 v3774 v3775 v3776 v3778) ?_ _ _ _ h
  rintro ⟨v3768, v3777⟩ z h
  simp only [S54l0_0] at h
  by_cases c3779 : (v3773.length : Int) ≤ v3768
  · rw [if_pos c3779] at h
    have c3779d := dt c3779
    cases h
    refine ⟨0, fun n hn => ?_⟩
    simp (maxSteps := 2000000) only [W, reduceIte, Nat.reduceEqDiff, Nat.reduceAdd, Nat.reduceSub, Nat.reduceLT, Nat.reduceLeDiff, Nat.reduceMul, h54l0_0, q54l0_0, a54l0b, rc_Range, c3779d, wd]
  · rw [if_neg c3779] at h
    have c3779d := df c3779
    obtain ⟨j3780, x3781, g3782, h⟩ := un2 h
    obtain ⟨g37821, g37822⟩ := geti_in g3782
    have g37823 := ac_Int g37822
    try simp only [wn] at g37821
    obtain ⟨j3783, x3784, g3785, h⟩ := un2 h
    obtain ⟨g37851, g37852⟩ := geti_in g3785
    have g37853 := ac_Int g37852
    try simp only [wn] at g37851
    obtain ⟨g3786, h⟩ := un_roomd h
    cases h
    refine ⟨0, fun n hn => ?_⟩
    simp (maxSteps := 2000000) only [W, reduceIte, Nat.reduceEqDiff, Nat.reduceAdd, Nat.reduceSub, Nat.reduceLT, Nat.reduceLeDiff, Nat.reduceMul, h54l0_0, q54l0_0, a54l0b, rc_Range, c3779d, g37821, g37823, g37851, g37853, g3786, wd]
noncomputable def h54l1_0 (z0 : Bool) (z1 : Bool) (v3792 : List WaterNode) (v3793 : List WaterConduit) (v3794 : List Range) (v3795 : List Range) (v3796 : List Int) (v3797 : List Int) (v3798 : List Int) (v3799 : List Int) (v3800 : List Range) : (Int × (List Range)) → Env × Heap
  | (v3791, v3801) => ([(4, .ptr 2 0), (5, .ptr 5 0), (6, .ptr 8 0), (7, .ptr 11 0), (9, .int .i64 v3791)], [.row z0 true (rowC v3792), .row z1 true (rowC v3793), .row true false [.slice 3 0 v3794.length v3794.length 2 false, .slice 4 0 v3795.length v3795.length 2 false], .row true true (rowC v3794), .row true true (rowC v3795), .row true false [.slice 6 0 v3796.length v3796.length 1 true, .slice 7 0 v3797.length v3797.length 1 true], .row true true (rowC v3796), .row true true (rowC v3797), .row true false [.slice 9 0 v3798.length v3798.length 1 true, .slice 10 0 v3799.length v3799.length 1 true], .row true true (rowC v3798), .row true true (rowC v3799), .row true false [.slice 12 0 v3800.length v3800.length 2 false, .slice 13 0 v3801.length v3801.length 2 false], .row true true (rowC v3800), .row true true (rowC v3801)])
noncomputable def q54l1_0 (z0 : Bool) (z1 : Bool) (v3792 : List WaterNode) (v3793 : List WaterConduit) (v3794 : List Range) (v3795 : List Range) (v3796 : List Int) (v3797 : List Int) (v3798 : List Int) (v3799 : List Int) (v3800 : List Range) : ((List Range)) → AExit × Env × Heap
  | r3810 => (.exit 2, [(4, .ptr 2 0), (7, .ptr 5 0)], [.row z0 true (rowC v3792), .row z1 true (rowC v3793), .row true false [.slice 3 0 v3794.length v3794.length 2 false, .slice 4 0 v3795.length v3795.length 2 false], .row true true (rowC v3794), .row true true (rowC v3795), .row true false [.slice 6 0 v3800.length v3800.length 2 false, .slice 7 0 r3810.length r3810.length 2 false], .row true true (rowC v3800), .row true true (rowC r3810)])
theorem k54l1_0 (z0 : Bool) (z1 : Bool) (v3792 : List WaterNode) (v3793 : List WaterConduit) (v3794 : List Range) (v3795 : List Range) (v3796 : List Int) (v3797 : List Int) (v3798 : List Int) (v3799 : List Int) (v3800 : List Range) (s : Int × (List Range)) (o : (List Range)) (h : L54l1_0 v3792 v3793 v3794 v3795 v3796 v3797 v3798 v3799 v3800 s = some o) : Ev fun n => loopAt [4, 5, 6, 7, 9] [4, 7] a54l1b (ex tab n) 2 (h54l1_0 z0 z1 v3792 v3793 v3794 v3795 v3796 v3797 v3798 v3799 v3800 s) = some (q54l1_0 z0 z1 v3792 v3793 v3794 v3795 v3796 v3797 v3798 v3799 v3800 o) := by
  refine iter_sound (S54l1_0 v3792 v3793 v3794 v3795 v3796 v3797 v3798 v3799 v3800) [4, 5, 6, 7, 9] [4, 7] a54l1b 2 (h54l1_0 z0 z1 v3792 v3793 v3794 v3795 v3796 v3797 v3798 v3799 v3800) (q54l1_0 z0 z1 v3792 v3793 v3794 v3795 v3796 v3797 v3798 v3799 v3800) ?_ _ _ _ h
  rintro ⟨v3791, v3801⟩ z h
  simp only [S54l1_0] at h
  by_cases c3802 : (v3797.length : Int) ≤ v3791
  · rw [if_pos c3802] at h
    have c3802d := dt c3802
    cases h
    refine ⟨0, fun n hn => ?_⟩
    simp (maxSteps := 2000000) only [W, reduceIte, Nat.reduceEqDiff, Nat.reduceAdd, Nat.reduceSub, Nat.reduceLT, Nat.reduceLeDiff, Nat.reduceMul, h54l1_0, q54l1_0, a54l1b, rc_Range, c3802d, wd]
  · rw [if_neg c3802] at h
    have c3802d := df c3802
    obtain ⟨j3803, x3804, g3805, h⟩ := un2 h
    obtain ⟨g38051, g38052⟩ := geti_in g3805
    have g38053 := ac_Int g38052
    try simp only [wn] at g38051
    obtain ⟨j3806, x3807, g3808, h⟩ := un2 h
    obtain ⟨g38081, g38082⟩ := geti_in g3808
    have g38083 := ac_Int g38082
    try simp only [wn] at g38081
    obtain ⟨g3809, h⟩ := un_roomd h
    cases h
    refine ⟨0, fun n hn => ?_⟩
    simp (maxSteps := 2000000) only [W, reduceIte, Nat.reduceEqDiff, Nat.reduceAdd, Nat.reduceSub, Nat.reduceLT, Nat.reduceLeDiff, Nat.reduceMul, h54l1_0, q54l1_0, a54l1b, rc_Range, c3802d, g38051, g38053, g38081, g38083, g3809, wd]
theorem c54_0 (z0 : Bool) (z1 : Bool) (v3756 : Int) (v3757 : Int) (v3758 : List WaterNode) (v3759 : List WaterConduit) (r3814 : List Range) (r3815 : List Range) (h : F54_0 v3756 v3757 v3758 v3759 = some (r3814, r3815)) : Ev fun n => (ex tab n).call 54 [.agg [.slice 0 0 v3758.length v3758.length 4 false, .slice 1 0 v3759.length v3759.length 6 false], .agg [.int .i64 v3756, .int .i64 v3757]] [.row z0 true (rowC v3758), .row z1 true (rowC v3759)] = some (.agg [.slice 2 0 r3814.length r3814.length 2 false, .slice 3 0 r3815.length r3815.length 2 false], [.row z0 true (rowC v3758), .row z1 true (rowC v3759), .row true true (rowC r3814), .row true true (rowC r3815)]) := by
  unfold F54_0 at h
  obtain ⟨r3762, r3763, g3760, h⟩ := un2 h
  obtain ⟨N3761, kN3761⟩ := c114_0 false false v3756 v3758 v3759 _ _ g3760
  obtain ⟨r3766, r3767, g3764, h⟩ := un2 h
  obtain ⟨N3765, kN3765⟩ := c114_0 false false v3757 v3758 v3759 _ _ g3764
  obtain ⟨r3790, g3788, h⟩ := un1 h
  have kN3789 := k54l0_0 z0 z1 v3758 v3759 ([] : List Range) ([] : List Range) r3762 r3763 r3766 r3767 ([] : List Range) (0, ([] : List Range)) _ g3788
  obtain ⟨N3789, kN3789⟩ := kN3789
  obtain ⟨r3813, g3811, h⟩ := un1 h
  have kN3812 := k54l1_0 z0 z1 v3758 v3759 ([] : List Range) ([] : List Range) r3762 r3763 r3766 r3767 r3790 (0, ([] : List Range)) _ g3811
  obtain ⟨N3812, kN3812⟩ := kN3812
  cases h
  refine ev_call (fn := a54) rfl ⟨N3761 + N3765 + N3789 + N3812, fun n hn => ?_⟩
  have kN3761 := kN3761 n (by omega)
  try simp (maxSteps := 2000000) only [wn, rc_Range] at kN3761
  have kN3765 := kN3765 n (by omega)
  try simp (maxSteps := 2000000) only [wn, rc_Range] at kN3765
  have kN3789 := kN3789 n (by omega)
  simp (maxSteps := 2000000) only [h54l0_0, q54l0_0, wn, rc_Range] at kN3789
  have kN3812 := kN3812 n (by omega)
  simp (maxSteps := 2000000) only [h54l1_0, q54l1_0, wn, rc_Range] at kN3812
  simp (maxSteps := 2000000) only [W, reduceIte, Nat.reduceEqDiff, Nat.reduceAdd, Nat.reduceSub, Nat.reduceLT, Nat.reduceLeDiff, Nat.reduceMul, a54, a54l0, a54l1, rc_Range, kN3761, kN3765, kN3789, kN3812, @x_loopAt, wd]
end Go.AI
end
