/-
  Functions, walked through: .
-/
import Derived.Test.YtfglifekecijjaaBAiY
import Derived.Test.YtfglifekecijjaaBAiTab
import Derived.Test.YtfglifekecijjaaBAiAwake
import Derived.Test.YtfglifekecijjaaBWnF
import Derived.Test.YtfglifekecijjaaBWn0
set_option linter.unusedVariables false
set_option linter.unusedSimpArgs false
set_option maxRecDepth 100000
set_option maxHeartbeats 4000000
namespace Go.AI
noncomputable def h16l1_0 (z0 : Bool) (z1 : Bool) (v168 : Int) (v170 : List WaterNode) (v171 : List WaterConduit) : (Int × (List (ByteArray × Bool))) → Env × Heap
  | (v169, v172) => ([(13, .func 76 [] [.ptr 2 0]), (14, .map 3), (96, .slice 1 0 v171.length v171.length 6 false), (97, .int .i64 v168), (98, .int .i64 v169)], [.row z0 true (rowC v170), .row z1 true (rowC v171), .row true false [.slice 0 0 v170.length v170.length 4 false, .slice 1 0 v171.length v171.length 6 false], .map true (mapC v172)])
noncomputable def q16l1_0 (z0 : Bool) (z1 : Bool) (v168 : Int) (v170 : List WaterNode) (v171 : List WaterConduit) : ((Unit) ⊕ (Int × Int)) → AExit × Env × Heap
  | .inl (_) => (.exit 2, [(2, .undef), (3, .undef)], [.row z0 true (rowC v170), .row z1 true (rowC v171)])
  | .inr (r254, r255) => (.ret, [(2, .int .i64 r254), (3, .int .i64 r255)], [.row z0 true (rowC v170), .row z1 true (rowC v171)])
theorem k16l1_0 (z0 : Bool) (z1 : Bool) (v168 : Int) (v170 : List WaterNode) (v171 : List WaterConduit) (s : Int × (List (ByteArray × Bool))) (o : (Unit) ⊕ (Int × Int)) (h : L16l1_0 v168 v170 v171 s = some o) : Ev fun n => loopAt [13, 14, 96, 97, 98] [2, 3] a16l1b (ex tab n) 2 (h16l1_0 z0 z1 v168 v170 v171 s) = some (q16l1_0 z0 z1 v168 v170 v171 o) := by
  refine iter_sound (S16l1_0 v168 v170 v171) [13, 14, 96, 97, 98] [2, 3] a16l1b 2 (h16l1_0 z0 z1 v168 v170 v171) (q16l1_0 z0 z1 v168 v170 v171) ?_ _ _ _ h
  rintro ⟨v169, v172⟩ z h
  simp only [S16l1_0] at h
  by_cases c253 : v168 ≤ v169
  · rw [if_pos c253] at h
    have c253d := dt c253
    cases h
    refine ⟨0, fun n hn => ?_⟩
    simp only [W, reduceIte, Nat.reduceEqDiff, Nat.reduceAdd, Nat.reduceSub, Nat.reduceLT, Nat.reduceLeDiff, Nat.reduceMul, h16l1_0, q16l1_0, a16l1b, rc_WaterConduit, c253d, wd]
  · rw [if_neg c253] at h
    have c253d := df c253
    obtain ⟨j173, x174, g175, h⟩ := un2 h
    obtain ⟨g1751, g1752⟩ := geti_in g175
    have g1753 := ac_WaterConduit g1752
    try simp only [wn] at g1751
    obtain ⟨r178, g176, h⟩ := un1 h
    obtain ⟨N177, kN177⟩ := c75_0 x174.fName _ g176
    obtain ⟨r181, g179, h⟩ := un1 h
    obtain ⟨N180, kN180⟩ := c72_0 r178 4 _ g179
    obtain ⟨r184, g182, h⟩ := un1 h
    obtain ⟨N183, kN183⟩ := c72_0 (!(getM x174.fName false v172)) 5 _ g182
    obtain ⟨r194, g192, h⟩ := un1 h
    obtain ⟨N193, kN193⟩ := c76_0 false false false x174.fFrom v170 v171 _ g192
    by_cases c252 : r194 = true
    · rw [if_pos c252] at h
      have c252d := c252
      obtain ⟨r197, g195, h⟩ := un1 h
      obtain ⟨N196, kN196⟩ := c76_0 false false false x174.fTo v170 v171 _ g195
      obtain ⟨r200, g198, h⟩ := un1 h
      obtain ⟨N199, kN199⟩ := c72_0 r197 6 _ g198
      obtain ⟨r203, g201, h⟩ := un1 h
      obtain ⟨N202, kN202⟩ := c72_0 (!(decide (x174.fFrom = x174.fTo))) 13 _ g201
      obtain ⟨r206, g204, h⟩ := un1 h
      obtain ⟨N205, kN205⟩ := c74_0 x174.fResist 0 1000 _ g204
      obtain ⟨r209, g207, h⟩ := un1 h
      obtain ⟨N208, kN208⟩ := c72_0 r206 2 _ g207
      by_cases c224 : x174.fValve = true
      · rw [if_pos c224] at h
        have c224d := c224
        obtain ⟨r212, g210, h⟩ := un1 h
        obtain ⟨N211, kN211⟩ := c72_0 true 3 _ g210
        obtain ⟨r215, g213, h⟩ := un1 h
        obtain ⟨N214, kN214⟩ := c71_0 true ([r181, r184, r200, r203, r209, r212] : List Int) _ g213
        by_cases c216 : r215 = 0
        · rw [if_pos c216] at h
          have c216d := dt c216
          cases h
          refine ⟨N177 + N180 + N183 + N193 + N196 + N199 + N202 + N205 + N208 + N211 + N214, fun n hn => ?_⟩
          have kN177 := kN177 n (by omega)
          try simp only [wn, rc_WaterConduit] at kN177
          have kN180 := kN180 n (by omega)
          try simp only [wn, rc_WaterConduit] at kN180
          have kN183 := kN183 n (by omega)
          try simp only [wn, rc_WaterConduit] at kN183
          have kN193 := kN193 n (by omega)
          try simp only [wn, rc_WaterConduit] at kN193
          have kN196 := kN196 n (by omega)
          try simp only [wn, rc_WaterConduit] at kN196
          have kN199 := kN199 n (by omega)
          try simp only [wn, rc_WaterConduit] at kN199
          have kN202 := kN202 n (by omega)
          try simp only [wn, rc_WaterConduit] at kN202
          have kN205 := kN205 n (by omega)
          try simp only [wn, rc_WaterConduit] at kN205
          have kN208 := kN208 n (by omega)
          try simp only [wn, rc_WaterConduit] at kN208
          have kN211 := kN211 n (by omega)
          try simp only [wn, rc_WaterConduit] at kN211
          have kN214 := kN214 n (by omega)
          try simp only [wn, rc_WaterConduit] at kN214
          simp only [W, reduceIte, Nat.reduceEqDiff, Nat.reduceAdd, Nat.reduceSub, Nat.reduceLT, Nat.reduceLeDiff, Nat.reduceMul, h16l1_0, q16l1_0, a16l1b, rc_WaterConduit, c253d, g1751, g1753, kN177, kN180, kN183, kN193, c252d, kN196, kN199, kN202, kN205, kN208, c224d, kN211, kN214, c216d, wd]
        · rw [if_neg c216] at h
          have c216d := df c216
          cases h
          refine ⟨N177 + N180 + N183 + N193 + N196 + N199 + N202 + N205 + N208 + N211 + N214, fun n hn => ?_⟩
          have kN177 := kN177 n (by omega)
          try simp only [wn, rc_WaterConduit] at kN177
          have kN180 := kN180 n (by omega)
          try simp only [wn, rc_WaterConduit] at kN180
          have kN183 := kN183 n (by omega)
          try simp only [wn, rc_WaterConduit] at kN183
          have kN193 := kN193 n (by omega)
          try simp only [wn, rc_WaterConduit] at kN193
          have kN196 := kN196 n (by omega)
          try simp only [wn, rc_WaterConduit] at kN196
          have kN199 := kN199 n (by omega)
          try simp only [wn, rc_WaterConduit] at kN199
          have kN202 := kN202 n (by omega)
          try simp only [wn, rc_WaterConduit] at kN202
          have kN205 := kN205 n (by omega)
          try simp only [wn, rc_WaterConduit] at kN205
          have kN208 := kN208 n (by omega)
          try simp only [wn, rc_WaterConduit] at kN208
          have kN211 := kN211 n (by omega)
          try simp only [wn, rc_WaterConduit] at kN211
          have kN214 := kN214 n (by omega)
          try simp only [wn, rc_WaterConduit] at kN214
          simp only [W, reduceIte, Nat.reduceEqDiff, Nat.reduceAdd, Nat.reduceSub, Nat.reduceLT, Nat.reduceLeDiff, Nat.reduceMul, h16l1_0, q16l1_0, a16l1b, rc_WaterConduit, c253d, g1751, g1753, kN177, kN180, kN183, kN193, c252d, kN196, kN199, kN202, kN205, kN208, c224d, kN211, kN214, c216d, wd]
      · rw [if_neg c224] at h
        have c224d := bf c224
        obtain ⟨r219, g217, h⟩ := un1 h
        obtain ⟨N218, kN218⟩ := c72_0 x174.fOpen 3 _ g217
        obtain ⟨r222, g220, h⟩ := un1 h
        obtain ⟨N221, kN221⟩ := c71_0 true ([r181, r184, r200, r203, r209, r219] : List Int) _ g220
        by_cases c223 : r222 = 0
        · rw [if_pos c223] at h
          have c223d := dt c223
          cases h
          refine ⟨N177 + N180 + N183 + N193 + N196 + N199 + N202 + N205 + N208 + N218 + N221, fun n hn => ?_⟩
          have kN177 := kN177 n (by omega)
          try simp only [wn, rc_WaterConduit] at kN177
          have kN180 := kN180 n (by omega)
          try simp only [wn, rc_WaterConduit] at kN180
          have kN183 := kN183 n (by omega)
          try simp only [wn, rc_WaterConduit] at kN183
          have kN193 := kN193 n (by omega)
          try simp only [wn, rc_WaterConduit] at kN193
          have kN196 := kN196 n (by omega)
          try simp only [wn, rc_WaterConduit] at kN196
          have kN199 := kN199 n (by omega)
          try simp only [wn, rc_WaterConduit] at kN199
          have kN202 := kN202 n (by omega)
          try simp only [wn, rc_WaterConduit] at kN202
          have kN205 := kN205 n (by omega)
          try simp only [wn, rc_WaterConduit] at kN205
          have kN208 := kN208 n (by omega)
          try simp only [wn, rc_WaterConduit] at kN208
          have kN218 := kN218 n (by omega)
          try simp only [wn, rc_WaterConduit] at kN218
          have kN221 := kN221 n (by omega)
          try simp only [wn, rc_WaterConduit] at kN221
          simp only [W, reduceIte, Nat.reduceEqDiff, Nat.reduceAdd, Nat.reduceSub, Nat.reduceLT, Nat.reduceLeDiff, Nat.reduceMul, h16l1_0, q16l1_0, a16l1b, rc_WaterConduit, c253d, g1751, g1753, kN177, kN180, kN183, kN193, c252d, kN196, kN199, kN202, kN205, kN208, c224d, kN218, kN221, c223d, wd]
        · rw [if_neg c223] at h
          have c223d := df c223
          cases h
          refine ⟨N177 + N180 + N183 + N193 + N196 + N199 + N202 + N205 + N208 + N218 + N221, fun n hn => ?_⟩
          have kN177 := kN177 n (by omega)
          try simp only [wn, rc_WaterConduit] at kN177
          have kN180 := kN180 n (by omega)
          try simp only [wn, rc_WaterConduit] at kN180
          have kN183 := kN183 n (by omega)
          try simp only [wn, rc_WaterConduit] at kN183
          have kN193 := kN193 n (by omega)
          try simp only [wn, rc_WaterConduit] at kN193
          have kN196 := kN196 n (by omega)
          try simp only [wn, rc_WaterConduit] at kN196
          have kN199 := kN199 n (by omega)
          try simp only [wn, rc_WaterConduit] at kN199
          have kN202 := kN202 n (by omega)
          try simp only [wn, rc_WaterConduit] at kN202
          have kN205 := kN205 n (by omega)
          try simp only [wn, rc_WaterConduit] at kN205
          have kN208 := kN208 n (by omega)
          try simp only [wn, rc_WaterConduit] at kN208
          have kN218 := kN218 n (by omega)
          try simp only [wn, rc_WaterConduit] at kN218
          have kN221 := kN221 n (by omega)
          try simp only [wn, rc_WaterConduit] at kN221
          simp only [W, reduceIte, Nat.reduceEqDiff, Nat.reduceAdd, Nat.reduceSub, Nat.reduceLT, Nat.reduceLeDiff, Nat.reduceMul, h16l1_0, q16l1_0, a16l1b, rc_WaterConduit, c253d, g1751, g1753, kN177, kN180, kN183, kN193, c252d, kN196, kN199, kN202, kN205, kN208, c224d, kN218, kN221, c223d, wd]
    · rw [if_neg c252] at h
      have c252d := bf c252
      obtain ⟨r227, g225, h⟩ := un1 h
      obtain ⟨N226, kN226⟩ := c72_0 false 6 _ g225
      obtain ⟨r230, g228, h⟩ := un1 h
      obtain ⟨N229, kN229⟩ := c72_0 (!(decide (x174.fFrom = x174.fTo))) 13 _ g228
      obtain ⟨r233, g231, h⟩ := un1 h
      obtain ⟨N232, kN232⟩ := c74_0 x174.fResist 0 1000 _ g231
      obtain ⟨r236, g234, h⟩ := un1 h
      obtain ⟨N235, kN235⟩ := c72_0 r233 2 _ g234
      by_cases c251 : x174.fValve = true
      · rw [if_pos c251] at h
        have c251d := c251
        obtain ⟨r239, g237, h⟩ := un1 h
        obtain ⟨N238, kN238⟩ := c72_0 true 3 _ g237
        obtain ⟨r242, g240, h⟩ := un1 h
        obtain ⟨N241, kN241⟩ := c71_0 true ([r181, r184, r227, r230, r236, r239] : List Int) _ g240
        by_cases c243 : r242 = 0
        · rw [if_pos c243] at h
          have c243d := dt c243
          cases h
          refine ⟨N177 + N180 + N183 + N193 + N226 + N229 + N232 + N235 + N238 + N241, fun n hn => ?_⟩
          have kN177 := kN177 n (by omega)
          try simp only [wn, rc_WaterConduit] at kN177
          have kN180 := kN180 n (by omega)
          try simp only [wn, rc_WaterConduit] at kN180
          have kN183 := kN183 n (by omega)
          try simp only [wn, rc_WaterConduit] at kN183
          have kN193 := kN193 n (by omega)
          try simp only [wn, rc_WaterConduit] at kN193
          have kN226 := kN226 n (by omega)
          try simp only [wn, rc_WaterConduit] at kN226
          have kN229 := kN229 n (by omega)
          try simp only [wn, rc_WaterConduit] at kN229
          have kN232 := kN232 n (by omega)
          try simp only [wn, rc_WaterConduit] at kN232
          have kN235 := kN235 n (by omega)
          try simp only [wn, rc_WaterConduit] at kN235
          have kN238 := kN238 n (by omega)
          try simp only [wn, rc_WaterConduit] at kN238
          have kN241 := kN241 n (by omega)
          try simp only [wn, rc_WaterConduit] at kN241
          simp only [W, reduceIte, Nat.reduceEqDiff, Nat.reduceAdd, Nat.reduceSub, Nat.reduceLT, Nat.reduceLeDiff, Nat.reduceMul, h16l1_0, q16l1_0, a16l1b, rc_WaterConduit, c253d, g1751, g1753, kN177, kN180, kN183, kN193, c252d, kN226, kN229, kN232, kN235, c251d, kN238, kN241, c243d, wd]
        · rw [if_neg c243] at h
          have c243d := df c243
          cases h
          refine ⟨N177 + N180 + N183 + N193 + N226 + N229 + N232 + N235 + N238 + N241, fun n hn => ?_⟩
          have kN177 := kN177 n (by omega)
          try simp only [wn, rc_WaterConduit] at kN177
          have kN180 := kN180 n (by omega)
          try simp only [wn, rc_WaterConduit] at kN180
          have kN183 := kN183 n (by omega)
          try simp only [wn, rc_WaterConduit] at kN183
          have kN193 := kN193 n (by omega)
          try simp only [wn, rc_WaterConduit] at kN193
          have kN226 := kN226 n (by omega)
          try simp only [wn, rc_WaterConduit] at kN226
          have kN229 := kN229 n (by omega)
          try simp only [wn, rc_WaterConduit] at kN229
          have kN232 := kN232 n (by omega)
          try simp only [wn, rc_WaterConduit] at kN232
          have kN235 := kN235 n (by omega)
          try simp only [wn, rc_WaterConduit] at kN235
          have kN238 := kN238 n (by omega)
          try simp only [wn, rc_WaterConduit] at kN238
          have kN241 := kN241 n (by omega)
          try simp only [wn, rc_WaterConduit] at kN241
          simp only [W, reduceIte, Nat.reduceEqDiff, Nat.reduceAdd, Nat.reduceSub, Nat.reduceLT, Nat.reduceLeDiff, Nat.reduceMul, h16l1_0, q16l1_0, a16l1b, rc_WaterConduit, c253d, g1751, g1753, kN177, kN180, kN183, kN193, c252d, kN226, kN229, kN232, kN235, c251d, kN238, kN241, c243d, wd]
      · rw [if_neg c251] at h
        have c251d := bf c251
        obtain ⟨r246, g244, h⟩ := un1 h
        obtain ⟨N245, kN245⟩ := c72_0 x174.fOpen 3 _ g244
        obtain ⟨r249, g247, h⟩ := un1 h
        obtain ⟨N248, kN248⟩ := c71_0 true ([r181, r184, r227, r230, r236, r246] : List Int) _ g247
        by_cases c250 : r249 = 0
        · rw [if_pos c250] at h
          have c250d := dt c250
          cases h
          refine ⟨N177 + N180 + N183 + N193 + N226 + N229 + N232 + N235 + N245 + N248, fun n hn => ?_⟩
          have kN177 := kN177 n (by omega)
          try simp only [wn, rc_WaterConduit] at kN177
          have kN180 := kN180 n (by omega)
          try simp only [wn, rc_WaterConduit] at kN180
          have kN183 := kN183 n (by omega)
          try simp only [wn, rc_WaterConduit] at kN183
          have kN193 := kN193 n (by omega)
          try simp only [wn, rc_WaterConduit] at kN193
          have kN226 := kN226 n (by omega)
          try simp only [wn, rc_WaterConduit] at kN226
          have kN229 := kN229 n (by omega)
          try simp only [wn, rc_WaterConduit] at kN229
          have kN232 := kN232 n (by omega)
          try simp only [wn, rc_WaterConduit] at kN232
          have kN235 := kN235 n (by omega)
          try simp only [wn, rc_WaterConduit] at kN235
          have kN245 := kN245 n (by omega)
          try simp only [wn, rc_WaterConduit] at kN245
          have kN248 := kN248 n (by omega)
          try simp only [wn, rc_WaterConduit] at kN248
          simp only [W, reduceIte, Nat.reduceEqDiff, Nat.reduceAdd, Nat.reduceSub, Nat.reduceLT, Nat.reduceLeDiff, Nat.reduceMul, h16l1_0, q16l1_0, a16l1b, rc_WaterConduit, c253d, g1751, g1753, kN177, kN180, kN183, kN193, c252d, kN226, kN229, kN232, kN235, c251d, kN245, kN248, c250d, wd]
        · rw [if_neg c250] at h
          have c250d := df c250
          cases h
          refine ⟨N177 + N180 + N183 + N193 + N226 + N229 + N232 + N235 + N245 + N248, fun n hn => ?_⟩
          have kN177 := kN177 n (by omega)
          try simp only [wn, rc_WaterConduit] at kN177
          have kN180 := kN180 n (by omega)
          try simp only [wn, rc_WaterConduit] at kN180
          have kN183 := kN183 n (by omega)
          try simp only [wn, rc_WaterConduit] at kN183
          have kN193 := kN193 n (by omega)
          try simp only [wn, rc_WaterConduit] at kN193
          have kN226 := kN226 n (by omega)
          try simp only [wn, rc_WaterConduit] at kN226
          have kN229 := kN229 n (by omega)
          try simp only [wn, rc_WaterConduit] at kN229
          have kN232 := kN232 n (by omega)
          try simp only [wn, rc_WaterConduit] at kN232
          have kN235 := kN235 n (by omega)
          try simp only [wn, rc_WaterConduit] at kN235
          have kN245 := kN245 n (by omega)
          try simp only [wn, rc_WaterConduit] at kN245
          have kN248 := kN248 n (by omega)
          try simp only [wn, rc_WaterConduit] at kN248
          simp only [W, reduceIte, Nat.reduceEqDiff, Nat.reduceAdd, Nat.reduceSub, Nat.reduceLT, Nat.reduceLeDiff, Nat.reduceMul, h16l1_0, q16l1_0, a16l1b, rc_WaterConduit, c253d, g1751, g1753, kN177, kN180, kN183, kN193, c252d, kN226, kN229, kN232, kN235, c251d, kN245, kN248, c250d, wd]
end Go.AI
