import Derived.Test.YtfglifekecijjaaGAiY
import Derived.Test.YtfglifekecijjaaGAiTab
import Derived.Test.YtfglifekecijjaaGAiAwake
import Derived.Test.YtfglifekecijjaaGWnF
import Derived.Test.YtfglifekecijjaaGWn1
import Derived.Test.YtfglifekecijjaaGWn13
section
/-
  Functions, walked through: water.net).closed, water.openTree, water.openClosing, water.ClosingOf, water.circulationErr, water.branch], water.tree).other, water.branch]$1.
-/
set_option linter.unusedVariables false
set_option linter.unusedSimpArgs false
set_option maxRecDepth 100000
set_option maxHeartbeats 4000000
namespace Go.AI
theorem c138_0 (z0 : Bool) (z1 : Bool) (v1688 : List WaterNode) (v1689 : List WaterConduit) (r1948 : Int) (r1949 : Int) (r1950 : List Branch) (h : F138_0 v1688 v1689 = some (r1948, r1949, r1950)) : Ev fun n => (ex tab n).call 138 [.agg [.slice 0 0 v1688.length v1688.length 4 false, .slice 1 0 v1689.length v1689.length 6 false]] [.row z0 true (rowC v1688), .row z1 true (rowC v1689)] = some (.tup [.agg [.slice 0 0 v1688.length v1688.length 4 false, .slice 1 0 v1689.length v1689.length 6 false, .slice 2 0 r1950.length r1950.length 2 false, .int .i64 r1948], .int .i64 r1949], [.row z0 true (rowC v1688), .row z1 true (rowC v1689), .row true true (rowC r1950)]) := by
  unfold F138_0 at h
  obtain ⟨r1868, r1869, g1866, h⟩ := un2 h
  obtain ⟨N1867, kN1867⟩ := c151_0 z0 z1 v1688 v1689 _ _ g1866
  by_cases c1870 : r1868 = 0
  · rw [if_pos c1870] at h
    have c1870d := dt c1870
    obtain ⟨g1943_, g1943, h⟩ := un1 h
    rcases g1943_ with r1945 | ⟨r1946, r1947⟩
    · dsimp only at h
      have kN1944 := k138l0_0 z0 z1 (v1689.length : Int) v1688 v1689 ([] : List WaterNode) ([] : List WaterConduit) ([] : List Branch) r1869 (0, (-1)) _ g1943
      obtain ⟨N1944, kN1944⟩ := kN1944
      cases h
      refine ev_call (fn := a138) rfl ⟨N1867 + N1944, fun n hn => ?_⟩
      have kN1867 := kN1867 n (by omega)
      try simp (maxSteps := 2000000) only [wn, rc_Branch, rc_WaterConduit, rc_WaterNode] at kN1867
      have kN1944 := kN1944 n (by omega)
      simp (maxSteps := 2000000) only [h138l0_0, q138l0_0, wn, rc_Branch, rc_WaterConduit, rc_WaterNode] at kN1944
      simp (maxSteps := 2000000) only [W, reduceIte, Nat.reduceEqDiff, Nat.reduceAdd, Nat.reduceSub, Nat.reduceLT, Nat.reduceLeDiff, Nat.reduceMul, a138, a138l0, rc_Branch, rc_WaterConduit, rc_WaterNode, kN1867, c1870d, kN1944, @x_loopAt]
    · dsimp only at h
      have kN1944 := k138l0_0 z0 z1 (v1689.length : Int) v1688 v1689 ([] : List WaterNode) ([] : List WaterConduit) ([] : List Branch) r1869 (0, (-1)) _ g1943
      obtain ⟨N1944, kN1944⟩ := kN1944
      cases h
      refine ev_call (fn := a138) rfl ⟨N1867 + N1944, fun n hn => ?_⟩
      have kN1867 := kN1867 n (by omega)
      try simp (maxSteps := 2000000) only [wn, rc_Branch, rc_WaterConduit, rc_WaterNode] at kN1867
      have kN1944 := kN1944 n (by omega)
      simp (maxSteps := 2000000) only [h138l0_0, q138l0_0, wn, rc_Branch, rc_WaterConduit, rc_WaterNode] at kN1944
      simp (maxSteps := 2000000) only [W, reduceIte, Nat.reduceEqDiff, Nat.reduceAdd, Nat.reduceSub, Nat.reduceLT, Nat.reduceLeDiff, Nat.reduceMul, a138, a138l0, rc_Branch, rc_WaterConduit, rc_WaterNode, kN1867, c1870d, kN1944, @x_loopAt]
  · rw [if_neg c1870] at h
    have c1870d := df c1870
    cases h
    refine ev_call (fn := a138) rfl ⟨N1867, fun n hn => ?_⟩
    have kN1867 := kN1867 n (by omega)
    try simp (maxSteps := 2000000) only [wn, rc_Branch, rc_WaterConduit, rc_WaterNode] at kN1867
    simp (maxSteps := 2000000) only [W, reduceIte, Nat.reduceEqDiff, Nat.reduceAdd, Nat.reduceSub, Nat.reduceLT, Nat.reduceLeDiff, Nat.reduceMul, a138, a138l0, rc_Branch, rc_WaterConduit, rc_WaterNode, kN1867, c1870d, @x_loopAt]
theorem c99_0 (z0 : Bool) (z1 : Bool) (v1682 : List WaterNode) (v1683 : List WaterConduit) (r : (Int × Int × (List Branch)) ⊕ (Int)) (h : F99_0 v1682 v1683 = some r) : match r with
    | .inl (r1956, r1957, r1958) => Ev fun n => (ex tab n).call 99 [.agg [.slice 0 0 v1682.length v1682.length 4 false, .slice 1 0 v1683.length v1683.length 6 false]] [.row z0 true (rowC v1682), .row z1 true (rowC v1683)] = some (.tup [.agg [.slice 0 0 v1682.length v1682.length 4 false, .slice 1 0 v1683.length v1683.length 6 false, .slice 2 0 r1958.length r1958.length 2 false, .int .i64 r1956], .int .i64 r1957], [.row z0 true (rowC v1682), .row z1 true (rowC v1683), .row true true (rowC r1958)])
    | .inr (r1959) => Ev fun n => (ex tab n).call 99 [.agg [.slice 0 0 v1682.length v1682.length 4 false, .slice 1 0 v1683.length v1683.length 6 false]] [.row z0 true (rowC v1682), .row z1 true (rowC v1683)] = some (.tup [.agg [.slice 2 0 0 0 4 false, .slice 3 0 0 0 6 false, .slice 4 0 0 0 2 false, .int .i64 0], .int .i64 r1959], [.row z0 true (rowC v1682), .row z1 true (rowC v1683), .row true true [], .row true true [], .row true true []]) := by
  unfold F99_0 at h
  obtain ⟨r1686, g1684, h⟩ := un1 h
  obtain ⟨N1685, kN1685⟩ := c87_0 z0 z1 v1682 v1683 _ g1684
  by_cases c1687 : r1686 = 0
  · rw [if_pos c1687] at h
    have c1687d := dt c1687
    obtain ⟨r1953, r1954, r1955, g1951, h⟩ := un3 h
    obtain ⟨N1952, kN1952⟩ := c138_0 z0 z1 v1682 v1683 _ _ _ g1951
    cases h
    refine ev_call (fn := a99) rfl ⟨N1685 + N1952, fun n hn => ?_⟩
    have kN1685 := kN1685 n (by omega)
    try simp (maxSteps := 2000000) only [wn, rc_Branch, rc_WaterConduit, rc_WaterNode] at kN1685
    have kN1952 := kN1952 n (by omega)
    try simp (maxSteps := 2000000) only [wn, rc_Branch, rc_WaterConduit, rc_WaterNode] at kN1952
    simp (maxSteps := 2000000) only [W, reduceIte, Nat.reduceEqDiff, Nat.reduceAdd, Nat.reduceSub, Nat.reduceLT, Nat.reduceLeDiff, Nat.reduceMul, a99, rc_Branch, rc_WaterConduit, rc_WaterNode, kN1685, c1687d, kN1952]
  · rw [if_neg c1687] at h
    have c1687d := df c1687
    cases h
    refine ev_call (fn := a99) rfl ⟨N1685, fun n hn => ?_⟩
    have kN1685 := kN1685 n (by omega)
    try simp (maxSteps := 2000000) only [wn, rc_Branch, rc_WaterConduit, rc_WaterNode] at kN1685
    simp (maxSteps := 2000000) only [W, reduceIte, Nat.reduceEqDiff, Nat.reduceAdd, Nat.reduceSub, Nat.reduceLT, Nat.reduceLeDiff, Nat.reduceMul, a99, rc_Branch, rc_WaterConduit, rc_WaterNode, kN1685, c1687d]
theorem c98_0 (z0 : Bool) (z1 : Bool) (v1680 : List WaterNode) (v1681 : List WaterConduit) (r : (Int × Int × (List Branch)) ⊕ (Int)) (h : F98_0 v1680 v1681 = some r) : match r with
    | .inl (r1978, r1979, r1980) => Ev fun n => (ex tab n).call 98 [.agg [.slice 0 0 v1680.length v1680.length 4 false, .slice 1 0 v1681.length v1681.length 6 false]] [.row z0 true (rowC v1680), .row z1 true (rowC v1681)] = some (.tup [.agg [.slice 0 0 v1680.length v1680.length 4 false, .slice 1 0 v1681.length v1681.length 6 false, .slice 2 0 r1980.length r1980.length 2 false, .int .i64 r1978], .int .i64 r1979], [.row z0 true (rowC v1680), .row z1 true (rowC v1681), .row true true (rowC r1980)])
    | .inr (r1981) => Ev fun n => (ex tab n).call 98 [.agg [.slice 0 0 v1680.length v1680.length 4 false, .slice 1 0 v1681.length v1681.length 6 false]] [.row z0 true (rowC v1680), .row z1 true (rowC v1681)] = some (.tup [.agg [.slice 2 0 0 0 4 false, .slice 3 0 0 0 6 false, .slice 4 0 0 0 2 false, .int .i64 0], .int .i64 r1981], [.row z0 true (rowC v1680), .row z1 true (rowC v1681), .row true true [], .row true true [], .row true true []]) := by
  unfold F98_0 at h
  obtain ⟨g1960_, g1960, h⟩ := un1 h
  rcases g1960_ with ⟨r1962, r1963, r1964⟩ | r1971
  · dsimp only at h
    obtain ⟨N1961, kN1961⟩ := c99_0 z0 z1 v1680 v1681 _ g1960
    obtain ⟨r1967, g1965, h⟩ := un1 h
    obtain ⟨N1966, kN1966⟩ := c72_0 (decide (0 ≤ r1962)) 12 _ g1965
    obtain ⟨r1970, g1968, h⟩ := un1 h
    obtain ⟨N1969, kN1969⟩ := c71_0 false ([r1963, r1967] : List Int) _ g1968
    cases h
    refine ev_call (fn := a98) rfl ⟨N1961 + N1966 + N1969, fun n hn => ?_⟩
    have kN1961 := kN1961 n (by omega)
    try simp (maxSteps := 2000000) only [wn, rc_Branch, rc_WaterConduit, rc_WaterNode] at kN1961
    have kN1966 := kN1966 n (by omega)
    try simp (maxSteps := 2000000) only [wn, rc_Branch, rc_WaterConduit, rc_WaterNode] at kN1966
    have kN1969 := kN1969 n (by omega)
    try simp (maxSteps := 2000000) only [wn, rc_Branch, rc_WaterConduit, rc_WaterNode] at kN1969
    simp (maxSteps := 2000000) only [W, reduceIte, Nat.reduceEqDiff, Nat.reduceAdd, Nat.reduceSub, Nat.reduceLT, Nat.reduceLeDiff, Nat.reduceMul, a98, rc_Branch, rc_WaterConduit, rc_WaterNode, kN1961, kN1966, kN1969, wd]
  · dsimp only at h
    obtain ⟨N1961, kN1961⟩ := c99_0 z0 z1 v1680 v1681 _ g1960
    obtain ⟨r1974, g1972, h⟩ := un1 h
    obtain ⟨N1973, kN1973⟩ := c72_0 (decide ((0 : Int) ≤ 0)) 12 _ g1972
    obtain ⟨r1977, g1975, h⟩ := un1 h
    obtain ⟨N1976, kN1976⟩ := c71_0 false ([r1971, r1974] : List Int) _ g1975
    cases h
    refine ev_call (fn := a98) rfl ⟨N1961 + N1973 + N1976, fun n hn => ?_⟩
    have kN1961 := kN1961 n (by omega)
    try simp (maxSteps := 2000000) only [wn, rc_Branch, rc_WaterConduit, rc_WaterNode] at kN1961
    have kN1973 := kN1973 n (by omega)
    try simp (maxSteps := 2000000) only [wn, rc_Branch, rc_WaterConduit, rc_WaterNode] at kN1973
    have kN1976 := kN1976 n (by omega)
    try simp (maxSteps := 2000000) only [wn, rc_Branch, rc_WaterConduit, rc_WaterNode] at kN1976
    simp (maxSteps := 2000000) only [W, reduceIte, Nat.reduceEqDiff, Nat.reduceAdd, Nat.reduceSub, Nat.reduceLT, Nat.reduceLeDiff, Nat.reduceMul, a98, rc_Branch, rc_WaterConduit, rc_WaterNode, kN1961, kN1973, kN1976, wd]
theorem c39_0 (z0 : Bool) (z1 : Bool) (v1678 : List WaterNode) (v1679 : List WaterConduit) (r1990 : Int) (r1991 : Int) (h : F39_0 v1678 v1679 = some (r1990, r1991)) : Ev fun n => (ex tab n).call 39 [.agg [.slice 0 0 v1678.length v1678.length 4 false, .slice 1 0 v1679.length v1679.length 6 false]] [.row z0 true (rowC v1678), .row z1 true (rowC v1679)] = some (.tup [.int .i64 r1990, .int .i64 r1991], [.row z0 true (rowC v1678), .row z1 true (rowC v1679)]) := by
  unfold F39_0 at h
  obtain ⟨g1982_, g1982, h⟩ := un1 h
  rcases g1982_ with ⟨r1984, r1985, r1986⟩ | r1988
  · dsimp only at h
    obtain ⟨N1983, kN1983⟩ := c98_0 z0 z1 v1678 v1679 _ g1982
    by_cases c1987 : r1985 = 0
    · rw [if_pos c1987] at h
      have c1987d := dt c1987
      cases h
      refine ev_call (fn := a39) rfl ⟨N1983, fun n hn => ?_⟩
      have kN1983 := kN1983 n (by omega)
      try simp (maxSteps := 2000000) only [wn] at kN1983
      simp (maxSteps := 2000000) only [W, reduceIte, Nat.reduceEqDiff, Nat.reduceAdd, Nat.reduceSub, Nat.reduceLT, Nat.reduceLeDiff, Nat.reduceMul, a39, rc_Branch, rc_WaterConduit, rc_WaterNode, kN1983, c1987d]
    · rw [if_neg c1987] at h
      have c1987d := df c1987
      cases h
      refine ev_call (fn := a39) rfl ⟨N1983, fun n hn => ?_⟩
      have kN1983 := kN1983 n (by omega)
      try simp (maxSteps := 2000000) only [wn] at kN1983
      simp (maxSteps := 2000000) only [W, reduceIte, Nat.reduceEqDiff, Nat.reduceAdd, Nat.reduceSub, Nat.reduceLT, Nat.reduceLeDiff, Nat.reduceMul, a39, rc_Branch, rc_WaterConduit, rc_WaterNode, kN1983, c1987d]
  · dsimp only at h
    obtain ⟨N1983, kN1983⟩ := c98_0 z0 z1 v1678 v1679 _ g1982
    by_cases c1989 : r1988 = 0
    · rw [if_pos c1989] at h
      have c1989d := dt c1989
      cases h
      refine ev_call (fn := a39) rfl ⟨N1983, fun n hn => ?_⟩
      have kN1983 := kN1983 n (by omega)
      try simp (maxSteps := 2000000) only [wn, rc_Branch, rc_WaterConduit, rc_WaterNode] at kN1983
      simp (maxSteps := 2000000) only [W, reduceIte, Nat.reduceEqDiff, Nat.reduceAdd, Nat.reduceSub, Nat.reduceLT, Nat.reduceLeDiff, Nat.reduceMul, a39, rc_Branch, rc_WaterConduit, rc_WaterNode, kN1983, c1989d]
    · rw [if_neg c1989] at h
      have c1989d := df c1989
      cases h
      refine ev_call (fn := a39) rfl ⟨N1983, fun n hn => ?_⟩
      have kN1983 := kN1983 n (by omega)
      try simp (maxSteps := 2000000) only [wn, rc_Branch, rc_WaterConduit, rc_WaterNode] at kN1983
      simp (maxSteps := 2000000) only [W, reduceIte, Nat.reduceEqDiff, Nat.reduceAdd, Nat.reduceSub, Nat.reduceLT, Nat.reduceLeDiff, Nat.reduceMul, a39, rc_Branch, rc_WaterConduit, rc_WaterNode, kN1983, c1989d]
theorem c100_0 (v2008 : Int) (r2015 : Int) (h : F100_0 v2008 = some r2015) : Ev fun n => (ex tab n).call 100 [.int .i64 v2008] [] = some (.int .i64 r2015, []) := by
  unfold F100_0 at h
  obtain ⟨r2011, g2009, h⟩ := un1 h
  obtain ⟨N2010, kN2010⟩ := c73_0 v2008 200000 _ g2009
  obtain ⟨r2014, g2012, h⟩ := un1 h
  obtain ⟨N2013, kN2013⟩ := c72_0 r2011 2 _ g2012
  cases h
  refine ev_call (fn := a100) rfl ⟨N2010 + N2013, fun n hn => ?_⟩
  have kN2010 := kN2010 n (by omega)
  try simp (maxSteps := 2000000) only [wn] at kN2010
  have kN2013 := kN2013 n (by omega)
  try simp (maxSteps := 2000000) only [wn] at kN2013
  simp (maxSteps := 2000000) only [W, reduceIte, Nat.reduceEqDiff, Nat.reduceAdd, Nat.reduceSub, Nat.reduceLT, Nat.reduceLeDiff, Nat.reduceMul, a100, kN2010, kN2013]
noncomputable def h101l0_0 (z0 : Bool) (z1 : Bool) (z2 : Bool) (v2040 : Int) (v2041 : Int) (v2043 : List WaterNode) (v2044 : List WaterConduit) (v2045 : List Branch) (v2046 : Int) (v2047 : List Int) (v2048 : List Int) (v2049 : List Int) : (Int × (List Int) × (List Int)) → Env × Heap
  | (v2042, v2050, v2051) => ([(1, .int .i64 v2040), (2, .ptr 3 0), (4, .ptr 4 0), (5, .ptr 7 0), (6, .ptr 10 0), (40, .slice 0 0 v2043.length v2043.length 4 false), (41, .int .i64 v2041), (42, .int .i64 v2042)], [.row z0 true (rowC v2043), .row z1 true (rowC v2044), .row z2 true (rowC v2045), .row true false [.slice 0 0 v2043.length v2043.length 4 false, .slice 1 0 v2044.length v2044.length 6 false, .slice 2 0 v2045.length v2045.length 2 false, .int .i64 v2046], .row true false [.slice 5 0 v2047.length v2047.length 1 false, .slice 6 0 v2048.length v2048.length 1 false], .row true true (rowC v2047), .row true true (rowC v2048), .row true false [.slice 8 0 v2049.length v2049.length 1 true, .slice 9 0 v2050.length v2050.length 1 true], .row true true (rowC v2049), .row true true (rowC v2050), .row true false [.slice 11 0 v2051.length v2051.length 1 true], .row true true (rowC v2051)])
noncomputable def q101l0_0 (z0 : Bool) (z1 : Bool) (z2 : Bool) (v2040 : Int) (v2041 : Int) (v2043 : List WaterNode) (v2044 : List WaterConduit) (v2045 : List Branch) (v2046 : Int) (v2047 : List Int) (v2048 : List Int) (v2049 : List Int) : ((List Int) × (List Int)) → AExit × Env × Heap
  | (r2062, r2063) => (.exit 0, [(1, .int .i64 v2040), (2, .ptr 3 0), (4, .ptr 4 0), (5, .ptr 7 0), (6, .ptr 10 0)], [.row z0 true (rowC v2043), .row z1 true (rowC v2044), .row z2 true (rowC v2045), .row true false [.slice 0 0 v2043.length v2043.length 4 false, .slice 1 0 v2044.length v2044.length 6 false, .slice 2 0 v2045.length v2045.length 2 false, .int .i64 v2046], .row true false [.slice 5 0 v2047.length v2047.length 1 false, .slice 6 0 v2048.length v2048.length 1 false], .row true true (rowC v2047), .row true true (rowC v2048), .row true false [.slice 8 0 v2049.length v2049.length 1 true, .slice 9 0 r2062.length r2062.length 1 true], .row true true (rowC v2049), .row true true (rowC r2062), .row true false [.slice 11 0 r2063.length r2063.length 1 true], .row true true (rowC r2063)])
theorem k101l0_0 (z0 : Bool) (z1 : Bool) (z2 : Bool) (v2040 : Int) (v2041 : Int) (v2043 : List WaterNode) (v2044 : List WaterConduit) (v2045 : List Branch) (v2046 : Int) (v2047 : List Int) (v2048 : List Int) (v2049 : List Int) (s : Int × (List Int) × (List Int)) (o : (List Int) × (List Int)) (h : L101l0_0 v2040 v2041 v2043 v2044 v2045 v2046 v2047 v2048 v2049 s = some o) : Ev fun n => loopAt [1, 2, 4, 5, 6, 40, 41, 42] [1, 2, 4, 5, 6] a101l0b (ex tab n) 3 (h101l0_0 z0 z1 z2 v2040 v2041 v2043 v2044 v2045 v2046 v2047 v2048 v2049 s) = some (q101l0_0 z0 z1 z2 v2040 v2041 v2043 v2044 v2045 v2046 v2047 v2048 v2049 o) := by
  refine iter_sound (S101l0_0 v2040 v2041 v2043 v2044 v2045 v2046 v2047 v2048 v2049) [1, 2, 4, 5, 6, 40, 41, 42] [1, 2, 4, 5, 6] a101l0b 3 (h101l0_0 z0 z1 z2 v2040 v2041 v2043 v2044 v2045 v2046 v2047 v2048 v2049) (q101l0_0 z0 z1 z2 v2040 v2041 v2043 v2044 v2045 v2046 v2047 v2048 v2049) ?_ _ _ _ h
  rintro ⟨v2042, v2050, v2051⟩ z h
  simp only [S101l0_0] at h
  by_cases c2052 : v2041 ≤ v2042
  · rw [if_pos c2052] at h
    have c2052d := dt c2052
    cases h
    refine ⟨0, fun n hn => ?_⟩
    simp (maxSteps := 2000000) only [W, reduceIte, Nat.reduceEqDiff, Nat.reduceAdd, Nat.reduceSub, Nat.reduceLT, Nat.reduceLeDiff, Nat.reduceMul, h101l0_0, q101l0_0, a101l0b, rc_WaterNode, c2052d]
  · rw [if_neg c2052] at h
    have c2052d := df c2052
    obtain ⟨j2053, x2054, g2055, h⟩ := un2 h
    obtain ⟨g20551, g20552⟩ := geti_in g2055
    have g20553 := ac_WaterNode g20552
    try simp only [wn] at g20551
    obtain ⟨j2056, x2057, g2058, h⟩ := un2 h
    obtain ⟨g20581, g20582⟩ := geti_in g2058
    have g20583 := ac_Int g20582
    try simp only [wn] at g20581
    obtain ⟨j2059, x2060, g2061, h⟩ := un2 h
    obtain ⟨g20611, g20612⟩ := geti_in g2061
    have g20613 := ac_Int g20612
    try simp only [wn] at g20611
    cases h
    refine ⟨0, fun n hn => ?_⟩
    simp (maxSteps := 2000000) only [W, reduceIte, Nat.reduceEqDiff, Nat.reduceAdd, Nat.reduceSub, Nat.reduceLT, Nat.reduceLeDiff, Nat.reduceMul, h101l0_0, q101l0_0, a101l0b, rc_WaterNode, c2052d, g20551, g20553, g20581, g20583, g20611, g20613]
theorem c139_0 (z0 : Bool) (v2081 : List Branch) (h : F139_0 v2081 = some ()) : Ev fun n => (ex tab n).call 139 [.slice 0 0 v2081.length v2081.length 2 false] [.row z0 true (rowC v2081)] = some (.func 154 [] [.ptr 1 0], [.row z0 true (rowC v2081), .row true false [.slice 0 0 v2081.length v2081.length 2 false]]) := by
  unfold F139_0 at h
  cases h
  refine ev_call (fn := a139) rfl ⟨0, fun n hn => ?_⟩
  simp (maxSteps := 2000000) only [W, reduceIte, Nat.reduceEqDiff, Nat.reduceAdd, Nat.reduceSub, Nat.reduceLT, Nat.reduceLeDiff, Nat.reduceMul, a139]
theorem c140_0 (z0 : Bool) (z1 : Bool) (z2 : Bool) (v2107 : Int) (v2108 : Int) (v2109 : Int) (v2110 : List WaterNode) (v2111 : List WaterConduit) (v2112 : List Branch) (r2117 : Int) (r2118 : Int) (h : F140_0 v2107 v2108 v2109 v2110 v2111 v2112 = some (r2117, r2118)) : Ev fun n => (ex tab n).call 140 [.agg [.slice 0 0 v2110.length v2110.length 4 false, .slice 1 0 v2111.length v2111.length 6 false, .slice 2 0 v2112.length v2112.length 2 false, .int .i64 v2107], .agg [.int .i64 v2108, .int .i64 v2109]] [.row z0 true (rowC v2110), .row z1 true (rowC v2111), .row z2 true (rowC v2112)] = some (.tup [.int .i64 r2117, .int .i64 r2118], [.row z0 true (rowC v2110), .row z1 true (rowC v2111), .row z2 true (rowC v2112)]) := by
  unfold F140_0 at h
  obtain ⟨j2113, x2114, g2115, h⟩ := un2 h
  obtain ⟨g21151, g21152⟩ := geti_in g2115
  have g21153 := ac_WaterConduit g21152
  try simp only [wn] at g21151
  by_cases c2116 : x2114.fTo = v2109
  · rw [if_pos c2116] at h
    have c2116d := dt c2116
    cases h
    refine ev_call (fn := a140) rfl ⟨0, fun n hn => ?_⟩
    simp (maxSteps := 2000000) only [W, reduceIte, Nat.reduceEqDiff, Nat.reduceAdd, Nat.reduceSub, Nat.reduceLT, Nat.reduceLeDiff, Nat.reduceMul, a140, rc_WaterConduit, g21151, g21153, c2116d]
  · rw [if_neg c2116] at h
    have c2116d := df c2116
    cases h
    refine ev_call (fn := a140) rfl ⟨0, fun n hn => ?_⟩
    simp (maxSteps := 2000000) only [W, reduceIte, Nat.reduceEqDiff, Nat.reduceAdd, Nat.reduceSub, Nat.reduceLT, Nat.reduceLeDiff, Nat.reduceMul, a140, rc_WaterConduit, g21151, g21153, c2116d]
noncomputable def h154l0_0 (z1 : Bool) (z2 : Bool) (z3 : Bool) (z4 : Bool) (z5 : Bool) (z6 : Bool) (z7 : Bool) (z8 : Bool) (z10 : Bool) (z11 : Bool) (z13 : Bool) (v2175 : Int) (v2176 : List WaterNode) (v2177 : List WaterConduit) (v2178 : List Branch) (v2179 : List Int) (v2180 : List Int) (v2182 : List Int) : (Int × (List Int) × (List Int)) → Env × Heap
  | (v2174, v2181, v2183) => ([(0, .yield 0), (1, .ptr 13 0), (3, .int .i64 v2174)], [.loop true .ready [(2, .ptr 1 0), (4, .ptr 5 0), (5, .ptr 8 0), (6, .ptr 11 0)] [96, 97] a101r1a a101r1b .normal, .row z1 false [.slice 2 0 v2176.length v2176.length 4 false, .slice 3 0 v2177.length v2177.length 6 false, .slice 4 0 v2178.length v2178.length 2 false, .int .i64 v2175], .row z2 true (rowC v2176), .row z3 true (rowC v2177), .row z4 true (rowC v2178), .row z5 false [.slice 6 0 v2179.length v2179.length 1 false, .slice 7 0 v2180.length v2180.length 1 false], .row z6 true (rowC v2179), .row z7 true (rowC v2180), .row z8 false [.slice 9 0 v2181.length v2181.length 1 true, .slice 10 0 v2182.length v2182.length 1 true], .row true true (rowC v2181), .row z10 true (rowC v2182), .row z11 false [.slice 12 0 v2183.length v2183.length 1 true], .row true true (rowC v2183), .row z13 false [.slice 4 0 v2178.length v2178.length 2 false]])
noncomputable def q154l0_0 (z1 : Bool) (z2 : Bool) (z3 : Bool) (z4 : Bool) (z5 : Bool) (z6 : Bool) (z7 : Bool) (z8 : Bool) (z10 : Bool) (z11 : Bool) (z13 : Bool) (v2175 : Int) (v2176 : List WaterNode) (v2177 : List WaterConduit) (v2178 : List Branch) (v2179 : List Int) (v2180 : List Int) (v2182 : List Int) : ((List Int) × (List Int)) → AExit × Env × Heap
  | (r2201, r2202) => (.exit 0, [], [.loop true .ready [(2, .ptr 1 0), (4, .ptr 5 0), (5, .ptr 8 0), (6, .ptr 11 0)] [96, 97] a101r1a a101r1b .normal, .row z1 false [.slice 2 0 v2176.length v2176.length 4 false, .slice 3 0 v2177.length v2177.length 6 false, .slice 4 0 v2178.length v2178.length 2 false, .int .i64 v2175], .row z2 true (rowC v2176), .row z3 true (rowC v2177), .row z4 true (rowC v2178), .row z5 false [.slice 6 0 v2179.length v2179.length 1 false, .slice 7 0 v2180.length v2180.length 1 false], .row z6 true (rowC v2179), .row z7 true (rowC v2180), .row z8 false [.slice 9 0 r2201.length r2201.length 1 true, .slice 10 0 v2182.length v2182.length 1 true], .row true true (rowC r2201), .row z10 true (rowC v2182), .row z11 false [.slice 12 0 r2202.length r2202.length 1 true], .row true true (rowC r2202), .row z13 false [.slice 4 0 v2178.length v2178.length 2 false]])
theorem k154l0_0 (z1 : Bool) (z2 : Bool) (z3 : Bool) (z4 : Bool) (z5 : Bool) (z6 : Bool) (z7 : Bool) (z8 : Bool) (z10 : Bool) (z11 : Bool) (z13 : Bool) (v2175 : Int) (v2176 : List WaterNode) (v2177 : List WaterConduit) (v2178 : List Branch) (v2179 : List Int) (v2180 : List Int) (v2182 : List Int) (s : Int × (List Int) × (List Int)) (o : (List Int) × (List Int)) (h : L154l0_0 v2175 v2176 v2177 v2178 v2179 v2180 v2182 s = some o) : Ev fun n => loopAt [0, 1, 3] [] a154l0b (ex tab n) 14 (h154l0_0 z1 z2 z3 z4 z5 z6 z7 z8 z10 z11 z13 v2175 v2176 v2177 v2178 v2179 v2180 v2182 s) = some (q154l0_0 z1 z2 z3 z4 z5 z6 z7 z8 z10 z11 z13 v2175 v2176 v2177 v2178 v2179 v2180 v2182 o) := by
  refine iter_sound (S154l0_0 v2175 v2176 v2177 v2178 v2179 v2180 v2182) [0, 1, 3] [] a154l0b 14 (h154l0_0 z1 z2 z3 z4 z5 z6 z7 z8 z10 z11 z13 v2175 v2176 v2177 v2178 v2179 v2180 v2182) (q154l0_0 z1 z2 z3 z4 z5 z6 z7 z8 z10 z11 z13 v2175 v2176 v2177 v2178 v2179 v2180 v2182) ?_ _ _ _ h
  rintro ⟨v2174, v2181, v2183⟩ z h
  simp only [S154l0_0] at h
  by_cases c2184 : 0 ≤ v2174
  · rw [if_pos c2184] at h
    have c2184d := dt c2184
    obtain ⟨j2185, x2186, g2187, h⟩ := un2 h
    obtain ⟨g21871, g21872⟩ := geti_in g2187
    have g21873 := ac_Branch g21872
    try simp only [wn] at g21871
    obtain ⟨r2190, r2191, g2188, h⟩ := un2 h
    obtain ⟨N2189, kN2189⟩ := c140_0 z2 z3 z4 v2175 x2186.fconduit x2186.fnode v2176 v2177 v2178 _ _ g2188
    obtain ⟨j2192, x2193, g2194, h⟩ := un2 h
    obtain ⟨g21941, g21942⟩ := geti_in g2194
    have g21943 := ac_Int g21942
    try simp only [wn] at g21941
    obtain ⟨j2195, x2196, g2197, h⟩ := un2 h
    obtain ⟨g21971, g21972⟩ := geti_in g2197
    have g21973 := ac_Int g21972
    try simp only [wn] at g21971
    obtain ⟨j2198, x2199, g2200, h⟩ := un2 h
    obtain ⟨g22001, g22002⟩ := geti_in g2200
    have g22003 := ac_Int g22002
    try simp only [wn] at g22001
    cases h
    refine ⟨N2189 + 1, fun n hn => ?_⟩
    obtain ⟨m, rfl⟩ := Nat.exists_eq_add_of_le' (show 1 ≤ n by omega)
    have kN2189y1 := kN2189 (m) (by omega)
    try simp (maxSteps := 2000000) only [wn, rc_Branch] at kN2189y1
    have kN2189 := kN2189 (m + 1) (by omega)
    try simp (maxSteps := 2000000) only [wn, rc_Branch] at kN2189
    simp (maxSteps := 2000000) only [W, reduceIte, Nat.reduceEqDiff, Nat.reduceAdd, Nat.reduceSub, Nat.reduceLT, Nat.reduceLeDiff, Nat.reduceMul, h154l0_0, q154l0_0, a101r1A, a101r1B, a154l0b, rc_Branch, c2184d, g21871, g21873, kN2189, g21941, g21943, g21971, g21973, g22001, g22003, kN2189y1, wd, wg, show ∀ p b e H, exec1 a101r1a p b e H = exec1 a101r1A p b e H from fun _ _ _ _ => rfl, show ∀ p b e H, exec1 a101r1b p b e H = exec1 a101r1B p b e H from fun _ _ _ _ => rfl]
  · rw [if_neg c2184] at h
    have c2184d := df c2184
    cases h
    refine ⟨0 + 1, fun n hn => ?_⟩
    obtain ⟨m, rfl⟩ := Nat.exists_eq_add_of_le' (show 1 ≤ n by omega)
    simp (maxSteps := 2000000) only [W, reduceIte, Nat.reduceEqDiff, Nat.reduceAdd, Nat.reduceSub, Nat.reduceLT, Nat.reduceLeDiff, Nat.reduceMul, h154l0_0, q154l0_0, a101r1A, a101r1B, a154l0b, rc_Branch, c2184d, wd, wg, show ∀ p b e H, exec1 a101r1a p b e H = exec1 a101r1A p b e H from fun _ _ _ _ => rfl, show ∀ p b e H, exec1 a101r1b p b e H = exec1 a101r1B p b e H from fun _ _ _ _ => rfl]
theorem c154_2 (z1 : Bool) (z2 : Bool) (z3 : Bool) (z4 : Bool) (z5 : Bool) (z6 : Bool) (z7 : Bool) (z8 : Bool) (z10 : Bool) (z11 : Bool) (z13 : Bool) (v2165 : Int) (v2166 : List WaterNode) (v2167 : List WaterConduit) (v2168 : List Branch) (v2169 : List Int) (v2170 : List Int) (v2171 : List Int) (v2172 : List Int) (v2173 : List Int) (r2207 : List Int) (r2208 : List Int) (h : F154_2 v2165 v2166 v2167 v2168 v2169 v2170 v2171 v2172 v2173 = some (r2207, r2208)) : Ev fun n => (ex tab n).call 154 [.yield 0, .ptr 13 0] [.loop true .ready [(2, .ptr 1 0), (4, .ptr 5 0), (5, .ptr 8 0), (6, .ptr 11 0)] [96, 97] a101r1a a101r1b .normal, .row z1 false [.slice 2 0 v2166.length v2166.length 4 false, .slice 3 0 v2167.length v2167.length 6 false, .slice 4 0 v2168.length v2168.length 2 false, .int .i64 v2165], .row z2 true (rowC v2166), .row z3 true (rowC v2167), .row z4 true (rowC v2168), .row z5 false [.slice 6 0 v2169.length v2169.length 1 false, .slice 7 0 v2170.length v2170.length 1 false], .row z6 true (rowC v2169), .row z7 true (rowC v2170), .row z8 false [.slice 9 0 v2171.length v2171.length 1 true, .slice 10 0 v2172.length v2172.length 1 true], .row true true (rowC v2171), .row z10 true (rowC v2172), .row z11 false [.slice 12 0 v2173.length v2173.length 1 true], .row true true (rowC v2173), .row z13 false [.slice 4 0 v2168.length v2168.length 2 false]] = some (.tup [], [.loop true .ready [(2, .ptr 1 0), (4, .ptr 5 0), (5, .ptr 8 0), (6, .ptr 11 0)] [96, 97] a101r1a a101r1b .normal, .row z1 false [.slice 2 0 v2166.length v2166.length 4 false, .slice 3 0 v2167.length v2167.length 6 false, .slice 4 0 v2168.length v2168.length 2 false, .int .i64 v2165], .row z2 true (rowC v2166), .row z3 true (rowC v2167), .row z4 true (rowC v2168), .row z5 false [.slice 6 0 v2169.length v2169.length 1 false, .slice 7 0 v2170.length v2170.length 1 false], .row z6 true (rowC v2169), .row z7 true (rowC v2170), .row z8 false [.slice 9 0 r2207.length r2207.length 1 true, .slice 10 0 v2172.length v2172.length 1 true], .row true true (rowC r2207), .row z10 true (rowC v2172), .row z11 false [.slice 12 0 r2208.length r2208.length 1 true], .row true true (rowC r2208), .row z13 false [.slice 4 0 v2168.length v2168.length 2 false]]) := by
  unfold F154_2 at h
  obtain ⟨r2205, r2206, g2203, h⟩ := un2 h
  have kN2204 := k154l0_0 z1 z2 z3 z4 z5 z6 z7 z8 z10 z11 z13 v2165 v2166 v2167 v2168 v2169 v2170 v2172 ((aw .i64 ((v2168.length : Int) - 1)), v2171, v2173) _ g2203
  obtain ⟨N2204, kN2204⟩ := kN2204
  cases h
  refine ev_call (fn := a154) rfl ⟨N2204, fun n hn => ?_⟩
  have kN2204 := kN2204 n (by omega)
  simp (maxSteps := 2000000) only [h154l0_0, q154l0_0, wn, rc_Branch] at kN2204
  simp (maxSteps := 2000000) only [W, reduceIte, Nat.reduceEqDiff, Nat.reduceAdd, Nat.reduceSub, Nat.reduceLT, Nat.reduceLeDiff, Nat.reduceMul, a154, a154l0, rc_Branch, kN2204, @x_loopAt, wg]
end Go.AI
end
section
/-
  Functions, walked through: water.tree).state, water.StateAt.
-/
set_option linter.unusedVariables false
set_option linter.unusedSimpArgs false
set_option maxRecDepth 100000
set_option maxHeartbeats 4000000
namespace Go.AI
noncomputable def h101l2_0 (z0 : Bool) (z1 : Bool) (z2 : Bool) (v2213 : Int) (v2215 : List WaterNode) (v2216 : List WaterConduit) (v2217 : List Branch) (v2218 : Int) (v2219 : List Int) (v2220 : List Int) (v2221 : List Int) : (Int × (List Int)) → Env × Heap
  | (v2214, v2222) => ([(2, .ptr 3 0), (4, .ptr 4 0), (5, .ptr 7 0), (128, .slice 2 0 v2217.length v2217.length 2 false), (129, .int .i64 v2213), (130, .int .i64 v2214)], [.row z0 true (rowC v2215), .row z1 true (rowC v2216), .row z2 true (rowC v2217), .row true false [.slice 0 0 v2215.length v2215.length 4 false, .slice 1 0 v2216.length v2216.length 6 false, .slice 2 0 v2217.length v2217.length 2 false, .int .i64 v2218], .row true false [.slice 5 0 v2219.length v2219.length 1 false, .slice 6 0 v2220.length v2220.length 1 false], .row true true (rowC v2219), .row true true (rowC v2220), .row true false [.slice 8 0 v2221.length v2221.length 1 true, .slice 9 0 v2222.length v2222.length 1 true], .row true true (rowC v2221), .row true true (rowC v2222)])
noncomputable def q101l2_0 (z0 : Bool) (z1 : Bool) (z2 : Bool) (v2213 : Int) (v2215 : List WaterNode) (v2216 : List WaterConduit) (v2217 : List Branch) (v2218 : Int) (v2219 : List Int) (v2220 : List Int) (v2221 : List Int) : ((List Int)) → AExit × Env × Heap
  | r2246 => (.exit 4, [(4, .ptr 3 0), (5, .ptr 6 0)], [.row z0 true (rowC v2215), .row z1 true (rowC v2216), .row z2 true (rowC v2217), .row true false [.slice 4 0 v2219.length v2219.length 1 false, .slice 5 0 v2220.length v2220.length 1 false], .row true true (rowC v2219), .row true true (rowC v2220), .row true false [.slice 7 0 v2221.length v2221.length 1 true, .slice 8 0 r2246.length r2246.length 1 true], .row true true (rowC v2221), .row true true (rowC r2246)])
theorem k101l2_0 (z0 : Bool) (z1 : Bool) (z2 : Bool) (v2213 : Int) (v2215 : List WaterNode) (v2216 : List WaterConduit) (v2217 : List Branch) (v2218 : Int) (v2219 : List Int) (v2220 : List Int) (v2221 : List Int) (s : Int × (List Int)) (o : (List Int)) (h : L101l2_0 v2213 v2215 v2216 v2217 v2218 v2219 v2220 v2221 s = some o) : Ev fun n => loopAt [2, 4, 5, 128, 129, 130] [4, 5] a101l2b (ex tab n) 3 (h101l2_0 z0 z1 z2 v2213 v2215 v2216 v2217 v2218 v2219 v2220 v2221 s) = some (q101l2_0 z0 z1 z2 v2213 v2215 v2216 v2217 v2218 v2219 v2220 v2221 o) := by
  refine iter_sound (S101l2_0 v2213 v2215 v2216 v2217 v2218 v2219 v2220 v2221) [2, 4, 5, 128, 129, 130] [4, 5] a101l2b 3 (h101l2_0 z0 z1 z2 v2213 v2215 v2216 v2217 v2218 v2219 v2220 v2221) (q101l2_0 z0 z1 z2 v2213 v2215 v2216 v2217 v2218 v2219 v2220 v2221) ?_ _ _ _ h
  rintro ⟨v2214, v2222⟩ z h
  simp only [S101l2_0] at h
  by_cases c2223 : v2213 ≤ v2214
  · rw [if_pos c2223] at h
    have c2223d := dt c2223
    cases h
    refine ⟨0, fun n hn => ?_⟩
    simp (maxSteps := 2000000) only [W, reduceIte, Nat.reduceEqDiff, Nat.reduceAdd, Nat.reduceSub, Nat.reduceLT, Nat.reduceLeDiff, Nat.reduceMul, h101l2_0, q101l2_0, a101l2b, rc_Branch, rc_WaterConduit, c2223d, wd]
  · rw [if_neg c2223] at h
    have c2223d := df c2223
    obtain ⟨j2224, x2225, g2226, h⟩ := un2 h
    obtain ⟨g22261, g22262⟩ := geti_in g2226
    have g22263 := ac_Branch g22262
    try simp only [wn] at g22261
    obtain ⟨r2229, r2230, g2227, h⟩ := un2 h
    obtain ⟨N2228, kN2228⟩ := c140_0 z0 z1 z2 v2218 x2225.fconduit x2225.fnode v2215 v2216 v2217 _ _ g2227
    obtain ⟨j2231, x2232, g2233, h⟩ := un2 h
    obtain ⟨g22331, g22332⟩ := geti_in g2233
    have g22333 := ac_Int g22332
    try simp only [wn] at g22331
    obtain ⟨j2234, x2235, g2236, h⟩ := un2 h
    obtain ⟨g22361, g22362⟩ := geti_in g2236
    have g22363 := ac_WaterConduit g22362
    try simp only [wn] at g22361
    obtain ⟨j2237, x2238, g2239, h⟩ := un2 h
    obtain ⟨g22391, g22392⟩ := geti_in g2239
    have g22393 := ac_Int g22392
    try simp only [wn] at g22391
    obtain ⟨r2242, g2240, h⟩ := un1 h
    obtain ⟨N2241, kN2241⟩ := c77_0 x2235.fResist (aw .i64 (r2230 * x2238)) _ g2240
    obtain ⟨j2243, x2244, g2245, h⟩ := un2 h
    obtain ⟨g22451, g22452⟩ := geti_in g2245
    have g22453 := ac_Int g22452
    try simp only [wn] at g22451
    cases h
    refine ⟨N2228 + N2241, fun n hn => ?_⟩
    have kN2228 := kN2228 n (by omega)
    try simp (maxSteps := 2000000) only [wn, rc_Branch] at kN2228
    have kN2241 := kN2241 n (by omega)
    try simp (maxSteps := 2000000) only [wn, rc_Branch, rc_WaterConduit] at kN2241
    simp (maxSteps := 2000000) only [W, reduceIte, Nat.reduceEqDiff, Nat.reduceAdd, Nat.reduceSub, Nat.reduceLT, Nat.reduceLeDiff, Nat.reduceMul, h101l2_0, q101l2_0, a101l2b, rc_Branch, rc_WaterConduit, c2223d, g22261, g22263, kN2228, g22331, g22333, g22361, g22363, g22391, g22393, kN2241, g22451, g22453, wd]
theorem c101_0 (z0 : Bool) (z1 : Bool) (z2 : Bool) (v2027 : Int) (v2028 : Int) (v2029 : List WaterNode) (v2030 : List WaterConduit) (v2031 : List Branch) (r2259 : List Int) (r2260 : List Int) (h : F101_0 v2027 v2028 v2029 v2030 v2031 = some (r2259, r2260)) : Ev fun n => (ex tab n).call 101 [.agg [.slice 0 0 v2029.length v2029.length 4 false, .slice 1 0 v2030.length v2030.length 6 false, .slice 2 0 v2031.length v2031.length 2 false, .int .i64 v2027], .int .i64 v2028] [.row z0 true (rowC v2029), .row z1 true (rowC v2030), .row z2 true (rowC v2031)] = some (.agg [.slice 3 0 r2259.length r2259.length 1 true, .slice 4 0 r2260.length r2260.length 1 true], [.row z0 true (rowC v2029), .row z1 true (rowC v2030), .row z2 true (rowC v2031), .row true true (rowC r2259), .row true true (rowC r2260)]) := by
  unfold F101_0 at h
  obtain ⟨n2032, g2033, h⟩ := un1 h
  try simp only [wn] at g2033
  obtain ⟨g2034, h⟩ := un_roomd h
  obtain ⟨n2035, g2036, h⟩ := un1 h
  try simp only [wn] at g2036
  obtain ⟨g2037, h⟩ := un_roomd h
  obtain ⟨g2039, h⟩ := un_roomd h
  obtain ⟨r2066, r2067, g2064, h⟩ := un2 h
  have kN2065 := k101l0_0 z0 z1 z2 v2028 (v2029.length : Int) v2029 v2030 v2031 v2027 ([] : List Int) ([] : List Int) (List.replicate n2032 (0 : Int)) (0, (List.replicate n2035 (0 : Int)), (List.replicate n2035 (0 : Int))) _ g2064
  obtain ⟨N2065, kN2065⟩ := kN2065
  by_cases c2068 : 0 ≤ v2027
  · rw [if_pos c2068] at h
    have c2068d := dt c2068
    obtain ⟨j2069, x2070, g2071, h⟩ := un2 h
    obtain ⟨g20711, g20712⟩ := geti_in g2071
    have g20713 := ac_WaterConduit g20712
    try simp only [wn] at g20711
    obtain ⟨j2072, x2073, g2074, h⟩ := un2 h
    obtain ⟨g20741, g20742⟩ := geti_in g2074
    have g20743 := ac_Int g20742
    try simp only [wn] at g20741
    try simp only [wn] at g20743
    obtain ⟨j2075, x2076, g2077, h⟩ := un2 h
    obtain ⟨g20771, g20772⟩ := geti_in g2077
    have g20773 := ac_Int g20772
    try simp only [wn] at g20771
    obtain ⟨j2078, x2079, g2080, h⟩ := un2 h
    obtain ⟨g20801, g20802⟩ := geti_in g2080
    have g20803 := ac_Int g20802
    try simp only [wn] at g20801
    try simp only [wn] at g20803
    obtain ⟨_, g2082, h⟩ := un1 h
    obtain ⟨N2083, kN2083⟩ := c139_0 z2 v2031 g2082
    obtain ⟨r2211, r2212, g2209, h⟩ := un2 h
    obtain ⟨N2210, kN2210⟩ := c154_2 true z0 z1 z2 true true true true true true true v2027 v2029 v2030 v2031 ([] : List Int) ([] : List Int) ((List.replicate n2032 (0 : Int)).set j2072 v2028) r2066 ((r2067.set j2075 (aw .i64 (x2076 + v2028))).set j2078 (aw .i64 (x2079 - v2028))) _ _ g2209
    obtain ⟨r2249, g2247, h⟩ := un1 h
    have kN2248 := k101l2_0 z0 z1 z2 (v2031.length : Int) v2029 v2030 v2031 v2027 ([] : List Int) ([] : List Int) r2211 (0, r2066) _ g2247
    obtain ⟨N2248, kN2248⟩ := kN2248
    cases h
    refine ev_call (fn := a101) rfl ⟨N2065 + N2083 + N2210 + N2248, fun n hn => ?_⟩
    have kN2065 := kN2065 n (by omega)
    simp (maxSteps := 2000000) only [h101l0_0, q101l0_0, wn, rc_WaterNode] at kN2065
    have kN2083 := kN2083 n (by omega)
    try simp (maxSteps := 2000000) only [wn, rc_WaterConduit, rc_WaterNode] at kN2083
    have kN2210 := kN2210 n (by omega)
    try simp (maxSteps := 2000000) only [wn, rc_WaterConduit, rc_WaterNode] at kN2210
    have kN2248 := kN2248 n (by omega)
    simp (maxSteps := 2000000) only [h101l2_0, q101l2_0, wn, rc_Branch, rc_WaterConduit, rc_WaterNode] at kN2248
    simp (maxSteps := 2000000) only [W, reduceIte, Nat.reduceEqDiff, Nat.reduceAdd, Nat.reduceSub, Nat.reduceLT, Nat.reduceLeDiff, Nat.reduceMul, a101, a101l0, a101l2, rc_Branch, rc_WaterConduit, rc_WaterNode, g2033, g2034, g2036, g2037, g2039, kN2065, c2068d, g20711, g20713, g20741, g20743, g20771, g20773, g20801, g20803, kN2083, kN2210, kN2248, @x_loopAt, wd, wg]
  · rw [if_neg c2068] at h
    have c2068d := df c2068
    obtain ⟨_, g2250, h⟩ := un1 h
    obtain ⟨N2251, kN2251⟩ := c139_0 z2 v2031 g2250
    obtain ⟨r2254, r2255, g2252, h⟩ := un2 h
    obtain ⟨N2253, kN2253⟩ := c154_2 true z0 z1 z2 true true true true true true true v2027 v2029 v2030 v2031 ([] : List Int) ([] : List Int) (List.replicate n2032 (0 : Int)) r2066 r2067 _ _ g2252
    obtain ⟨r2258, g2256, h⟩ := un1 h
    have kN2257 := k101l2_0 z0 z1 z2 (v2031.length : Int) v2029 v2030 v2031 v2027 ([] : List Int) ([] : List Int) r2254 (0, r2066) _ g2256
    obtain ⟨N2257, kN2257⟩ := kN2257
    cases h
    refine ev_call (fn := a101) rfl ⟨N2065 + N2251 + N2253 + N2257, fun n hn => ?_⟩
    have kN2065 := kN2065 n (by omega)
    simp (maxSteps := 2000000) only [h101l0_0, q101l0_0, wn, rc_WaterNode] at kN2065
    have kN2251 := kN2251 n (by omega)
    try simp (maxSteps := 2000000) only [wn, rc_Branch, rc_WaterConduit, rc_WaterNode] at kN2251
    have kN2253 := kN2253 n (by omega)
    try simp (maxSteps := 2000000) only [wn, rc_Branch, rc_WaterConduit, rc_WaterNode] at kN2253
    have kN2257 := kN2257 n (by omega)
    simp (maxSteps := 2000000) only [h101l2_0, q101l2_0, wn, rc_Branch, rc_WaterConduit, rc_WaterNode] at kN2257
    simp (maxSteps := 2000000) only [W, reduceIte, Nat.reduceEqDiff, Nat.reduceAdd, Nat.reduceSub, Nat.reduceLT, Nat.reduceLeDiff, Nat.reduceMul, a101, a101l0, a101l2, rc_Branch, rc_WaterConduit, rc_WaterNode, g2033, g2034, g2036, g2037, g2039, kN2065, c2068d, kN2251, kN2253, kN2257, @x_loopAt, wd, wg]
end Go.AI
end
section
/-
  Functions, walked through: water.tree).gap, water.GapAt.
-/
set_option linter.unusedVariables false
set_option linter.unusedSimpArgs false
set_option maxRecDepth 100000
set_option maxHeartbeats 4000000
namespace Go.AI
theorem c102_0 (z0 : Bool) (z1 : Bool) (z2 : Bool) (v2490 : Int) (v2491 : Int) (v2492 : List WaterNode) (v2493 : List WaterConduit) (v2494 : List Branch) (r2511 : Int) (h : F102_0 v2490 v2491 v2492 v2493 v2494 = some r2511) : Ev fun n => (ex tab n).call 102 [.agg [.slice 0 0 v2492.length v2492.length 4 false, .slice 1 0 v2493.length v2493.length 6 false, .slice 2 0 v2494.length v2494.length 2 false, .int .i64 v2490], .int .i64 v2491] [.row z0 true (rowC v2492), .row z1 true (rowC v2493), .row z2 true (rowC v2494)] = some (.int .i64 r2511, [.row z0 true (rowC v2492), .row z1 true (rowC v2493), .row z2 true (rowC v2494)]) := by
  unfold F102_0 at h
  obtain ⟨j2495, x2496, g2497, h⟩ := un2 h
  obtain ⟨g24971, g24972⟩ := geti_in g2497
  have g24973 := ac_WaterConduit g24972
  try simp only [wn] at g24971
  obtain ⟨r2500, r2501, g2498, h⟩ := un2 h
  obtain ⟨N2499, kN2499⟩ := c101_0 z0 z1 z2 v2490 v2491 v2492 v2493 v2494 _ _ g2498
  obtain ⟨r2504, g2502, h⟩ := un1 h
  obtain ⟨N2503, kN2503⟩ := c77_0 x2496.fResist v2491 _ g2502
  obtain ⟨j2505, x2506, g2507, h⟩ := un2 h
  obtain ⟨g25071, g25072⟩ := geti_in g2507
  have g25073 := ac_Int g25072
  try simp only [wn] at g25071
  obtain ⟨j2508, x2509, g2510, h⟩ := un2 h
  obtain ⟨g25101, g25102⟩ := geti_in g2510
  have g25103 := ac_Int g25102
  try simp only [wn] at g25101
  cases h
  refine ev_call (fn := a102) rfl ⟨N2499 + N2503, fun n hn => ?_⟩
  have kN2499 := kN2499 n (by omega)
  try simp (maxSteps := 2000000) only [wn, rc_WaterConduit] at kN2499
  have kN2503 := kN2503 n (by omega)
  try simp (maxSteps := 2000000) only [wn, rc_WaterConduit] at kN2503
  simp (maxSteps := 2000000) only [W, reduceIte, Nat.reduceEqDiff, Nat.reduceAdd, Nat.reduceSub, Nat.reduceLT, Nat.reduceLeDiff, Nat.reduceMul, a102, rc_WaterConduit, g24971, g24973, kN2499, kN2503, g25071, g25073, g25101, g25103, wd]
theorem c42_0 (z0 : Bool) (z1 : Bool) (v2475 : Int) (v2476 : List WaterNode) (v2477 : List WaterConduit) (r2526 : Int) (r2527 : Int) (h : F42_0 v2475 v2476 v2477 = some (r2526, r2527)) : Ev fun n => (ex tab n).call 42 [.agg [.slice 0 0 v2476.length v2476.length 4 false, .slice 1 0 v2477.length v2477.length 6 false], .int .i64 v2475] [.row z0 true (rowC v2476), .row z1 true (rowC v2477)] = some (.tup [.int .i64 r2526, .int .i64 r2527], [.row z0 true (rowC v2476), .row z1 true (rowC v2477)]) := by
  unfold F42_0 at h
  obtain ⟨g2478_, g2478, h⟩ := un1 h
  rcases g2478_ with ⟨r2480, r2481, r2482⟩ | r2515
  · dsimp only at h
    obtain ⟨N2479, kN2479⟩ := c98_0 z0 z1 v2476 v2477 _ g2478
    obtain ⟨r2485, g2483, h⟩ := un1 h
    obtain ⟨N2484, kN2484⟩ := c100_0 v2475 _ g2483
    obtain ⟨r2488, g2486, h⟩ := un1 h
    obtain ⟨N2487, kN2487⟩ := c71_0 true ([r2481, r2485] : List Int) _ g2486
    by_cases c2489 : r2488 = 0
    · rw [if_pos c2489] at h
      have c2489d := dt c2489
      obtain ⟨r2514, g2512, h⟩ := un1 h
      obtain ⟨N2513, kN2513⟩ := c102_0 z0 z1 true r2480 v2475 v2476 v2477 r2482 _ g2512
      cases h
      refine ev_call (fn := a42) rfl ⟨N2479 + N2484 + N2487 + N2513, fun n hn => ?_⟩
      have kN2479 := kN2479 n (by omega)
      try simp (maxSteps := 2000000) only [wn] at kN2479
      have kN2484 := kN2484 n (by omega)
      try simp (maxSteps := 2000000) only [wn, rc_Branch, rc_WaterConduit, rc_WaterNode] at kN2484
      have kN2487 := kN2487 n (by omega)
      try simp (maxSteps := 2000000) only [wn, rc_Branch, rc_WaterConduit, rc_WaterNode] at kN2487
      have kN2513 := kN2513 n (by omega)
      try simp (maxSteps := 2000000) only [wn, rc_Branch, rc_WaterConduit, rc_WaterNode] at kN2513
      simp (maxSteps := 2000000) only [W, reduceIte, Nat.reduceEqDiff, Nat.reduceAdd, Nat.reduceSub, Nat.reduceLT, Nat.reduceLeDiff, Nat.reduceMul, a42, rc_Branch, rc_WaterConduit, rc_WaterNode, kN2479, kN2484, kN2487, c2489d, kN2513]
    · rw [if_neg c2489] at h
      have c2489d := df c2489
      cases h
      refine ev_call (fn := a42) rfl ⟨N2479 + N2484 + N2487, fun n hn => ?_⟩
      have kN2479 := kN2479 n (by omega)
      try simp (maxSteps := 2000000) only [wn] at kN2479
      have kN2484 := kN2484 n (by omega)
      try simp (maxSteps := 2000000) only [wn, rc_Branch, rc_WaterConduit, rc_WaterNode] at kN2484
      have kN2487 := kN2487 n (by omega)
      try simp (maxSteps := 2000000) only [wn, rc_Branch, rc_WaterConduit, rc_WaterNode] at kN2487
      simp (maxSteps := 2000000) only [W, reduceIte, Nat.reduceEqDiff, Nat.reduceAdd, Nat.reduceSub, Nat.reduceLT, Nat.reduceLeDiff, Nat.reduceMul, a42, rc_Branch, rc_WaterConduit, rc_WaterNode, kN2479, kN2484, kN2487, c2489d]
  · dsimp only at h
    obtain ⟨N2479, kN2479⟩ := c98_0 z0 z1 v2476 v2477 _ g2478
    obtain ⟨r2518, g2516, h⟩ := un1 h
    obtain ⟨N2517, kN2517⟩ := c100_0 v2475 _ g2516
    obtain ⟨r2521, g2519, h⟩ := un1 h
    obtain ⟨N2520, kN2520⟩ := c71_0 true ([r2515, r2518] : List Int) _ g2519
    by_cases c2522 : r2521 = 0
    · rw [if_pos c2522] at h
      have c2522d := dt c2522
      obtain ⟨r2525, g2523, h⟩ := un1 h
      obtain ⟨N2524, kN2524⟩ := c102_0 true true true 0 v2475 ([] : List WaterNode) ([] : List WaterConduit) ([] : List Branch) _ g2523
      cases h
      refine ev_call (fn := a42) rfl ⟨N2479 + N2517 + N2520 + N2524, fun n hn => ?_⟩
      have kN2479 := kN2479 n (by omega)
      try simp (maxSteps := 2000000) only [wn, rc_Branch, rc_WaterConduit, rc_WaterNode] at kN2479
      have kN2517 := kN2517 n (by omega)
      try simp (maxSteps := 2000000) only [wn, rc_Branch, rc_WaterConduit, rc_WaterNode] at kN2517
      have kN2520 := kN2520 n (by omega)
      try simp (maxSteps := 2000000) only [wn, rc_Branch, rc_WaterConduit, rc_WaterNode] at kN2520
      have kN2524 := kN2524 n (by omega)
      try simp (maxSteps := 2000000) only [wn, rc_Branch, rc_WaterConduit, rc_WaterNode] at kN2524
      simp (maxSteps := 2000000) only [W, reduceIte, Nat.reduceEqDiff, Nat.reduceAdd, Nat.reduceSub, Nat.reduceLT, Nat.reduceLeDiff, Nat.reduceMul, a42, rc_Branch, rc_WaterConduit, rc_WaterNode, kN2479, kN2517, kN2520, c2522d, kN2524]
    · rw [if_neg c2522] at h
      have c2522d := df c2522
      cases h
      refine ev_call (fn := a42) rfl ⟨N2479 + N2517 + N2520, fun n hn => ?_⟩
      have kN2479 := kN2479 n (by omega)
      try simp (maxSteps := 2000000) only [wn, rc_Branch, rc_WaterConduit, rc_WaterNode] at kN2479
      have kN2517 := kN2517 n (by omega)
      try simp (maxSteps := 2000000) only [wn, rc_Branch, rc_WaterConduit, rc_WaterNode] at kN2517
      have kN2520 := kN2520 n (by omega)
      try simp (maxSteps := 2000000) only [wn, rc_Branch, rc_WaterConduit, rc_WaterNode] at kN2520
      simp (maxSteps := 2000000) only [W, reduceIte, Nat.reduceEqDiff, Nat.reduceAdd, Nat.reduceSub, Nat.reduceLT, Nat.reduceLeDiff, Nat.reduceMul, a42, rc_Branch, rc_WaterConduit, rc_WaterNode, kN2479, kN2517, kN2520, c2522d]
end Go.AI
end
section
/-
  Functions, walked through: water.tree).isFlat, water.openFlowing, water.tree).circulation$1, water.least, water.tree).circulation, water.CirculationOf, water.tree).proves.
-/
set_option linter.unusedVariables false
set_option linter.unusedSimpArgs false
set_option maxRecDepth 100000
set_option maxHeartbeats 4000000
namespace Go.AI
theorem c108_0 (z0 : Bool) (z1 : Bool) (z2 : Bool) (v3138 : Int) (v3139 : List WaterNode) (v3140 : List WaterConduit) (v3141 : List Branch) (r3149 : Bool) (h : F108_0 v3138 v3139 v3140 v3141 = some r3149) : Ev fun n => (ex tab n).call 108 [.agg [.slice 0 0 v3139.length v3139.length 4 false, .slice 1 0 v3140.length v3140.length 6 false, .slice 2 0 v3141.length v3141.length 2 false, .int .i64 v3138]] [.row z0 true (rowC v3139), .row z1 true (rowC v3140), .row z2 true (rowC v3141)] = some (.bool r3149, [.row z0 true (rowC v3139), .row z1 true (rowC v3140), .row z2 true (rowC v3141)]) := by
  unfold F108_0 at h
  by_cases c3142 : 0 ≤ v3138
  · rw [if_pos c3142] at h
    have c3142d := dt c3142
    obtain ⟨r3145, g3143, h⟩ := un1 h
    obtain ⟨N3144, kN3144⟩ := c102_0 false false false v3138 (-200000) v3139 v3140 v3141 _ g3143
    obtain ⟨r3148, g3146, h⟩ := un1 h
    obtain ⟨N3147, kN3147⟩ := c102_0 z0 z1 z2 v3138 200000 v3139 v3140 v3141 _ g3146
    cases h
    refine ev_call (fn := a108) rfl ⟨N3144 + N3147, fun n hn => ?_⟩
    have kN3144 := kN3144 n (by omega)
    try simp (maxSteps := 2000000) only [wn] at kN3144
    have kN3147 := kN3147 n (by omega)
    try simp (maxSteps := 2000000) only [wn] at kN3147
    simp (maxSteps := 2000000) only [W, reduceIte, Nat.reduceEqDiff, Nat.reduceAdd, Nat.reduceSub, Nat.reduceLT, Nat.reduceLeDiff, Nat.reduceMul, a108, c3142d, kN3144, kN3147, wd]
  · rw [if_neg c3142] at h
    have c3142d := df c3142
    cases h
    refine ev_call (fn := a108) rfl ⟨0, fun n hn => ?_⟩
    simp (maxSteps := 2000000) only [W, reduceIte, Nat.reduceEqDiff, Nat.reduceAdd, Nat.reduceSub, Nat.reduceLT, Nat.reduceLeDiff, Nat.reduceMul, a108, c3142d, wd]
theorem c106_0 (z0 : Bool) (z1 : Bool) (v3130 : List WaterNode) (v3131 : List WaterConduit) (r : (Int × Int × (List Branch)) ⊕ (Int)) (h : F106_0 v3130 v3131 = some r) : match r with
    | .inl (r3164, r3165, r3166) => Ev fun n => (ex tab n).call 106 [.agg [.slice 0 0 v3130.length v3130.length 4 false, .slice 1 0 v3131.length v3131.length 6 false]] [.row z0 true (rowC v3130), .row z1 true (rowC v3131)] = some (.tup [.agg [.slice 0 0 v3130.length v3130.length 4 false, .slice 1 0 v3131.length v3131.length 6 false, .slice 2 0 r3166.length r3166.length 2 false, .int .i64 r3164], .int .i64 r3165], [.row z0 true (rowC v3130), .row z1 true (rowC v3131), .row true true (rowC r3166)])
    | .inr (r3167) => Ev fun n => (ex tab n).call 106 [.agg [.slice 0 0 v3130.length v3130.length 4 false, .slice 1 0 v3131.length v3131.length 6 false]] [.row z0 true (rowC v3130), .row z1 true (rowC v3131)] = some (.tup [.agg [.slice 2 0 0 0 4 false, .slice 3 0 0 0 6 false, .slice 4 0 0 0 2 false, .int .i64 0], .int .i64 r3167], [.row z0 true (rowC v3130), .row z1 true (rowC v3131), .row true true [], .row true true [], .row true true []]) := by
  unfold F106_0 at h
  obtain ⟨g3132_, g3132, h⟩ := un1 h
  rcases g3132_ with ⟨r3134, r3135, r3136⟩ | r3156
  · dsimp only at h
    obtain ⟨N3133, kN3133⟩ := c99_0 z0 z1 v3130 v3131 _ g3132
    by_cases c3137 : r3135 = 0
    · rw [if_pos c3137] at h
      have c3137d := dt c3137
      obtain ⟨r3152, g3150, h⟩ := un1 h
      obtain ⟨N3151, kN3151⟩ := c108_0 false false false r3134 v3130 v3131 r3136 _ g3150
      obtain ⟨r3155, g3153, h⟩ := un1 h
      obtain ⟨N3154, kN3154⟩ := c72_0 (!r3152) 11 _ g3153
      cases h
      refine ev_call (fn := a106) rfl ⟨N3133 + N3151 + N3154, fun n hn => ?_⟩
      have kN3133 := kN3133 n (by omega)
      try simp (maxSteps := 2000000) only [wn, rc_Branch, rc_WaterConduit, rc_WaterNode] at kN3133
      have kN3151 := kN3151 n (by omega)
      try simp (maxSteps := 2000000) only [wn, rc_Branch, rc_WaterConduit, rc_WaterNode] at kN3151
      have kN3154 := kN3154 n (by omega)
      try simp (maxSteps := 2000000) only [wn, rc_Branch, rc_WaterConduit, rc_WaterNode] at kN3154
      simp (maxSteps := 2000000) only [W, reduceIte, Nat.reduceEqDiff, Nat.reduceAdd, Nat.reduceSub, Nat.reduceLT, Nat.reduceLeDiff, Nat.reduceMul, a106, rc_Branch, rc_WaterConduit, rc_WaterNode, kN3133, c3137d, kN3151, kN3154, wd]
    · rw [if_neg c3137] at h
      have c3137d := df c3137
      cases h
      refine ev_call (fn := a106) rfl ⟨N3133, fun n hn => ?_⟩
      have kN3133 := kN3133 n (by omega)
      try simp (maxSteps := 2000000) only [wn, rc_Branch, rc_WaterConduit, rc_WaterNode] at kN3133
      simp (maxSteps := 2000000) only [W, reduceIte, Nat.reduceEqDiff, Nat.reduceAdd, Nat.reduceSub, Nat.reduceLT, Nat.reduceLeDiff, Nat.reduceMul, a106, rc_Branch, rc_WaterConduit, rc_WaterNode, kN3133, c3137d, wd]
  · dsimp only at h
    obtain ⟨N3133, kN3133⟩ := c99_0 z0 z1 v3130 v3131 _ g3132
    by_cases c3157 : r3156 = 0
    · rw [if_pos c3157] at h
      have c3157d := dt c3157
      obtain ⟨r3160, g3158, h⟩ := un1 h
      obtain ⟨N3159, kN3159⟩ := c108_0 false false false 0 ([] : List WaterNode) ([] : List WaterConduit) ([] : List Branch) _ g3158
      obtain ⟨r3163, g3161, h⟩ := un1 h
      obtain ⟨N3162, kN3162⟩ := c72_0 (!r3160) 11 _ g3161
      cases h
      refine ev_call (fn := a106) rfl ⟨N3133 + N3159 + N3162, fun n hn => ?_⟩
      have kN3133 := kN3133 n (by omega)
      try simp (maxSteps := 2000000) only [wn, rc_Branch, rc_WaterConduit, rc_WaterNode] at kN3133
      have kN3159 := kN3159 n (by omega)
      try simp (maxSteps := 2000000) only [wn, rc_Branch, rc_WaterConduit, rc_WaterNode] at kN3159
      have kN3162 := kN3162 n (by omega)
      try simp (maxSteps := 2000000) only [wn, rc_Branch, rc_WaterConduit, rc_WaterNode] at kN3162
      simp (maxSteps := 2000000) only [W, reduceIte, Nat.reduceEqDiff, Nat.reduceAdd, Nat.reduceSub, Nat.reduceLT, Nat.reduceLeDiff, Nat.reduceMul, a106, rc_Branch, rc_WaterConduit, rc_WaterNode, kN3133, c3157d, kN3159, kN3162, wd]
    · rw [if_neg c3157] at h
      have c3157d := df c3157
      cases h
      refine ev_call (fn := a106) rfl ⟨N3133, fun n hn => ?_⟩
      have kN3133 := kN3133 n (by omega)
      try simp (maxSteps := 2000000) only [wn, rc_Branch, rc_WaterConduit, rc_WaterNode] at kN3133
      simp (maxSteps := 2000000) only [W, reduceIte, Nat.reduceEqDiff, Nat.reduceAdd, Nat.reduceSub, Nat.reduceLT, Nat.reduceLeDiff, Nat.reduceMul, a106, rc_Branch, rc_WaterConduit, rc_WaterNode, kN3133, c3157d, wd]
theorem c141_0 (z0 : Bool) (z1 : Bool) (z2 : Bool) (z3 : Bool) (v3193 : Int) (v3194 : Int) (v3195 : List WaterNode) (v3196 : List WaterConduit) (v3197 : List Branch) (r3201 : Bool) (h : F141_0 v3193 v3194 v3195 v3196 v3197 = some r3201) : Ev fun n => (ex tab n).call 141 [.int .i64 v3193, .ptr 0 0] [.row z0 false [.slice 1 0 v3195.length v3195.length 4 false, .slice 2 0 v3196.length v3196.length 6 false, .slice 3 0 v3197.length v3197.length 2 false, .int .i64 v3194], .row z1 true (rowC v3195), .row z2 true (rowC v3196), .row z3 true (rowC v3197)] = some (.bool r3201, [.row z0 false [.slice 1 0 v3195.length v3195.length 4 false, .slice 2 0 v3196.length v3196.length 6 false, .slice 3 0 v3197.length v3197.length 2 false, .int .i64 v3194], .row z1 true (rowC v3195), .row z2 true (rowC v3196), .row z3 true (rowC v3197)]) := by
  unfold F141_0 at h
  obtain ⟨r3200, g3198, h⟩ := un1 h
  obtain ⟨N3199, kN3199⟩ := c102_0 z1 z2 z3 v3194 v3193 v3195 v3196 v3197 _ g3198
  cases h
  refine ev_call (fn := a141) rfl ⟨N3199, fun n hn => ?_⟩
  have kN3199 := kN3199 n (by omega)
  try simp (maxSteps := 2000000) only [wn] at kN3199
  simp (maxSteps := 2000000) only [W, reduceIte, Nat.reduceEqDiff, Nat.reduceAdd, Nat.reduceSub, Nat.reduceLT, Nat.reduceLeDiff, Nat.reduceMul, a141, kN3199]
noncomputable def h84l0_3 (z0 : Bool) (z1 : Bool) (z2 : Bool) (z3 : Bool) (v3187 : Int) (v3188 : List WaterNode) (v3189 : List WaterConduit) (v3190 : List Branch) : (Int × Int) → Env × Heap
  | (v3185, v3186) => ([(0, .int .i64 v3185), (1, .int .i64 v3186), (2, .func 141 [] [.ptr 0 0])], [.row z0 false [.slice 1 0 v3188.length v3188.length 4 false, .slice 2 0 v3189.length v3189.length 6 false, .slice 3 0 v3190.length v3190.length 2 false, .int .i64 v3187], .row z1 true (rowC v3188), .row z2 true (rowC v3189), .row z3 true (rowC v3190)])
noncomputable def q84l0_3 (z0 : Bool) (z1 : Bool) (z2 : Bool) (z3 : Bool) (v3187 : Int) (v3188 : List WaterNode) (v3189 : List WaterConduit) (v3190 : List Branch) : (Int) → AExit × Env × Heap
  | r3206 => (.exit 0, [(0, .int .i64 r3206), (6, .undef)], [.row z0 false [.slice 1 0 v3188.length v3188.length 4 false, .slice 2 0 v3189.length v3189.length 6 false, .slice 3 0 v3190.length v3190.length 2 false, .int .i64 v3187], .row z1 true (rowC v3188), .row z2 true (rowC v3189), .row z3 true (rowC v3190)])
theorem k84l0_3 (z0 : Bool) (z1 : Bool) (z2 : Bool) (z3 : Bool) (v3187 : Int) (v3188 : List WaterNode) (v3189 : List WaterConduit) (v3190 : List Branch) (s : Int × Int) (o : Int) (h : L84l0_3 v3187 v3188 v3189 v3190 s = some o) : Ev fun n => loopAt [0, 1, 2] [0, 6] a84l0b (ex tab n) 4 (h84l0_3 z0 z1 z2 z3 v3187 v3188 v3189 v3190 s) = some (q84l0_3 z0 z1 z2 z3 v3187 v3188 v3189 v3190 o) := by
  refine iter_sound (S84l0_3 v3187 v3188 v3189 v3190) [0, 1, 2] [0, 6] a84l0b 4 (h84l0_3 z0 z1 z2 z3 v3187 v3188 v3189 v3190) (q84l0_3 z0 z1 z2 z3 v3187 v3188 v3189 v3190) ?_ _ _ _ h
  rintro ⟨v3185, v3186⟩ z h
  simp only [S84l0_3] at h
  by_cases c3191 : v3186 ≤ v3185
  · rw [if_pos c3191] at h
    have c3191d := dt c3191
    cases h
    refine ⟨0, fun n hn => ?_⟩
    simp (maxSteps := 2000000) only [W, reduceIte, Nat.reduceEqDiff, Nat.reduceAdd, Nat.reduceSub, Nat.reduceLT, Nat.reduceLeDiff, Nat.reduceMul, h84l0_3, q84l0_3, a84l0b, c3191d]
  · rw [if_neg c3191] at h
    have c3191d := df c3191
    have d3192 := fun x => bin_quo .i64 x 2 (by decide)
    obtain ⟨r3204, g3202, h⟩ := un1 h
    obtain ⟨N3203, kN3203⟩ := c141_0 z0 z1 z2 z3 (aw .i64 (v3185 + (aw .i64 (Int.tdiv (aw .i64 (v3186 - v3185)) 2)))) v3187 v3188 v3189 v3190 _ g3202
    by_cases c3205 : r3204 = true
    · rw [if_pos c3205] at h
      have c3205d := c3205
      cases h
      refine ⟨N3203, fun n hn => ?_⟩
      have kN3203 := kN3203 n (by omega)
      try simp (maxSteps := 2000000) only [wn] at kN3203
      simp (maxSteps := 2000000) only [W, reduceIte, Nat.reduceEqDiff, Nat.reduceAdd, Nat.reduceSub, Nat.reduceLT, Nat.reduceLeDiff, Nat.reduceMul, h84l0_3, q84l0_3, a84l0b, c3191d, d3192, kN3203, c3205d]
    · rw [if_neg c3205] at h
      have c3205d := bf c3205
      cases h
      refine ⟨N3203, fun n hn => ?_⟩
      have kN3203 := kN3203 n (by omega)
      try simp (maxSteps := 2000000) only [wn] at kN3203
      simp (maxSteps := 2000000) only [W, reduceIte, Nat.reduceEqDiff, Nat.reduceAdd, Nat.reduceSub, Nat.reduceLT, Nat.reduceLeDiff, Nat.reduceMul, h84l0_3, q84l0_3, a84l0b, c3191d, d3192, kN3203, c3205d]
theorem c84_3 (z0 : Bool) (z1 : Bool) (z2 : Bool) (z3 : Bool) (v3179 : Int) (v3180 : Int) (v3181 : Int) (v3182 : List WaterNode) (v3183 : List WaterConduit) (v3184 : List Branch) (r3210 : Int) (h : F84_3 v3179 v3180 v3181 v3182 v3183 v3184 = some r3210) : Ev fun n => (ex tab n).call 84 [.int .i64 v3179, .int .i64 v3180, .func 141 [] [.ptr 0 0]] [.row z0 false [.slice 1 0 v3182.length v3182.length 4 false, .slice 2 0 v3183.length v3183.length 6 false, .slice 3 0 v3184.length v3184.length 2 false, .int .i64 v3181], .row z1 true (rowC v3182), .row z2 true (rowC v3183), .row z3 true (rowC v3184)] = some (.int .i64 r3210, [.row z0 false [.slice 1 0 v3182.length v3182.length 4 false, .slice 2 0 v3183.length v3183.length 6 false, .slice 3 0 v3184.length v3184.length 2 false, .int .i64 v3181], .row z1 true (rowC v3182), .row z2 true (rowC v3183), .row z3 true (rowC v3184)]) := by
  unfold F84_3 at h
  obtain ⟨r3209, g3207, h⟩ := un1 h
  have kN3208 := k84l0_3 z0 z1 z2 z3 v3181 v3182 v3183 v3184 (v3179, v3180) _ g3207
  obtain ⟨N3208, kN3208⟩ := kN3208
  cases h
  refine ev_call (fn := a84) rfl ⟨N3208, fun n hn => ?_⟩
  have kN3208 := kN3208 n (by omega)
  simp (maxSteps := 2000000) only [h84l0_3, q84l0_3, wn] at kN3208
  simp (maxSteps := 2000000) only [W, reduceIte, Nat.reduceEqDiff, Nat.reduceAdd, Nat.reduceSub, Nat.reduceLT, Nat.reduceLeDiff, Nat.reduceMul, a84, a84l0, kN3208, @x_loopAt]
theorem c107_0 (z0 : Bool) (z1 : Bool) (z2 : Bool) (v3174 : Int) (v3175 : List WaterNode) (v3176 : List WaterConduit) (v3177 : List Branch) (r3218 : Int) (r3219 : Int) (h : F107_0 v3174 v3175 v3176 v3177 = some (r3218, r3219)) : Ev fun n => (ex tab n).call 107 [.agg [.slice 0 0 v3175.length v3175.length 4 false, .slice 1 0 v3176.length v3176.length 6 false, .slice 2 0 v3177.length v3177.length 2 false, .int .i64 v3174]] [.row z0 true (rowC v3175), .row z1 true (rowC v3176), .row z2 true (rowC v3177)] = some (.agg [.int .i64 r3218, .int .i64 r3219], [.row z0 true (rowC v3175), .row z1 true (rowC v3176), .row z2 true (rowC v3177)]) := by
  unfold F107_0 at h
  by_cases c3178 : 0 ≤ v3174
  · rw [if_pos c3178] at h
    have c3178d := dt c3178
    obtain ⟨r3213, g3211, h⟩ := un1 h
    obtain ⟨N3212, kN3212⟩ := c84_3 true z0 z1 z2 (-200000) 200000 v3174 v3175 v3176 v3177 _ g3211
    obtain ⟨r3216, g3214, h⟩ := un1 h
    obtain ⟨N3215, kN3215⟩ := c102_0 z0 z1 z2 v3174 r3213 v3175 v3176 v3177 _ g3214
    by_cases c3217 : r3216 = 0
    · rw [if_pos c3217] at h
      have c3217d := dt c3217
      cases h
      refine ev_call (fn := a107) rfl ⟨N3212 + N3215, fun n hn => ?_⟩
      have kN3212 := kN3212 n (by omega)
      try simp (maxSteps := 2000000) only [wn] at kN3212
      have kN3215 := kN3215 n (by omega)
      try simp (maxSteps := 2000000) only [wn] at kN3215
      simp (maxSteps := 2000000) only [W, reduceIte, Nat.reduceEqDiff, Nat.reduceAdd, Nat.reduceSub, Nat.reduceLT, Nat.reduceLeDiff, Nat.reduceMul, a107, c3178d, kN3212, kN3215, c3217d]
    · rw [if_neg c3217] at h
      have c3217d := df c3217
      cases h
      refine ev_call (fn := a107) rfl ⟨N3212 + N3215, fun n hn => ?_⟩
      have kN3212 := kN3212 n (by omega)
      try simp (maxSteps := 2000000) only [wn] at kN3212
      have kN3215 := kN3215 n (by omega)
      try simp (maxSteps := 2000000) only [wn] at kN3215
      simp (maxSteps := 2000000) only [W, reduceIte, Nat.reduceEqDiff, Nat.reduceAdd, Nat.reduceSub, Nat.reduceLT, Nat.reduceLeDiff, Nat.reduceMul, a107, c3178d, kN3212, kN3215, c3217d]
  · rw [if_neg c3178] at h
    have c3178d := df c3178
    cases h
    refine ev_call (fn := a107) rfl ⟨0, fun n hn => ?_⟩
    simp (maxSteps := 2000000) only [W, reduceIte, Nat.reduceEqDiff, Nat.reduceAdd, Nat.reduceSub, Nat.reduceLT, Nat.reduceLeDiff, Nat.reduceMul, a107, c3178d]
theorem c48_0 (z0 : Bool) (z1 : Bool) (v3128 : List WaterNode) (v3129 : List WaterConduit) (r3230 : Int) (r3231 : Int) (r3232 : Int) (h : F48_0 v3128 v3129 = some (r3230, r3231, r3232)) : Ev fun n => (ex tab n).call 48 [.agg [.slice 0 0 v3128.length v3128.length 4 false, .slice 1 0 v3129.length v3129.length 6 false]] [.row z0 true (rowC v3128), .row z1 true (rowC v3129)] = some (.tup [.agg [.int .i64 r3230, .int .i64 r3231], .int .i64 r3232], [.row z0 true (rowC v3128), .row z1 true (rowC v3129)]) := by
  unfold F48_0 at h
  obtain ⟨g3168_, g3168, h⟩ := un1 h
  rcases g3168_ with ⟨r3170, r3171, r3172⟩ | r3224
  · dsimp only at h
    obtain ⟨N3169, kN3169⟩ := c106_0 z0 z1 v3128 v3129 _ g3168
    by_cases c3173 : r3171 = 0
    · rw [if_pos c3173] at h
      have c3173d := dt c3173
      obtain ⟨r3222, r3223, g3220, h⟩ := un2 h
      obtain ⟨N3221, kN3221⟩ := c107_0 z0 z1 true r3170 v3128 v3129 r3172 _ _ g3220
      cases h
      refine ev_call (fn := a48) rfl ⟨N3169 + N3221, fun n hn => ?_⟩
      have kN3169 := kN3169 n (by omega)
      try simp (maxSteps := 2000000) only [wn] at kN3169
      have kN3221 := kN3221 n (by omega)
      try simp (maxSteps := 2000000) only [wn, rc_Branch, rc_WaterConduit, rc_WaterNode] at kN3221
      simp (maxSteps := 2000000) only [W, reduceIte, Nat.reduceEqDiff, Nat.reduceAdd, Nat.reduceSub, Nat.reduceLT, Nat.reduceLeDiff, Nat.reduceMul, a48, rc_Branch, rc_WaterConduit, rc_WaterNode, kN3169, c3173d, kN3221]
    · rw [if_neg c3173] at h
      have c3173d := df c3173
      cases h
      refine ev_call (fn := a48) rfl ⟨N3169, fun n hn => ?_⟩
      have kN3169 := kN3169 n (by omega)
      try simp (maxSteps := 2000000) only [wn] at kN3169
      simp (maxSteps := 2000000) only [W, reduceIte, Nat.reduceEqDiff, Nat.reduceAdd, Nat.reduceSub, Nat.reduceLT, Nat.reduceLeDiff, Nat.reduceMul, a48, rc_Branch, rc_WaterConduit, rc_WaterNode, kN3169, c3173d]
  · dsimp only at h
    obtain ⟨N3169, kN3169⟩ := c106_0 z0 z1 v3128 v3129 _ g3168
    by_cases c3225 : r3224 = 0
    · rw [if_pos c3225] at h
      have c3225d := dt c3225
      obtain ⟨r3228, r3229, g3226, h⟩ := un2 h
      obtain ⟨N3227, kN3227⟩ := c107_0 true true true 0 ([] : List WaterNode) ([] : List WaterConduit) ([] : List Branch) _ _ g3226
      cases h
      refine ev_call (fn := a48) rfl ⟨N3169 + N3227, fun n hn => ?_⟩
      have kN3169 := kN3169 n (by omega)
      try simp (maxSteps := 2000000) only [wn, rc_Branch, rc_WaterConduit, rc_WaterNode] at kN3169
      have kN3227 := kN3227 n (by omega)
      try simp (maxSteps := 2000000) only [wn, rc_Branch, rc_WaterConduit, rc_WaterNode] at kN3227
      simp (maxSteps := 2000000) only [W, reduceIte, Nat.reduceEqDiff, Nat.reduceAdd, Nat.reduceSub, Nat.reduceLT, Nat.reduceLeDiff, Nat.reduceMul, a48, rc_Branch, rc_WaterConduit, rc_WaterNode, kN3169, c3225d, kN3227]
    · rw [if_neg c3225] at h
      have c3225d := df c3225
      cases h
      refine ev_call (fn := a48) rfl ⟨N3169, fun n hn => ?_⟩
      have kN3169 := kN3169 n (by omega)
      try simp (maxSteps := 2000000) only [wn, rc_Branch, rc_WaterConduit, rc_WaterNode] at kN3169
      simp (maxSteps := 2000000) only [W, reduceIte, Nat.reduceEqDiff, Nat.reduceAdd, Nat.reduceSub, Nat.reduceLT, Nat.reduceLeDiff, Nat.reduceMul, a48, rc_Branch, rc_WaterConduit, rc_WaterNode, kN3169, c3225d]
theorem c109_0 (z0 : Bool) (z1 : Bool) (z2 : Bool) (v3268 : Int) (v3269 : Int) (v3270 : Int) (v3271 : List WaterNode) (v3272 : List WaterConduit) (v3273 : List Branch) (r3287 : Bool) (h : F109_0 v3268 v3269 v3270 v3271 v3272 v3273 = some r3287) : Ev fun n => (ex tab n).call 109 [.agg [.slice 0 0 v3271.length v3271.length 4 false, .slice 1 0 v3272.length v3272.length 6 false, .slice 2 0 v3273.length v3273.length 2 false, .int .i64 v3268], .agg [.int .i64 v3269, .int .i64 v3270]] [.row z0 true (rowC v3271), .row z1 true (rowC v3272), .row z2 true (rowC v3273)] = some (.bool r3287, [.row z0 true (rowC v3271), .row z1 true (rowC v3272), .row z2 true (rowC v3273)]) := by
  unfold F109_0 at h
  by_cases c3274 : 0 ≤ v3268
  · rw [if_pos c3274] at h
    have c3274d := dt c3274
    by_cases c3275 : v3269 = v3270
    · rw [if_pos c3275] at h
      have c3275d := dt c3275
      obtain ⟨r3278, g3276, h⟩ := un1 h
      obtain ⟨N3277, kN3277⟩ := c102_0 z0 z1 z2 v3268 v3269 v3271 v3272 v3273 _ g3276
      cases h
      refine ev_call (fn := a109) rfl ⟨N3277, fun n hn => ?_⟩
      have kN3277 := kN3277 n (by omega)
      try simp (maxSteps := 2000000) only [wn] at kN3277
      simp (maxSteps := 2000000) only [W, reduceIte, Nat.reduceEqDiff, Nat.reduceAdd, Nat.reduceSub, Nat.reduceLT, Nat.reduceLeDiff, Nat.reduceMul, a109, c3274d, c3275d, kN3277]
    · rw [if_neg c3275] at h
      have c3275d := df c3275
      by_cases c3279 : v3270 = (aw .i64 (v3269 + 1))
      · rw [if_pos c3279] at h
        have c3279d := dt c3279
        obtain ⟨r3282, g3280, h⟩ := un1 h
        obtain ⟨N3281, kN3281⟩ := c102_0 z0 z1 z2 v3268 v3269 v3271 v3272 v3273 _ g3280
        by_cases c3283 : 0 ≤ r3282
        · rw [if_pos c3283] at h
          have c3283d := dt c3283
          cases h
          refine ev_call (fn := a109) rfl ⟨N3281, fun n hn => ?_⟩
          have kN3281 := kN3281 n (by omega)
          try simp (maxSteps := 2000000) only [wn] at kN3281
          simp (maxSteps := 2000000) only [W, reduceIte, Nat.reduceEqDiff, Nat.reduceAdd, Nat.reduceSub, Nat.reduceLT, Nat.reduceLeDiff, Nat.reduceMul, a109, c3274d, c3275d, c3279d, kN3281, c3283d]
        · rw [if_neg c3283] at h
          have c3283d := df c3283
          obtain ⟨r3286, g3284, h⟩ := un1 h
          obtain ⟨N3285, kN3285⟩ := c102_0 z0 z1 z2 v3268 v3270 v3271 v3272 v3273 _ g3284
          cases h
          refine ev_call (fn := a109) rfl ⟨N3281 + N3285, fun n hn => ?_⟩
          have kN3281 := kN3281 n (by omega)
          try simp (maxSteps := 2000000) only [wn] at kN3281
          have kN3285 := kN3285 n (by omega)
          try simp (maxSteps := 2000000) only [wn] at kN3285
          simp (maxSteps := 2000000) only [W, reduceIte, Nat.reduceEqDiff, Nat.reduceAdd, Nat.reduceSub, Nat.reduceLT, Nat.reduceLeDiff, Nat.reduceMul, a109, c3274d, c3275d, c3279d, kN3281, c3283d, kN3285]
      · rw [if_neg c3279] at h
        have c3279d := df c3279
        cases h
        refine ev_call (fn := a109) rfl ⟨0, fun n hn => ?_⟩
        simp (maxSteps := 2000000) only [W, reduceIte, Nat.reduceEqDiff, Nat.reduceAdd, Nat.reduceSub, Nat.reduceLT, Nat.reduceLeDiff, Nat.reduceMul, a109, c3274d, c3275d, c3279d]
  · rw [if_neg c3274] at h
    have c3274d := df c3274
    cases h
    refine ev_call (fn := a109) rfl ⟨0, fun n hn => ?_⟩
    simp (maxSteps := 2000000) only [W, reduceIte, Nat.reduceEqDiff, Nat.reduceAdd, Nat.reduceSub, Nat.reduceLT, Nat.reduceLeDiff, Nat.reduceMul, a109, c3274d]
end Go.AI
end
section
/-
  Functions, walked through: water.CheckCirculation, water.ranges, water.tree).steady, water.SteadyOf, guidevaneref02.at.
-/
set_option linter.unusedVariables false
set_option linter.unusedSimpArgs false
set_option maxRecDepth 100000
set_option maxHeartbeats 4000000
namespace Go.AI
theorem c49_0 (z0 : Bool) (z1 : Bool) (v3240 : Int) (v3241 : Int) (v3242 : List WaterNode) (v3243 : List WaterConduit) (r3326 : Int) (h : F49_0 v3240 v3241 v3242 v3243 = some r3326) : Ev fun n => (ex tab n).call 49 [.agg [.slice 0 0 v3242.length v3242.length 4 false, .slice 1 0 v3243.length v3243.length 6 false], .agg [.int .i64 v3240, .int .i64 v3241]] [.row z0 true (rowC v3242), .row z1 true (rowC v3243)] = some (.int .i64 r3326, [.row z0 true (rowC v3242), .row z1 true (rowC v3243)]) := by
  unfold F49_0 at h
  obtain ⟨g3244_, g3244, h⟩ := un1 h
  rcases g3244_ with ⟨r3246, r3247, r3248⟩ | r3297
  · dsimp only at h
    obtain ⟨N3245, kN3245⟩ := c99_0 z0 z1 v3242 v3243 _ g3244
    obtain ⟨r3251, g3249, h⟩ := un1 h
    obtain ⟨N3250, kN3250⟩ := c100_0 v3240 _ g3249
    obtain ⟨r3254, g3252, h⟩ := un1 h
    obtain ⟨N3253, kN3253⟩ := c100_0 v3241 _ g3252
    obtain ⟨r3257, g3255, h⟩ := un1 h
    obtain ⟨N3256, kN3256⟩ := c72_0 (decide (v3240 ≤ v3241)) 9 _ g3255
    obtain ⟨r3260, g3258, h⟩ := un1 h
    obtain ⟨N3259, kN3259⟩ := c71_0 true ([r3247, r3251, r3254, r3257] : List Int) _ g3258
    by_cases c3261 : r3260 = 0
    · rw [if_pos c3261] at h
      have c3261d := dt c3261
      obtain ⟨r3264, g3262, h⟩ := un1 h
      obtain ⟨N3263, kN3263⟩ := c108_0 false false false r3246 v3242 v3243 r3248 _ g3262
      obtain ⟨r3267, g3265, h⟩ := un1 h
      obtain ⟨N3266, kN3266⟩ := c72_0 (!r3264) 11 _ g3265
      obtain ⟨r3290, g3288, h⟩ := un1 h
      obtain ⟨N3289, kN3289⟩ := c109_0 z0 z1 true r3246 v3240 v3241 v3242 v3243 r3248 _ g3288
      obtain ⟨r3293, g3291, h⟩ := un1 h
      obtain ⟨N3292, kN3292⟩ := c72_0 r3290 19 _ g3291
      obtain ⟨r3296, g3294, h⟩ := un1 h
      obtain ⟨N3295, kN3295⟩ := c71_0 true ([r3267, r3293] : List Int) _ g3294
      cases h
      refine ev_call (fn := a49) rfl ⟨N3245 + N3250 + N3253 + N3256 + N3259 + N3263 + N3266 + N3289 + N3292 + N3295, fun n hn => ?_⟩
      have kN3245 := kN3245 n (by omega)
      try simp (maxSteps := 2000000) only [wn] at kN3245
      have kN3250 := kN3250 n (by omega)
      try simp (maxSteps := 2000000) only [wn, rc_Branch, rc_WaterConduit, rc_WaterNode] at kN3250
      have kN3253 := kN3253 n (by omega)
      try simp (maxSteps := 2000000) only [wn, rc_Branch, rc_WaterConduit, rc_WaterNode] at kN3253
      have kN3256 := kN3256 n (by omega)
      try simp (maxSteps := 2000000) only [wn, rc_Branch, rc_WaterConduit, rc_WaterNode] at kN3256
      have kN3259 := kN3259 n (by omega)
      try simp (maxSteps := 2000000) only [wn, rc_Branch, rc_WaterConduit, rc_WaterNode] at kN3259
      have kN3263 := kN3263 n (by omega)
      try simp (maxSteps := 2000000) only [wn, rc_Branch, rc_WaterConduit, rc_WaterNode] at kN3263
      have kN3266 := kN3266 n (by omega)
      try simp (maxSteps := 2000000) only [wn, rc_Branch, rc_WaterConduit, rc_WaterNode] at kN3266
      have kN3289 := kN3289 n (by omega)
      try simp (maxSteps := 2000000) only [wn, rc_Branch, rc_WaterConduit, rc_WaterNode] at kN3289
      have kN3292 := kN3292 n (by omega)
      try simp (maxSteps := 2000000) only [wn, rc_Branch, rc_WaterConduit, rc_WaterNode] at kN3292
      have kN3295 := kN3295 n (by omega)
      try simp (maxSteps := 2000000) only [wn, rc_Branch, rc_WaterConduit, rc_WaterNode] at kN3295
      simp (maxSteps := 2000000) only [W, reduceIte, Nat.reduceEqDiff, Nat.reduceAdd, Nat.reduceSub, Nat.reduceLT, Nat.reduceLeDiff, Nat.reduceMul, a49, rc_Branch, rc_WaterConduit, rc_WaterNode, kN3245, kN3250, kN3253, kN3256, kN3259, c3261d, kN3263, kN3266, kN3289, kN3292, kN3295, wd]
    · rw [if_neg c3261] at h
      have c3261d := df c3261
      cases h
      refine ev_call (fn := a49) rfl ⟨N3245 + N3250 + N3253 + N3256 + N3259, fun n hn => ?_⟩
      have kN3245 := kN3245 n (by omega)
      try simp (maxSteps := 2000000) only [wn] at kN3245
      have kN3250 := kN3250 n (by omega)
      try simp (maxSteps := 2000000) only [wn, rc_Branch, rc_WaterConduit, rc_WaterNode] at kN3250
      have kN3253 := kN3253 n (by omega)
      try simp (maxSteps := 2000000) only [wn, rc_Branch, rc_WaterConduit, rc_WaterNode] at kN3253
      have kN3256 := kN3256 n (by omega)
      try simp (maxSteps := 2000000) only [wn, rc_Branch, rc_WaterConduit, rc_WaterNode] at kN3256
      have kN3259 := kN3259 n (by omega)
      try simp (maxSteps := 2000000) only [wn, rc_Branch, rc_WaterConduit, rc_WaterNode] at kN3259
      simp (maxSteps := 2000000) only [W, reduceIte, Nat.reduceEqDiff, Nat.reduceAdd, Nat.reduceSub, Nat.reduceLT, Nat.reduceLeDiff, Nat.reduceMul, a49, rc_Branch, rc_WaterConduit, rc_WaterNode, kN3245, kN3250, kN3253, kN3256, kN3259, c3261d, wd]
  · dsimp only at h
    obtain ⟨N3245, kN3245⟩ := c99_0 z0 z1 v3242 v3243 _ g3244
    obtain ⟨r3300, g3298, h⟩ := un1 h
    obtain ⟨N3299, kN3299⟩ := c100_0 v3240 _ g3298
    obtain ⟨r3303, g3301, h⟩ := un1 h
    obtain ⟨N3302, kN3302⟩ := c100_0 v3241 _ g3301
    obtain ⟨r3306, g3304, h⟩ := un1 h
    obtain ⟨N3305, kN3305⟩ := c72_0 (decide (v3240 ≤ v3241)) 9 _ g3304
    obtain ⟨r3309, g3307, h⟩ := un1 h
    obtain ⟨N3308, kN3308⟩ := c71_0 true ([r3297, r3300, r3303, r3306] : List Int) _ g3307
    by_cases c3310 : r3309 = 0
    · rw [if_pos c3310] at h
      have c3310d := dt c3310
      obtain ⟨r3313, g3311, h⟩ := un1 h
      obtain ⟨N3312, kN3312⟩ := c108_0 false false false 0 ([] : List WaterNode) ([] : List WaterConduit) ([] : List Branch) _ g3311
      obtain ⟨r3316, g3314, h⟩ := un1 h
      obtain ⟨N3315, kN3315⟩ := c72_0 (!r3313) 11 _ g3314
      obtain ⟨r3319, g3317, h⟩ := un1 h
      obtain ⟨N3318, kN3318⟩ := c109_0 true true true 0 v3240 v3241 ([] : List WaterNode) ([] : List WaterConduit) ([] : List Branch) _ g3317
      obtain ⟨r3322, g3320, h⟩ := un1 h
      obtain ⟨N3321, kN3321⟩ := c72_0 r3319 19 _ g3320
      obtain ⟨r3325, g3323, h⟩ := un1 h
      obtain ⟨N3324, kN3324⟩ := c71_0 true ([r3316, r3322] : List Int) _ g3323
      cases h
      refine ev_call (fn := a49) rfl ⟨N3245 + N3299 + N3302 + N3305 + N3308 + N3312 + N3315 + N3318 + N3321 + N3324, fun n hn => ?_⟩
      have kN3245 := kN3245 n (by omega)
      try simp (maxSteps := 2000000) only [wn, rc_Branch, rc_WaterConduit, rc_WaterNode] at kN3245
      have kN3299 := kN3299 n (by omega)
      try simp (maxSteps := 2000000) only [wn, rc_Branch, rc_WaterConduit, rc_WaterNode] at kN3299
      have kN3302 := kN3302 n (by omega)
      try simp (maxSteps := 2000000) only [wn, rc_Branch, rc_WaterConduit, rc_WaterNode] at kN3302
      have kN3305 := kN3305 n (by omega)
      try simp (maxSteps := 2000000) only [wn, rc_Branch, rc_WaterConduit, rc_WaterNode] at kN3305
      have kN3308 := kN3308 n (by omega)
      try simp (maxSteps := 2000000) only [wn, rc_Branch, rc_WaterConduit, rc_WaterNode] at kN3308
      have kN3312 := kN3312 n (by omega)
      try simp (maxSteps := 2000000) only [wn, rc_Branch, rc_WaterConduit, rc_WaterNode] at kN3312
      have kN3315 := kN3315 n (by omega)
      try simp (maxSteps := 2000000) only [wn, rc_Branch, rc_WaterConduit, rc_WaterNode] at kN3315
      have kN3318 := kN3318 n (by omega)
      try simp (maxSteps := 2000000) only [wn, rc_Branch, rc_WaterConduit, rc_WaterNode] at kN3318
      have kN3321 := kN3321 n (by omega)
      try simp (maxSteps := 2000000) only [wn, rc_Branch, rc_WaterConduit, rc_WaterNode] at kN3321
      have kN3324 := kN3324 n (by omega)
      try simp (maxSteps := 2000000) only [wn, rc_Branch, rc_WaterConduit, rc_WaterNode] at kN3324
      simp (maxSteps := 2000000) only [W, reduceIte, Nat.reduceEqDiff, Nat.reduceAdd, Nat.reduceSub, Nat.reduceLT, Nat.reduceLeDiff, Nat.reduceMul, a49, rc_Branch, rc_WaterConduit, rc_WaterNode, kN3245, kN3299, kN3302, kN3305, kN3308, c3310d, kN3312, kN3315, kN3318, kN3321, kN3324, wd]
    · rw [if_neg c3310] at h
      have c3310d := df c3310
      cases h
      refine ev_call (fn := a49) rfl ⟨N3245 + N3299 + N3302 + N3305 + N3308, fun n hn => ?_⟩
      have kN3245 := kN3245 n (by omega)
      try simp (maxSteps := 2000000) only [wn, rc_Branch, rc_WaterConduit, rc_WaterNode] at kN3245
      have kN3299 := kN3299 n (by omega)
      try simp (maxSteps := 2000000) only [wn, rc_Branch, rc_WaterConduit, rc_WaterNode] at kN3299
      have kN3302 := kN3302 n (by omega)
      try simp (maxSteps := 2000000) only [wn, rc_Branch, rc_WaterConduit, rc_WaterNode] at kN3302
      have kN3305 := kN3305 n (by omega)
      try simp (maxSteps := 2000000) only [wn, rc_Branch, rc_WaterConduit, rc_WaterNode] at kN3305
      have kN3308 := kN3308 n (by omega)
      try simp (maxSteps := 2000000) only [wn, rc_Branch, rc_WaterConduit, rc_WaterNode] at kN3308
      simp (maxSteps := 2000000) only [W, reduceIte, Nat.reduceEqDiff, Nat.reduceAdd, Nat.reduceSub, Nat.reduceLT, Nat.reduceLeDiff, Nat.reduceMul, a49, rc_Branch, rc_WaterConduit, rc_WaterNode, kN3245, kN3299, kN3302, kN3305, kN3308, c3310d, wd]
noncomputable def h142l0_0 (z0 : Bool) (z1 : Bool) (v3358 : Int) (v3360 : List Int) (v3361 : List Int) : (Int × (List Range)) → Env × Heap
  | (v3359, v3362) => ([(0, .slice 0 0 v3360.length v3360.length 1 false), (1, .slice 1 0 v3361.length v3361.length 1 false), (5, .slice 2 0 v3362.length v3362.length 2 false), (8, .int .i64 v3358), (9, .int .i64 v3359)], [.row z0 true (rowC v3360), .row z1 true (rowC v3361), .row true true (rowC v3362)])
noncomputable def q142l0_0 (z0 : Bool) (z1 : Bool) (v3358 : Int) (v3360 : List Int) (v3361 : List Int) : ((List Range)) → AExit × Env × Heap
  | r3371 => (.exit 0, [(4, .undef), (5, .slice 2 0 r3371.length r3371.length 2 false)], [.row z0 true (rowC v3360), .row z1 true (rowC v3361), .row true true (rowC r3371)])
theorem k142l0_0 (z0 : Bool) (z1 : Bool) (v3358 : Int) (v3360 : List Int) (v3361 : List Int) (s : Int × (List Range)) (o : (List Range)) (h : L142l0_0 v3358 v3360 v3361 s = some o) : Ev fun n => loopAt [0, 1, 5, 8, 9] [4, 5] a142l0b (ex tab n) 2 (h142l0_0 z0 z1 v3358 v3360 v3361 s) = some (q142l0_0 z0 z1 v3358 v3360 v3361 o) := by
  refine iter_sound (S142l0_0 v3358 v3360 v3361) [0, 1, 5, 8, 9] [4, 5] a142l0b 2 (h142l0_0 z0 z1 v3358 v3360 v3361) (q142l0_0 z0 z1 v3358 v3360 v3361) ?_ _ _ _ h
  rintro ⟨v3359, v3362⟩ z h
  simp only [S142l0_0] at h
  by_cases c3363 : v3358 ≤ v3359
  · rw [if_pos c3363] at h
    have c3363d := dt c3363
    cases h
    refine ⟨0, fun n hn => ?_⟩
    simp (maxSteps := 2000000) only [W, reduceIte, Nat.reduceEqDiff, Nat.reduceAdd, Nat.reduceSub, Nat.reduceLT, Nat.reduceLeDiff, Nat.reduceMul, h142l0_0, q142l0_0, a142l0b, rc_Range, c3363d, wd]
  · rw [if_neg c3363] at h
    have c3363d := df c3363
    obtain ⟨j3364, x3365, g3366, h⟩ := un2 h
    obtain ⟨g33661, g33662⟩ := geti_in g3366
    have g33663 := ac_Int g33662
    try simp only [wn] at g33661
    obtain ⟨j3367, x3368, g3369, h⟩ := un2 h
    obtain ⟨g33691, g33692⟩ := geti_in g3369
    have g33693 := ac_Int g33692
    try simp only [wn] at g33691
    obtain ⟨g3370, h⟩ := un_roomd h
    cases h
    refine ⟨0, fun n hn => ?_⟩
    simp (maxSteps := 2000000) only [W, reduceIte, Nat.reduceEqDiff, Nat.reduceAdd, Nat.reduceSub, Nat.reduceLT, Nat.reduceLeDiff, Nat.reduceMul, h142l0_0, q142l0_0, a142l0b, rc_Range, c3363d, g33661, g33663, g33691, g33693, g3370, wd]
theorem c142_0 (z0 : Bool) (z1 : Bool) (v3356 : List Int) (v3357 : List Int) (r3375 : List Range) (h : F142_0 v3356 v3357 = some r3375) : Ev fun n => (ex tab n).call 142 [.slice 0 0 v3356.length v3356.length 1 false, .slice 1 0 v3357.length v3357.length 1 false] [.row z0 true (rowC v3356), .row z1 true (rowC v3357)] = some (.slice 2 0 r3375.length r3375.length 2 false, [.row z0 true (rowC v3356), .row z1 true (rowC v3357), .row true true (rowC r3375)]) := by
  unfold F142_0 at h
  obtain ⟨r3374, g3372, h⟩ := un1 h
  have kN3373 := k142l0_0 z0 z1 (v3356.length : Int) v3356 v3357 (0, ([] : List Range)) _ g3372
  obtain ⟨N3373, kN3373⟩ := kN3373
  cases h
  refine ev_call (fn := a142) rfl ⟨N3373, fun n hn => ?_⟩
  have kN3373 := kN3373 n (by omega)
  simp (maxSteps := 2000000) only [h142l0_0, q142l0_0, wn, rc_Range] at kN3373
  simp (maxSteps := 2000000) only [W, reduceIte, Nat.reduceEqDiff, Nat.reduceAdd, Nat.reduceSub, Nat.reduceLT, Nat.reduceLeDiff, Nat.reduceMul, a142, a142l0, rc_Range, kN3373, @x_loopAt]
theorem c110_0 (z0 : Bool) (z1 : Bool) (z2 : Bool) (v3340 : Int) (v3341 : List WaterNode) (v3342 : List WaterConduit) (v3343 : List Branch) (r3382 : List Range) (r3383 : List Range) (h : F110_0 v3340 v3341 v3342 v3343 = some (r3382, r3383)) : Ev fun n => (ex tab n).call 110 [.agg [.slice 0 0 v3341.length v3341.length 4 false, .slice 1 0 v3342.length v3342.length 6 false, .slice 2 0 v3343.length v3343.length 2 false, .int .i64 v3340]] [.row z0 true (rowC v3341), .row z1 true (rowC v3342), .row z2 true (rowC v3343)] = some (.agg [.slice 3 0 r3382.length r3382.length 2 false, .slice 4 0 r3383.length r3383.length 2 false], [.row z0 true (rowC v3341), .row z1 true (rowC v3342), .row z2 true (rowC v3343), .row true true (rowC r3382), .row true true (rowC r3383)]) := by
  unfold F110_0 at h
  obtain ⟨r3346, r3347, g3344, h⟩ := un2 h
  obtain ⟨N3345, kN3345⟩ := c107_0 z0 z1 z2 v3340 v3341 v3342 v3343 _ _ g3344
  obtain ⟨r3350, r3351, g3348, h⟩ := un2 h
  obtain ⟨N3349, kN3349⟩ := c101_0 false false false v3340 r3346 v3341 v3342 v3343 _ _ g3348
  obtain ⟨r3354, r3355, g3352, h⟩ := un2 h
  obtain ⟨N3353, kN3353⟩ := c101_0 false false false v3340 r3347 v3341 v3342 v3343 _ _ g3352
  obtain ⟨r3378, g3376, h⟩ := un1 h
  obtain ⟨N3377, kN3377⟩ := c142_0 false false r3350 r3354 _ g3376
  obtain ⟨r3381, g3379, h⟩ := un1 h
  obtain ⟨N3380, kN3380⟩ := c142_0 true true r3351 r3355 _ g3379
  cases h
  refine ev_call (fn := a110) rfl ⟨N3345 + N3349 + N3353 + N3377 + N3380, fun n hn => ?_⟩
  have kN3345 := kN3345 n (by omega)
  try simp (maxSteps := 2000000) only [wn, rc_Range] at kN3345
  have kN3349 := kN3349 n (by omega)
  try simp (maxSteps := 2000000) only [wn, rc_Range] at kN3349
  have kN3353 := kN3353 n (by omega)
  try simp (maxSteps := 2000000) only [wn, rc_Range] at kN3353
  have kN3377 := kN3377 n (by omega)
  try simp (maxSteps := 2000000) only [wn, rc_Range] at kN3377
  have kN3380 := kN3380 n (by omega)
  try simp (maxSteps := 2000000) only [wn, rc_Range] at kN3380
  simp (maxSteps := 2000000) only [W, reduceIte, Nat.reduceEqDiff, Nat.reduceAdd, Nat.reduceSub, Nat.reduceLT, Nat.reduceLeDiff, Nat.reduceMul, a110, rc_Range, kN3345, kN3349, kN3353, kN3377, kN3380, wd]
theorem c50_0 (z0 : Bool) (z1 : Bool) (v3332 : List WaterNode) (v3333 : List WaterConduit) (r3394 : Int) (r3395 : List Range) (r3396 : List Range) (h : F50_0 v3332 v3333 = some (r3394, r3395, r3396)) : Ev fun n => (ex tab n).call 50 [.agg [.slice 0 0 v3332.length v3332.length 4 false, .slice 1 0 v3333.length v3333.length 6 false]] [.row z0 true (rowC v3332), .row z1 true (rowC v3333)] = some (.tup [.agg [.slice 2 0 r3395.length r3395.length 2 false, .slice 3 0 r3396.length r3396.length 2 false], .int .i64 r3394], [.row z0 true (rowC v3332), .row z1 true (rowC v3333), .row true true (rowC r3395), .row true true (rowC r3396)]) := by
  unfold F50_0 at h
  obtain ⟨g3334_, g3334, h⟩ := un1 h
  rcases g3334_ with ⟨r3336, r3337, r3338⟩ | r3388
  · dsimp only at h
    obtain ⟨N3335, kN3335⟩ := c106_0 z0 z1 v3332 v3333 _ g3334
    by_cases c3339 : r3337 = 0
    · rw [if_pos c3339] at h
      have c3339d := dt c3339
      obtain ⟨r3386, r3387, g3384, h⟩ := un2 h
      obtain ⟨N3385, kN3385⟩ := c110_0 z0 z1 true r3336 v3332 v3333 r3338 _ _ g3384
      cases h
      refine ev_call (fn := a50) rfl ⟨N3335 + N3385, fun n hn => ?_⟩
      have kN3335 := kN3335 n (by omega)
      try simp (maxSteps := 2000000) only [wn, rc_Range] at kN3335
      have kN3385 := kN3385 n (by omega)
      try simp (maxSteps := 2000000) only [wn, rc_Branch, rc_Range, rc_WaterConduit, rc_WaterNode] at kN3385
      simp (maxSteps := 2000000) only [W, reduceIte, Nat.reduceEqDiff, Nat.reduceAdd, Nat.reduceSub, Nat.reduceLT, Nat.reduceLeDiff, Nat.reduceMul, a50, rc_Branch, rc_Range, rc_WaterConduit, rc_WaterNode, kN3335, c3339d, kN3385]
    · rw [if_neg c3339] at h
      have c3339d := df c3339
      cases h
      refine ev_call (fn := a50) rfl ⟨N3335, fun n hn => ?_⟩
      have kN3335 := kN3335 n (by omega)
      try simp (maxSteps := 2000000) only [wn, rc_Range] at kN3335
      simp (maxSteps := 2000000) only [W, reduceIte, Nat.reduceEqDiff, Nat.reduceAdd, Nat.reduceSub, Nat.reduceLT, Nat.reduceLeDiff, Nat.reduceMul, a50, rc_Branch, rc_Range, rc_WaterConduit, rc_WaterNode, kN3335, c3339d]
  · dsimp only at h
    obtain ⟨N3335, kN3335⟩ := c106_0 z0 z1 v3332 v3333 _ g3334
    by_cases c3389 : r3388 = 0
    · rw [if_pos c3389] at h
      have c3389d := dt c3389
      obtain ⟨r3392, r3393, g3390, h⟩ := un2 h
      obtain ⟨N3391, kN3391⟩ := c110_0 true true true 0 ([] : List WaterNode) ([] : List WaterConduit) ([] : List Branch) _ _ g3390
      cases h
      refine ev_call (fn := a50) rfl ⟨N3335 + N3391, fun n hn => ?_⟩
      have kN3335 := kN3335 n (by omega)
      try simp (maxSteps := 2000000) only [wn, rc_Branch, rc_Range, rc_WaterConduit, rc_WaterNode] at kN3335
      have kN3391 := kN3391 n (by omega)
      try simp (maxSteps := 2000000) only [wn, rc_Branch, rc_Range, rc_WaterConduit, rc_WaterNode] at kN3391
      simp (maxSteps := 2000000) only [W, reduceIte, Nat.reduceEqDiff, Nat.reduceAdd, Nat.reduceSub, Nat.reduceLT, Nat.reduceLeDiff, Nat.reduceMul, a50, rc_Branch, rc_Range, rc_WaterConduit, rc_WaterNode, kN3335, c3389d, kN3391]
    · rw [if_neg c3389] at h
      have c3389d := df c3389
      cases h
      refine ev_call (fn := a50) rfl ⟨N3335, fun n hn => ?_⟩
      have kN3335 := kN3335 n (by omega)
      try simp (maxSteps := 2000000) only [wn, rc_Branch, rc_Range, rc_WaterConduit, rc_WaterNode] at kN3335
      simp (maxSteps := 2000000) only [W, reduceIte, Nat.reduceEqDiff, Nat.reduceAdd, Nat.reduceSub, Nat.reduceLT, Nat.reduceLeDiff, Nat.reduceMul, a50, rc_Branch, rc_Range, rc_WaterConduit, rc_WaterNode, kN3335, c3389d]
end Go.AI
end
section
/-
  Functions, walked through: .
-/
set_option linter.unusedVariables false
set_option linter.unusedSimpArgs false
set_option maxRecDepth 100000
set_option maxHeartbeats 4000000
namespace Go.AI
noncomputable def h10l0_0 (z0 : Bool) (z1 : Bool) (v3921 : List WaterNode) (v3922 : List WaterConduit) (v3923 : Int) (v3924 : Int) (v3925 : List Range) (v3926 : List Range) : (Int) → Env × Heap
  | v3920 => ([(2, .ptr 2 0), (5, .ptr 3 0), (8, .ptr 4 0), (10, .int .i64 v3920)], [.row z0 true (rowC v3921), .row z1 true (rowC v3922), .row true false [.slice 0 0 v3921.length v3921.length 4 false, .slice 1 0 v3922.length v3922.length 6 false], .row true true [.int .i64 v3923, .int .i64 v3924], .row true false [.slice 5 0 v3925.length v3925.length 2 false, .slice 6 0 v3926.length v3926.length 2 false], .row true true (rowC v3925), .row true true (rowC v3926)])
noncomputable def q10l0_0 (z0 : Bool) (z1 : Bool) (v3921 : List WaterNode) (v3922 : List WaterConduit) (v3923 : Int) (v3924 : Int) (v3925 : List Range) (v3926 : List Range) : ((Unit) ⊕ (Unit)) → AExit × Env × Heap
  | .inl (_) => (.exit 0, [(2, .ptr 2 0), (4, .undef), (5, .ptr 3 0)], [.row z0 true (rowC v3921), .row z1 true (rowC v3922), .row true false [.slice 0 0 v3921.length v3921.length 4 false, .slice 1 0 v3922.length v3922.length 6 false], .row true true [.int .i64 v3923, .int .i64 v3924]])
  | .inr (_) => (.ret, [(2, .ptr 2 0), (4, .bool false), (5, .ptr 3 0)], [.row z0 true (rowC v3921), .row z1 true (rowC v3922), .row true false [.slice 0 0 v3921.length v3921.length 4 false, .slice 1 0 v3922.length v3922.length 6 false], .row true true [.int .i64 v3923, .int .i64 v3924]])
theorem k10l0_0 (z0 : Bool) (z1 : Bool) (v3921 : List WaterNode) (v3922 : List WaterConduit) (v3923 : Int) (v3924 : Int) (v3925 : List Range) (v3926 : List Range) (s : Int) (o : (Unit) ⊕ (Unit)) (h : L10l0_0 v3921 v3922 v3923 v3924 v3925 v3926 s = some o) : Ev fun n => loopAt [2, 5, 8, 10] [2, 4, 5] a10l0b (ex tab n) 2 (h10l0_0 z0 z1 v3921 v3922 v3923 v3924 v3925 v3926 s) = some (q10l0_0 z0 z1 v3921 v3922 v3923 v3924 v3925 v3926 o) := by
  refine iter_sound (S10l0_0 v3921 v3922 v3923 v3924 v3925 v3926) [2, 5, 8, 10] [2, 4, 5] a10l0b 2 (h10l0_0 z0 z1 v3921 v3922 v3923 v3924 v3925 v3926) (q10l0_0 z0 z1 v3921 v3922 v3923 v3924 v3925 v3926) ?_ _ _ _ h
  rintro v3920 z h
  simp only [S10l0_0] at h
  by_cases c3927 : (v3925.length : Int) ≤ v3920
  · rw [if_pos c3927] at h
    have c3927d := dt c3927
    cases h
    refine ⟨0, fun n hn => ?_⟩
    simp (maxSteps := 2000000) only [W, reduceIte, Nat.reduceEqDiff, Nat.reduceAdd, Nat.reduceSub, Nat.reduceLT, Nat.reduceLeDiff, Nat.reduceMul, h10l0_0, q10l0_0, a10l0b, rc_Range, c3927d, wd]
  · rw [if_neg c3927] at h
    have c3927d := df c3927
    obtain ⟨j3928, x3929, g3930, h⟩ := un2 h
    obtain ⟨g39301, g39302⟩ := geti_in g3930
    have g39303 := ac_Range g39302
    try simp only [wn] at g39301
    obtain ⟨r3933, g3931, h⟩ := un1 h
    obtain ⟨N3932, kN3932⟩ := c20_0 x3929.fLo (-1000000) 1000000 _ g3931
    by_cases c3934 : r3933 = true
    · rw [if_pos c3934] at h
      have c3934d := c3934
      obtain ⟨r3937, g3935, h⟩ := un1 h
      obtain ⟨N3936, kN3936⟩ := c20_0 x3929.fHi x3929.fLo (aw .i64 (x3929.fLo + 1)) _ g3935
      by_cases c3938 : r3937 = true
      · rw [if_pos c3938] at h
        have c3938d := c3938
        cases h
        refine ⟨N3932 + N3936, fun n hn => ?_⟩
        have kN3932 := kN3932 n (by omega)
        try simp (maxSteps := 2000000) only [wn, rc_Range] at kN3932
        have kN3936 := kN3936 n (by omega)
        try simp (maxSteps := 2000000) only [wn, rc_Range] at kN3936
        simp (maxSteps := 2000000) only [W, reduceIte, Nat.reduceEqDiff, Nat.reduceAdd, Nat.reduceSub, Nat.reduceLT, Nat.reduceLeDiff, Nat.reduceMul, h10l0_0, q10l0_0, a10l0b, rc_Range, c3927d, g39301, g39303, kN3932, c3934d, kN3936, c3938d, wd]
      · rw [if_neg c3938] at h
        have c3938d := bf c3938
        cases h
        refine ⟨N3932 + N3936, fun n hn => ?_⟩
        have kN3932 := kN3932 n (by omega)
        try simp (maxSteps := 2000000) only [wn, rc_Range] at kN3932
        have kN3936 := kN3936 n (by omega)
        try simp (maxSteps := 2000000) only [wn, rc_Range] at kN3936
        simp (maxSteps := 2000000) only [W, reduceIte, Nat.reduceEqDiff, Nat.reduceAdd, Nat.reduceSub, Nat.reduceLT, Nat.reduceLeDiff, Nat.reduceMul, h10l0_0, q10l0_0, a10l0b, rc_Range, c3927d, g39301, g39303, kN3932, c3934d, kN3936, c3938d, wd]
    · rw [if_neg c3934] at h
      have c3934d := bf c3934
      cases h
      refine ⟨N3932, fun n hn => ?_⟩
      have kN3932 := kN3932 n (by omega)
      try simp (maxSteps := 2000000) only [wn, rc_Range] at kN3932
      simp (maxSteps := 2000000) only [W, reduceIte, Nat.reduceEqDiff, Nat.reduceAdd, Nat.reduceSub, Nat.reduceLT, Nat.reduceLeDiff, Nat.reduceMul, h10l0_0, q10l0_0, a10l0b, rc_Range, c3927d, g39301, g39303, kN3932, c3934d, wd]
end Go.AI
end
