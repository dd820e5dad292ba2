import Derived.Test.YtfglifekecijjaaEAiY
import Derived.Test.YtfglifekecijjaaEAiTab
import Derived.Test.YtfglifekecijjaaEAiAwake
import Derived.Test.YtfglifekecijjaaEWnF
import Derived.Test.YtfglifekecijjaaEWn1
import Derived.Test.YtfglifekecijjaaEWn13
section
/-
  Functions, walked through: water.net).closed, water.openTree, water.openClosing, water.ClosingOf, water.circulationErr, water.branch], water.tree).other, water.branch]$1.
-/
set_option linter.unusedVariables false
set_option linter.unusedSimpArgs false
set_option maxRecDepth 100000
set_option maxHeartbeats 4000000
namespace Go.AI
theorem c138_0 (z0 : Bool) (z1 : Bool) (v1688 : List WaterNode) (v1689 : List WaterConduit) (r1948 : Int) (r1949 : Int) (r1950 : List Branch) (h : F138_0 v1688 v1689 = some (r1948, r1949, r1950)) : Ev fun n => (ex tab n).call 138 [.agg [.slice 0 0 v1688.length v1688.length 4 false, .slice 1 0 v1689.length v1689.length 6 false]] [.row z0 true (rowC v1688), .row z1 true (rowC v1689)] = some (.tup [.agg [.slice 0 0 v1688.length v1688.length 4 false, .slice 1 0 v1689.length v1689.length 6 false, .slice 2 0 r1950.length r1950.length 2 false, .int .i64 r1948], .int .i64 r1949], [.row z0 true (rowC v1688), .row z1 true (rowC v1689), .row true true (rowC r1950)]) := by
  unfold F138_0 at h
  obtain ⟨r1868, r1869, g1866, h⟩ := un2 h
  obtain ⟨N1867, kN1867⟩ := c151_0 z0 z1 v1688 v1689 _ _ g1866
  by_cases c1870 : r1868 = 0
  · rw [if_pos c1870] at h
    have c1870d := dt c1870
    obtain ⟨g1943_, g1943, h⟩ := un1 h
    rcases g1943_ with r1945 | ⟨r1946, r1947⟩
    · dsimp only at h
      have kN1944 := k138l0_0 z0 z1 (v1689.length : Int) v1688 v1689 ([] : List WaterNode) ([] : List WaterConduit) ([] : List Branch) r1869 (0, (-1)) _ g1943
      obtain ⟨N1944, kN1944⟩ := kN1944
      cases h
      refine ev_call (fn := a138) rfl ⟨N1867 + N1944, fun n hn => ?_⟩
      have kN1867 := kN1867 n (by omega)
      try simp (maxSteps := 2000000) only [wn, rc_Branch, rc_WaterConduit, rc_WaterNode] at kN1867
      have kN1944 := kN1944 n (by omega)
      simp (maxSteps := 2000000) only [h138l0_0, q138l0_0, wn, rc_Branch, rc_WaterConduit, rc_WaterNode] at kN1944
      simp (maxSteps := 2000000) only [W, reduceIte, Nat.reduceEqDiff, Nat.reduceAdd, Nat.reduceSub, Nat.reduceLT, Nat.reduceLeDiff, Nat.reduceMul, a138, a138l0, rc_Branch, rc_WaterConduit, rc_WaterNode, kN1867, c1870d, kN1944, @x_loopAt]
    · dsimp only at h
      have kN1944 := k138l0_0 z0 z1 (v1689.length : Int) v1688 v1689 ([] : List WaterNode) ([] : List WaterConduit) ([] : List Branch) r1869 (0, (-1)) _ g1943
      obtain ⟨N1944, kN1944⟩ := kN1944
      cases h
      refine ev_call (fn := a138) rfl ⟨N1867 + N1944, fun n hn => ?_⟩
      have kN1867 := kN1867 n (by omega)
      try simp (maxSteps := 2000000) only [wn, rc_Branch, rc_WaterConduit, rc_WaterNode] at kN1867
      have kN1944 := kN1944 n (by omega)
      simp (maxSteps := 2000000) only [h138l0_0, q138l0_0, wn, rc_Branch, rc_WaterConduit, rc_WaterNode] at kN1944
      simp (maxSteps := 2000000) only [W, reduceIte, Nat.reduceEqDiff, Nat.reduceAdd, Nat.reduceSub, Nat.reduceLT, Nat.reduceLeDiff, Nat.reduceMul, a138, a138l0, rc_Branch, rc_WaterConduit, rc_WaterNode, kN1867, c1870d, kN1944, @x_loopAt]
  · rw [if_neg c1870] at h
    have c1870d := df c1870
    cases h
    refine ev_call (fn := a138) rfl ⟨N1867, fun n hn => ?_⟩
    have kN1867 := kN1867 n (by omega)
    try simp (maxSteps := 2000000) only [wn, rc_Branch, rc_WaterConduit, rc_WaterNode] at kN1867
    simp (maxSteps := 2000000) only [W, reduceIte, Nat.reduceEqDiff, Nat.reduceAdd, Nat.reduceSub, Nat.reduceLT, Nat.reduceLeDiff, Nat.reduceMul, a138, a138l0, rc_Branch, rc_WaterConduit, rc_WaterNode, kN1867, c1870d, @x_loopAt]
theorem c99_0 (z0 : Bool) (z1 : Bool) (v1682 : List WaterNode) (v1683 : List WaterConduit) (r : (Int × Int × (List Branch)) ⊕ (Int)) (h : F99_0 v1682 v1683 = some r) : match r with
    | .inl (r1956, r1957, r1958) => Ev fun n => (ex tab n).call 99 [.agg [.slice 0 0 v1682.length v1682.length 4 false, .slice 1 0 v1683.length v1683.length 6 false]] [.row z0 true (rowC v1682), .row z1 true (rowC v1683)] = some (.tup [.agg [.slice 0 0 v1682.length v1682.length 4 false, .slice 1 0 v1683.length v1683.length 6 false, .slice 2 0 r1958.length r1958.length 2 false, .int .i64 r1956], .int .i64 r1957], [.row z0 true (rowC v1682), .row z1 true (rowC v1683), .row true true (rowC r1958)])
    | .inr (r1959) => Ev fun n => (ex tab n).call 99 [.agg [.slice 0 0 v1682.length v1682.length 4 false, .slice 1 0 v1683.length v1683.length 6 false]] [.row z0 true (rowC v1682), .row z1 true (rowC v1683)] = some (.tup [.agg [.slice 2 0 0 0 4 false, .slice 3 0 0 0 6 false, .slice 4 0 0 0 2 false, .int .i64 0], .int .i64 r1959], [.row z0 true (rowC v1682), .row z1 true (rowC v1683), .row true true [], .row true true [], .row true true []]) := by
  unfold F99_0 at h
  obtain ⟨r1686, g1684, h⟩ := un1 h
  obtain ⟨N1685, kN1685⟩ := c87_0 z0 z1 v1682 v1683 _ g1684
  by_cases c1687 : r1686 = 0
  · rw [if_pos c1687] at h
    have c1687d := dt c1687
    obtain ⟨r1953, r1954, r1955, g1951, h⟩ := un3 h
    obtain ⟨N1952, kN1952⟩ := c138_0 z0 z1 v1682 v1683 _ _ _ g1951
    cases h
    refine ev_call (fn := a99) rfl ⟨N1685 + N1952, fun n hn => ?_⟩
    have kN1685 := kN1685 n (by omega)
    try simp (maxSteps := 2000000) only [wn, rc_Branch, rc_WaterConduit, rc_WaterNode] at kN1685
    have kN1952 := kN1952 n (by omega)
    try simp (maxSteps := 2000000) only [wn, rc_Branch, rc_WaterConduit, rc_WaterNode] at kN1952
    simp (maxSteps := 2000000) only [W, reduceIte, Nat.reduceEqDiff, Nat.reduceAdd, Nat.reduceSub, Nat.reduceLT, Nat.reduceLeDiff, Nat.reduceMul, a99, rc_Branch, rc_WaterConduit, rc_WaterNode, kN1685, c1687d, kN1952]
  · rw [if_neg c1687] at h
    have c1687d := df c1687
    cases h
    refine ev_call (fn := a99) rfl ⟨N1685, fun n hn => ?_⟩
    have kN1685 := kN1685 n (by omega)
    try simp (maxSteps := 2000000) only [wn, rc_Branch, rc_WaterConduit, rc_WaterNode] at kN1685
    simp (maxSteps := 2000000) only [W, reduceIte, Nat.reduceEqDiff, Nat.reduceAdd, Nat.reduceSub, Nat.reduceLT, Nat.reduceLeDiff, Nat.reduceMul, a99, rc_Branch, rc_WaterConduit, rc_WaterNode, kN1685, c1687d]
theorem c98_0 (z0 : Bool) (z1 : Bool) (v1680 : List WaterNode) (v1681 : List WaterConduit) (r : (Int × Int × (List Branch)) ⊕ (Int)) (h : F98_0 v1680 v1681 = some r) : match r with
    | .inl (r1978, r1979, r1980) => Ev fun n => (ex tab n).call 98 [.agg [.slice 0 0 v1680.length v1680.length 4 false, .slice 1 0 v1681.length v1681.length 6 false]] [.row z0 true (rowC v1680), .row z1 true (rowC v1681)] = some (.tup [.agg [.slice 0 0 v1680.length v1680.length 4 false, .slice 1 0 v1681.length v1681.length 6 false, .slice 2 0 r1980.length r1980.length 2 false, .int .i64 r1978], .int .i64 r1979], [.row z0 true (rowC v1680), .row z1 true (rowC v1681), .row true true (rowC r1980)])
    | .inr (r1981) => Ev fun n => (ex tab n).call 98 [.agg [.slice 0 0 v1680.length v1680.length 4 false, .slice 1 0 v1681.length v1681.length 6 false]] [.row z0 true (rowC v1680), .row z1 true (rowC v1681)] = some (.tup [.agg [.slice 2 0 0 0 4 false, .slice 3 0 0 0 6 false, .slice 4 0 0 0 2 false, .int .i64 0], .int .i64 r1981], [.row z0 true (rowC v1680), .row z1 true (rowC v1681), .row true true [], .row true true [], .row true true []]) := by
  unfold F98_0 at h
  obtain ⟨g1960_, g1960, h⟩ := un1 h
  rcases g1960_ with ⟨r1962, r1963, r1964⟩ | r1971
  · dsimp only at h
    obtain ⟨N1961, kN1961⟩ := c99_0 z0 z1 v1680 v1681 _ g1960
    obtain ⟨r1967, g1965, h⟩ := un1 h
    obtain ⟨N1966, kN1966⟩ := c72_0 (decide (0 ≤ r1962)) 12 _ g1965
    obtain ⟨r1970, g1968, h⟩ := un1 h
    obtain ⟨N1969, kN1969⟩ := c71_0 false ([r1963, r1967] : List Int) _ g1968
    cases h
    refine ev_call (fn := a98) rfl ⟨N1961 + N1966 + N1969, fun n hn => ?_⟩
    have kN1961 := kN1961 n (by omega)
    try simp (maxSteps := 2000000) only [wn, rc_Branch, rc_WaterConduit, rc_WaterNode] at kN1961
    have kN1966 := kN1966 n (by omega)
    try simp (maxSteps := 2000000) only [wn, rc_Branch, rc_WaterConduit, rc_WaterNode] at kN1966
    have kN1969 := kN1969 n (by omega)
    try simp (maxSteps := 2000000) only [wn, rc_Branch, rc_WaterConduit, rc_WaterNode] at kN1969
    simp (maxSteps := 2000000) only [W, reduceIte, Nat.reduceEqDiff, Nat.reduceAdd, Nat.reduceSub, Nat.reduceLT, Nat.reduceLeDiff, Nat.reduceMul, a98, rc_Branch, rc_WaterConduit, rc_WaterNode, kN1961, kN1966, kN1969, wd]
  · dsimp only at h
    obtain ⟨N1961, kN1961⟩ := c99_0 z0 z1 v1680 v1681 _ g1960
    obtain ⟨r1974, g1972, h⟩ := un1 h
    obtain ⟨N1973, kN1973⟩ := c72_0 (decide ((0 : Int) ≤ 0)) 12 _ g1972
    obtain ⟨r1977, g1975, h⟩ := un1 h
    obtain ⟨N1976, kN1976⟩ := c71_0 false ([r1971, r1974] : List Int) _ g1975
    cases h
    refine ev_call (fn := a98) rfl ⟨N1961 + N1973 + N1976, fun n hn => ?_⟩
    have kN1961 := kN1961 n (by omega)
    try simp (maxSteps := 2000000) only [wn, rc_Branch, rc_WaterConduit, rc_WaterNode] at kN1961
    have kN1973 := kN1973 n (by omega)
    try simp (maxSteps := 2000000) only [wn, rc_Branch, rc_WaterConduit, rc_WaterNode] at kN1973
    have kN1976 := kN1976 n (by omega)
    try simp (maxSteps := 2000000) only [wn, rc_Branch, rc_WaterConduit, rc_WaterNode] at kN1976
    simp (maxSteps := 2000000) only [W, reduceIte, Nat.reduceEqDiff, Nat.reduceAdd, Nat.reduceSub, Nat.reduceLT, Nat.reduceLeDiff, Nat.reduceMul, a98, rc_Branch, rc_WaterConduit, rc_WaterNode, kN1961, kN1973, kN1976, wd]
theorem c39_0 (z0 : Bool) (z1 : Bool) (v1678 : List WaterNode) (v1679 : List WaterConduit) (r1990 : Int) (r1991 : Int) (h : F39_0 v1678 v1679 = some (r1990, r1991)) : Ev fun n => (ex tab n).call 39 [.agg [.slice 0 0 v1678.length v1678.length 4 false, .slice 1 0 v1679.length v1679.length 6 false]] [.row z0 true (rowC v1678), .row z1 true (rowC v1679)] = some (.tup [.int .i64 r1990, .int .i64 r1991], [.row z0 true (rowC v1678), .row z1 true (rowC v1679)]) := by
  unfold F39_0 at h
  obtain ⟨g1982_, g1982, h⟩ := un1 h
  rcases g1982_ with ⟨r1984, r1985, r1986⟩ | r1988
  · dsimp only at h
    obtain ⟨N1983, kN1983⟩ := c98_0 z0 z1 v1678 v1679 _ g1982
    by_cases c1987 : r1985 = 0
    · rw [if_pos c1987] at h
      have c1987d := dt c1987
      cases h
      refine ev_call (fn := a39) rfl ⟨N1983, fun n hn => ?_⟩
      have kN1983 := kN1983 n (by omega)
      try simp (maxSteps := 2000000) only [wn] at kN1983
      simp (maxSteps := 2000000) only [W, reduceIte, Nat.reduceEqDiff, Nat.reduceAdd, Nat.reduceSub, Nat.reduceLT, Nat.reduceLeDiff, Nat.reduceMul, a39, rc_Branch, rc_WaterConduit, rc_WaterNode, kN1983, c1987d]
    · rw [if_neg c1987] at h
      have c1987d := df c1987
      cases h
      refine ev_call (fn := a39) rfl ⟨N1983, fun n hn => ?_⟩
      have kN1983 := kN1983 n (by omega)
      try simp (maxSteps := 2000000) only [wn] at kN1983
      simp (maxSteps := 2000000) only [W, reduceIte, Nat.reduceEqDiff, Nat.reduceAdd, Nat.reduceSub, Nat.reduceLT, Nat.reduceLeDiff, Nat.reduceMul, a39, rc_Branch, rc_WaterConduit, rc_WaterNode, kN1983, c1987d]
  · dsimp only at h
    obtain ⟨N1983, kN1983⟩ := c98_0 z0 z1 v1678 v1679 _ g1982
    by_cases c1989 : r1988 = 0
    · rw [if_pos c1989] at h
      have c1989d := dt c1989
      cases h
      refine ev_call (fn := a39) rfl ⟨N1983, fun n hn => ?_⟩
      have kN1983 := kN1983 n (by omega)
      try simp (maxSteps := 2000000) only [wn, rc_Branch, rc_WaterConduit, rc_WaterNode] at kN1983
      simp (maxSteps := 2000000) only [W, reduceIte, Nat.reduceEqDiff, Nat.reduceAdd, Nat.reduceSub, Nat.reduceLT, Nat.reduceLeDiff, Nat.reduceMul, a39, rc_Branch, rc_WaterConduit, rc_WaterNode, kN1983, c1989d]
    · rw [if_neg c1989] at h
      have c1989d := df c1989
      cases h
      refine ev_call (fn := a39) rfl ⟨N1983, fun n hn => ?_⟩
      have kN1983 := kN1983 n (by omega)
      try simp (maxSteps := 2000000) only [wn, rc_Branch, rc_WaterConduit, rc_WaterNode] at kN1983
      simp (maxSteps := 2000000) only [W, reduceIte, Nat.reduceEqDiff, Nat.reduceAdd, Nat.reduceSub, Nat.reduceLT, Nat.reduceLeDiff, Nat.reduceMul, a39, rc_Branch, rc_WaterConduit, rc_WaterNode, kN1983, c1989d]
theorem c100_0 (v2008 : Int) (r2015 : Int) (h : F100_0 v2008 = some r2015) : Ev fun n => (ex tab n).call 100 [.int .i64 v2008] [] = some (.int .i64 r2015, []) := by
  unfold F100_0 at h
  obtain ⟨r2011, g2009, h⟩ := un1 h
  obtain ⟨N2010, kN2010⟩ := c73_0 v2008 200000 _ g2009
  obtain ⟨r2014, g2012, h⟩ := un1 h
  obtain ⟨N2013, kN2013⟩ := c72_0 r2011 2 _ g2012
  cases h
  refine ev_call (fn := a100) rfl ⟨N2010 + N2013, fun n hn => ?_⟩
  have kN2010 := kN2010 n (by omega)
  try simp (maxSteps := 2000000) only [wn] at kN2010
  have kN2013 := kN2013 n (by omega)
  try simp (maxSteps := 2000000) only [wn] at kN2013
  simp (maxSteps := 2000000) only [W, reduceIte, Nat.reduceEqDiff, Nat.reduceAdd, Nat.reduceSub, Nat.reduceLT, Nat.reduceLeDiff, Nat.reduceMul, a100, kN2010, kN2013]
noncomputable def h101l0_0 (z0 : Bool) (z1 : Bool) (z2 : Bool) (v2040 : Int) (v2041 : Int) (v2043 : List WaterNode) (v2044 : List WaterConduit) (v2045 : List Branch) (v2046 : Int) (v2047 : List Int) (v2048 : List Int) (v2049 : List Int) : (Int × (List Int) × (List Int)) → Env × Heap
  | (v2042, v2050, v2051) => ([(1, .int .i64 v2040), (2, .ptr 3 0), (4, .ptr 4 0), (5, .ptr 7 0), (6, .ptr 10 0), (40, .slice 0 0 v2043.length v2043.length 4 false), (41, .int .i64 v2041), (42, .int .i64 v2042)], [.row z0 true (rowC v2043), .row z1 true (rowC v2044), .row z2 true (rowC v2045), .row true false [.slice 0 0 v2043.length v2043.length 4 false, .slice 1 0 v2044.length v2044.length 6 false, .slice 2 0 v2045.length v2045.length 2 false, .int .i64 v2046], .row true false [.slice 5 0 v2047.length v2047.length 1 false, .slice 6 0 v2048.length v2048.length 1 false], .row true true (rowC v2047), .row true true (rowC v2048), .row true false [.slice 8 0 v2049.length v2049.length 1 true, .slice 9 0 v2050.length v2050.length 1 true], .row true true (rowC v2049), .row true true (rowC v2050), .row true false [.slice 11 0 v2051.length v2051.length 1 true], .row true true (rowC v2051)])
noncomputable def q101l0_0 (z0 : Bool) (z1 : Bool) (z2 : Bool) (v2040 : Int) (v2041 : Int) (v2043 : List WaterNode) (v2044 : List WaterConduit) (v2045 : List Branch) (v2046 : Int) (v2047 : List Int) (v2048 : List Int) (v2049 : List Int) : ((List Int) × (List Int)) → AExit × Env × Heap
  | (r2062, r2063) => (.exit 0, [(1, .int .i64 v2040), (2, .ptr 3 0), (4, .ptr 4 0), (5, .ptr 7 0), (6, .ptr 10 0)], [.row z0 true (rowC v2043), .row z1 true (rowC v2044), .row z2 true (rowC v2045), .row true false [.slice 0 0 v2043.length v2043.length 4 false, .slice 1 0 v2044.length v2044.length 6 false, .slice 2 0 v2045.length v2045.length 2 false, .int .i64 v2046], .row true false [.slice 5 0 v2047.length v2047.length 1 false, .slice 6 0 v2048.length v2048.length 1 false], .row true true (rowC v2047), .row true true (rowC v2048), .row true false [.slice 8 0 v2049.length v2049.length 1 true, .slice 9 0 r2062.length r2062.length 1 true], .row true true (rowC v2049), .row true true (rowC r2062), .row true false [.slice 11 0 r2063.length r2063.length 1 true], .row true true (rowC r2063)])
theorem k101l0_0 (z0 : Bool) (z1 : Bool) (z2 : Bool) (v2040 : Int) (v2041 : Int) (v2043 : List WaterNode) (v2044 : List WaterConduit) (v2045 : List Branch) (v2046 : Int) (v2047 : List Int) (v2048 : List Int) (v2049 : List Int) (s : Int × (List Int) × (List Int)) (o : (List Int) × (List Int)) (h : L101l0_0 v2040 v2041 v2043 v2044 v2045 v2046 v2047 v2048 v2049 s = some o) : Ev fun n => loopAt [1, 2, 4, 5, 6, 40, 41, 42] [1, 2, 4, 5, 6] a101l0b (ex tab n) 3 (h101l0_0 z0 z1 z2 v2040 v2041 v2043 v2044 v2045 v2046 v2047 v2048 v2049 s) = some (q101l0_0 z0 z1 z2 v2040 v2041 v2043 v2044 v2045 v2046 v2047 v2048 v2049 o) := by
  refine iter_sound (S101l0_0 v2040 v2041 v2043 v2044 v2045 v2046 v2047 v2048 v2049) [1, 2, 4, 5, 6, 40, 41, 42] [1, 2, 4, 5, 6] a101l0b 3 (h101l0_0 z0 z1 z2 v2040 v2041 v2043 v2044 v2045 v2046 v2047 v2048 v2049) (q101l0_0 z0 z1 z2 v2040 v2041 v2043 v2044 v2045 v2046 v2047 v2048 v2049) ?_ _ _ _ h
  rintro ⟨v2042, v2050, v2051⟩ z h
  simp only [S101l0_0] at h
  by_cases c2052 : v2041 ≤ v2042
  · rw [if_pos c2052] at h
    have c2052d := dt c2052
    cases h
    refine ⟨0, fun n hn => ?_⟩
    simp (maxSteps := 2000000) only [W, reduceIte, Nat.reduceEqDiff, Nat.reduceAdd, Nat.reduceSub, Nat.reduceLT, Nat.reduceLeDiff, Nat.reduceMul, h101l0_0, q101l0_0, a101l0b, rc_WaterNode, c2052d]
  · rw [if_neg c2052] at h
    have c2052d := df c2052
    obtain ⟨j2053, x2054, g2055, h⟩ := un2 h
    obtain ⟨g20551, g20552⟩ := geti_in g2055
    have g20553 := ac_WaterNode g20552
    try simp only [wn] at g20551
    obtain ⟨j2056, x2057, g2058, h⟩ := un2 h
    obtain ⟨g20581, g20582⟩ := geti_in g2058
    have g20583 := ac_Int g20582
    try simp only [wn] at g20581
    obtain ⟨j2059, x2060, g2061, h⟩ := un2 h
    obtain ⟨g20611, g20612⟩ := geti_in g2061
    have g20613 := ac_Int g20612
    try simp only [wn] at g20611
    cases h
    refine ⟨0, fun n hn => ?_⟩
    simp (maxSteps := 2000000) only [W, reduceIte, Nat.reduceEqDiff, Nat.reduceAdd, Nat.reduceSub, Nat.reduceLT, Nat.reduceLeDiff, Nat.reduceMul, h101l0_0, q101l0_0, a101l0b, rc_WaterNode, c2052d, g20551, g20553, g20581, g20583, g20611, g20613]
theorem c139_0 (z0 : Bool) (v2081 : List Branch) (h : F139_0 v2081 = some ()) : Ev fun n => (ex tab n).call 139 [.slice 0 0 v2081.length v2081.length 2 false] [.row z0 true (rowC v2081)] = some (.func 154 [] [.ptr 1 0], [.row z0 true (rowC v2081), .row true false [.slice 0 0 v2081.length v2081.length 2 false]]) := by
  unfold F139_0 at h
  cases h
  refine ev_call (fn := a139) rfl ⟨0, fun n hn => ?_⟩
  simp (maxSteps := 2000000) only [W, reduceIte, Nat.reduceEqDiff, Nat.reduceAdd, Nat.reduceSub, Nat.reduceLT, Nat.reduceLeDiff, Nat.reduceMul, a139]
theorem c140_0 (z0 : Bool) (z1 : Bool) (z2 : Bool) (v2107 : Int) (v2108 : Int) (v2109 : Int) (v2110 : List WaterNode) (v2111 : List WaterConduit) (v2112 : List Branch) (r2117 : Int) (r2118 : Int) (h : F140_0 v2107 v2108 v2109 v2110 v2111 v2112 = some (r2117, r2118)) : Ev fun n => (ex tab n).call 140 [.agg [.slice 0 0 v2110.length v2110.length 4 false, .slice 1 0 v2111.length v2111.length 6 false, .slice 2 0 v2112.length v2112.length 2 false, .int .i64 v2107], .agg [.int .i64 v2108, .int .i64 v2109]] [.row z0 true (rowC v2110), .row z1 true (rowC v2111), .row z2 true (rowC v2112)] = some (.tup [.int .i64 r2117, .int .i64 r2118], [.row z0 true (rowC v2110), .row z1 true (rowC v2111), .row z2 true (rowC v2112)]) := by
  unfold F140_0 at h
  obtain ⟨j2113, x2114, g2115, h⟩ := un2 h
  obtain ⟨g21151, g21152⟩ := geti_in g2115
  have g21153 := ac_WaterConduit g21152
  try simp only [wn] at g21151
  by_cases c2116 : x2114.fTo = v2109
  · rw [if_pos c2116] at h
    have c2116d := dt c2116
    cases h
    refine ev_call (fn := a140) rfl ⟨0, fun n hn => ?_⟩
    simp (maxSteps := 2000000) only [W, reduceIte, Nat.reduceEqDiff, Nat.reduceAdd, Nat.reduceSub, Nat.reduceLT, Nat.reduceLeDiff, Nat.reduceMul, a140, rc_WaterConduit, g21151, g21153, c2116d]
  · rw [if_neg c2116] at h
    have c2116d := df c2116
    cases h
    refine ev_call (fn := a140) rfl ⟨0, fun n hn => ?_⟩
    simp (maxSteps := 2000000) only [W, reduceIte, Nat.reduceEqDiff, Nat.reduceAdd, Nat.reduceSub, Nat.reduceLT, Nat.reduceLeDiff, Nat.reduceMul, a140, rc_WaterConduit, g21151, g21153, c2116d]
noncomputable def h154l0_0 (z1 : Bool) (z2 : Bool) (z3 : Bool) (z4 : Bool) (z5 : Bool) (z6 : Bool) (z7 : Bool) (z8 : Bool) (z10 : Bool) (z11 : Bool) (z13 : Bool) (v2175 : Int) (v2176 : List WaterNode) (v2177 : List WaterConduit) (v2178 : List Branch) (v2179 : List Int) (v2180 : List Int) (v2182 : List Int) : (Int × (List Int) × (List Int)) → Env × Heap
  | (v2174, v2181, v2183) => ([(0, .yield 0), (1, .ptr 13 0), (3, .int .i64 v2174)], [.loop true .ready [(2, .ptr 1 0), (4, .ptr 5 0), (5, .ptr 8 0), (6, .ptr 11 0)] [96, 97] a101r1a a101r1b .normal, .row z1 false [.slice 2 0 v2176.length v2176.length 4 false, .slice 3 0 v2177.length v2177.length 6 false, .slice 4 0 v2178.length v2178.length 2 false, .int .i64 v2175], .row z2 true (rowC v2176), .row z3 true (rowC v2177), .row z4 true (rowC v2178), .row z5 false [.slice 6 0 v2179.length v2179.length 1 false, .slice 7 0 v2180.length v2180.length 1 false], .row z6 true (rowC v2179), .row z7 true (rowC v2180), .row z8 false [.slice 9 0 v2181.length v2181.length 1 true, .slice 10 0 v2182.length v2182.length 1 true], .row true true (rowC v2181), .row z10 true (rowC v2182), .row z11 false [.slice 12 0 v2183.length v2183.length 1 true], .row true true (rowC v2183), .row z13 false [.slice 4 0 v2178.length v2178.length 2 false]])
noncomputable def q154l0_0 (z1 : Bool) (z2 : Bool) (z3 : Bool) (z4 : Bool) (z5 : Bool) (z6 : Bool) (z7 : Bool) (z8 : Bool) (z10 : Bool) (z11 : Bool) (z13 : Bool) (v2175 : Int) (v2176 : List WaterNode) (v2177 : List WaterConduit) (v2178 : List Branch) (v2179 : List Int) (v2180 : List Int) (v2182 : List Int) : ((List Int) × (List Int)) → AExit × Env × Heap
  | (r2201, r2202) => (.exit 0, [], [.loop true .ready [(2, .ptr 1 0), (4, .ptr 5 0), (5, .ptr 8 0), (6, .ptr 11 0)] [96, 97] a101r1a a101r1b .normal, .row z1 false [.slice 2 0 v2176.length v2176.length 4 false, .slice 3 0 v2177.length v2177.length 6 false, .slice 4 0 v2178.length v2178.length 2 false, .int .i64 v2175], .row z2 true (rowC v2176), .row z3 true (rowC v2177), .row z4 true (rowC v2178), .row z5 false [.slice 6 0 v2179.length v2179.length 1 false, .slice 7 0 v2180.length v2180.length 1 false], .row z6 true (rowC v2179), .row z7 true (rowC v2180), .row z8 false [.slice 9 0 r2201.length r2201.length 1 true, .slice 10 0 v2182.length v2182.length 1 true], .row true true (rowC r2201), .row z10 true (rowC v2182), .row z11 false [.slice 12 0 r2202.length r2202.length 1 true], .row true true (rowC r2202), .row z13 false [.slice 4 0 v2178.length v2178.length 2 false]])
theorem k154l0_0 (z1 : Bool) (z2 : Bool) (z3 : Bool) (z4 : Bool) (z5 : Bool) (z6 : Bool) (z7 : Bool) (z8 : Bool) (z10 : Bool) (z11 : Bool) (z13 : Bool) (v2175 : Int) (v2176 : List WaterNode) (v2177 : List WaterConduit) (v2178 : List Branch) (v2179 : List Int) (v2180 : List Int) (v2182 : List Int) (s : Int × (List Int) × (List Int)) (o : (List Int) × (List Int)) (h : L154l0_0 v2175 v2176 v2177 v2178 v2179 v2180 v2182 s = some o) : Ev fun n => loopAt [0, 1, 3] [] a154l0b (ex tab n) 14 (h154l0_0 z1 z2 z3 z4 z5 z6 z7 z8 z10 z11 z13 v2175 v2176 v2177 v2178 v2179 v2180 v2182 s) = some (q154l0_0 z1 z2 z3 z4 z5 z6 z7 z8 z10 z11 z13 v2175 v2176 v2177 v2178 v2179 v2180 v2182 o) := by
  refine iter_sound (S154l0_0 v2175 v2176 v2177 v2178 v2179 v2180 v2182) [0, 1, 3] [] a154l0b 14 (h154l0_0 z1 z2 z3 z4 z5 z6 z7 z8 z10 z11 z13 v2175 v2176 v2177 v2178 v2179 v2180 v2182) (q154l0_0 z1 z2 z3 z4 z5 z6 z7 z8 z10 z11 z13 v2175 v2176 v2177 v2178 v2179 v2180 v2182) ?_ _ _ _ h
  rintro ⟨v2174, v2181, v2183⟩ z h
  simp only [S154l0_0] at h
  by_cases c2184 : 0 ≤ v2174
  · rw [if_pos c2184] at h
    have c2184d := dt c2184
    obtain ⟨j2185, x2186, g2187, h⟩ := un2 h
    obtain ⟨g21871, g21872⟩ := geti_in g2187
    have g21873 := ac_Branch g21872
    try simp only [wn] at g21871
    obtain ⟨r2190, r2191, g2188, h⟩ := un2 h
    obtain ⟨N2189, kN2189⟩ := c140_0 z2 z3 z4 v2175 x2186.fconduit x2186.fnode v2176 v2177 v2178 _ _ g2188
    obtain ⟨j2192, x2193, g2194, h⟩ := un2 h
    obtain ⟨g21941, g21942⟩ := geti_in g2194
    have g21943 := ac_Int g21942
    try simp only [wn] at g21941
    obtain ⟨j2195, x2196, g2197, h⟩ := un2 h
    obtain ⟨g21971, g21972⟩ := geti_in g2197
    have g21973 := ac_Int g21972
    try simp only [wn] at g21971
    obtain ⟨j2198, x2199, g2200, h⟩ := un2 h
    obtain ⟨g22001, g22002⟩ := geti_in g2200
    have g22003 := ac_Int g22002
    try simp only [wn] at g22001
    cases h
    refine ⟨N2189 + 1, fun n hn => ?_⟩
    obtain ⟨m, rfl⟩ := Nat.exists_eq_add_of_le' (show 1 ≤ n by omega)
    have kN2189y1 := kN2189 (m) (by omega)
    try simp (maxSteps := 2000000) only [wn, rc_Branch] at kN2189y1
    have kN2189 := kN2189 (m + 1) (by omega)
    try simp (maxSteps := 2000000) only [wn, rc_Branch] at kN2189
    simp (maxSteps := 2000000) only [W, reduceIte, Nat.reduceEqDiff, Nat.reduceAdd, Nat.reduceSub, Nat.reduceLT, Nat.reduceLeDiff, Nat.reduceMul, h154l0_0, q154l0_0, a101r1A, a101r1B, a154l0b, rc_Branch, c2184d, g21871, g21873, kN2189, g21941, g21943, g21971, g21973, g22001, g22003, kN2189y1, wd, wg, show ∀ p b e H, exec1 a101r1a p b e H = exec1 a101r1A p b e H from fun _ _ _ _ => rfl, show ∀ p b e H, exec1 a101r1b p b e H = exec1 a101r1B p b e H from fun _ _ _ _ => rfl]
  · rw [if_neg c2184] at h
    have c2184d := df c2184
    cases h
    refine ⟨0 + 1, fun n hn => ?_⟩
    obtain ⟨m, rfl⟩ := Nat.exists_eq_add_of_le' (show 1 ≤ n by omega)
    simp (maxSteps := 2000000) only [W, reduceIte, Nat.reduceEqDiff, Nat.reduceAdd, Nat.reduceSub, Nat.reduceLT, Nat.reduceLeDiff, Nat.reduceMul, h154l0_0, q154l0_0, a101r1A, a101r1B, a154l0b, rc_Branch, c2184d, wd, wg, show ∀ p b e H, exec1 a101r1a p b e H = exec1 a101r1A p b e H from fun _ _ _ _ => rfl, show ∀ p b e H, exec1 a101r1b p b e H = exec1 a101r1B p b e H from fun _ _ _ _ => rfl]
theorem c154_2 (z1 : Bool) (z2 : Bool) (z3 : Bool) (z4 : Bool) (z5 : Bool) (z6 : Bool) (z7 : Bool) (z8 : Bool) (z10 : Bool) (z11 : Bool) (z13 : Bool) (v2165 : Int) (v2166 : List WaterNode) (v2167 : List WaterConduit) (v2168 : List Branch) (v2169 : List Int) (v2170 : List Int) (v2171 : List Int) (v2172 : List Int) (v2173 : List Int) (r2207 : List Int) (r2208 : List Int) (h : F154_2 v2165 v2166 v2167 v2168 v2169 v2170 v2171 v2172 v2173 = some (r2207, r2208)) : Ev fun n => (ex tab n).call 154 [.yield 0, .ptr 13 0] [.loop true .ready [(2, .ptr 1 0), (4, .ptr 5 0), (5, .ptr 8 0), (6, .ptr 11 0)] [96, 97] a101r1a a101r1b .normal, .row z1 false [.slice 2 0 v2166.length v2166.length 4 false, .slice 3 0 v2167.length v2167.length 6 false, .slice 4 0 v2168.length v2168.length 2 false, .int .i64 v2165], .row z2 true (rowC v2166), .row z3 true (rowC v2167), .row z4 true (rowC v2168), .row z5 false [.slice 6 0 v2169.length v2169.length 1 false, .slice 7 0 v2170.length v2170.length 1 false], .row z6 true (rowC v2169), .row z7 true (rowC v2170), .row z8 false [.slice 9 0 v2171.length v2171.length 1 true, .slice 10 0 v2172.length v2172.length 1 true], .row true true (rowC v2171), .row z10 true (rowC v2172), .row z11 false [.slice 12 0 v2173.length v2173.length 1 true], .row true true (rowC v2173), .row z13 false [.slice 4 0 v2168.length v2168.length 2 false]] = some (.tup [], [.loop true .ready [(2, .ptr 1 0), (4, .ptr 5 0), (5, .ptr 8 0), (6, .ptr 11 0)] [96, 97] a101r1a a101r1b .normal, .row z1 false [.slice 2 0 v2166.length v2166.length 4 false, .slice 3 0 v2167.length v2167.length 6 false, .slice 4 0 v2168.length v2168.length 2 false, .int .i64 v2165], .row z2 true (rowC v2166), .row z3 true (rowC v2167), .row z4 true (rowC v2168), .row z5 false [.slice 6 0 v2169.length v2169.length 1 false, .slice 7 0 v2170.length v2170.length 1 false], .row z6 true (rowC v2169), .row z7 true (rowC v2170), .row z8 false [.slice 9 0 r2207.length r2207.length 1 true, .slice 10 0 v2172.length v2172.length 1 true], .row true true (rowC r2207), .row z10 true (rowC v2172), .row z11 false [.slice 12 0 r2208.length r2208.length 1 true], .row true true (rowC r2208), .row z13 false [.slice 4 0 v2168.length v2168.length 2 false]]) := by
  unfold F154_2 at h
  obtain ⟨r2205, r2206, g2203, h⟩ := un2 h
  have kN2204 := k154l0_0 z1 z2 z3 z4 z5 z6 z7 z8 z10 z11 z13 v2165 v2166 v2167 v2168 v2169 v2170 v2172 ((aw .i64 ((v2168.length : Int) - 1)), v2171, v2173) _ g2203
  obtain ⟨N2204, kN2204⟩ := kN2204
  cases h
  refine ev_call (fn := a154) rfl ⟨N2204, fun n hn => ?_⟩
  have kN2204 := kN2204 n (by omega)
  simp (maxSteps := 2000000) only [h154l0_0, q154l0_0, wn, rc_Branch] at kN2204
  simp (maxSteps := 2000000) only [W, reduceIte, Nat.reduceEqDiff, Nat.reduceAdd, Nat.reduceSub, Nat.reduceLT, Nat.reduceLeDiff, Nat.reduceMul, a154, a154l0, rc_Branch, kN2204, @x_loopAt, wg]
end Go.AI
end
section
/-
  Functions, walked through: water.tree).state, water.StateAt.
-/
set_option linter.unusedVariables false
set_option linter.unusedSimpArgs false
set_option maxRecDepth 100000
set_option maxHeartbeats 4000000
namespace Go.AI
noncomputable def h101l2_0 (z0 : Bool) (z1 : Bool) (z2 : Bool) (v2213 : Int) (v2215 : List WaterNode) (v2216 : List WaterConduit) (v2217 : List Branch) (v2218 : Int) (v2219 : List Int) (v2220 : List Int) (v2221 : List Int) : (Int × (List Int)) → Env × Heap
  | (v2214, v2222) => ([(2, .ptr 3 0), (4, .ptr 4 0), (5, .ptr 7 0), (128, .slice 2 0 v2217.length v2217.length 2 false), (129, .int .i64 v2213), (130, .int .i64 v2214)], [.row z0 true (rowC v2215), .row z1 true (rowC v2216), .row z2 true (rowC v2217), .row true false [.slice 0 0 v2215.length v2215.length 4 false, .slice 1 0 v2216.length v2216.length 6 false, .slice 2 0 v2217.length v2217.length 2 false, .int .i64 v2218], .row true false [.slice 5 0 v2219.length v2219.length 1 false, .slice 6 0 v2220.length v2220.length 1 false], .row true true (rowC v2219), .row true true (rowC v2220), .row true false [.slice 8 0 v2221.length v2221.length 1 true, .slice 9 0 v2222.length v2222.length 1 true], .row true true (rowC v2221), .row true true (rowC v2222)])
noncomputable def q101l2_0 (z0 : Bool) (z1 : Bool) (z2 : Bool) (v2213 : Int) (v2215 : List WaterNode) (v2216 : List WaterConduit) (v2217 : List Branch) (v2218 : Int) (v2219 : List Int) (v2220 : List Int) (v2221 : List Int) : ((List Int)) → AExit × Env × Heap
  | r2246 => (.exit 4, [(4, .ptr 3 0), (5, .ptr 6 0)], [.row z0 true (rowC v2215), .row z1 true (rowC v2216), .row z2 true (rowC v2217), .row true false [.slice 4 0 v2219.length v2219.length 1 false, .slice 5 0 v2220.length v2220.length 1 false], .row true true (rowC v2219), .row true true (rowC v2220), .row true false [.slice 7 0 v2221.length v2221.length 1 true, .slice 8 0 r2246.length r2246.length 1 true], .row true true (rowC v2221), .row true true (rowC r2246)])
theorem k101l2_0 (z0 : Bool) (z1 : Bool) (z2 : Bool) (v2213 : Int) (v2215 : List WaterNode) (v2216 : List WaterConduit) (v2217 : List Branch) (v2218 : Int) (v2219 : List Int) (v2220 : List Int) (v2221 : List Int) (s : Int × (List Int)) (o : (List Int)) (h : L101l2_0 v2213 v2215 v2216 v2217 v2218 v2219 v2220 v2221 s = some o) : Ev fun n => loopAt [2, 4, 5, 128, 129, 130] [4, 5] a101l2b (ex tab n) 3 (h101l2_0 z0 z1 z2 v2213 v2215 v2216 v2217 v2218 v2219 v2220 v2221 s) = some (q101l2_0 z0 z1 z2 v2213 v2215 v2216 v2217 v2218 v2219 v2220 v2221 o) := by
  refine iter_sound (S101l2_0 v2213 v2215 v2216 v2217 v2218 v2219 v2220 v2221) [2, 4, 5, 128, 129, 130] [4, 5] a101l2b 3 (h101l2_0 z0 z1 z2 v2213 v2215 v2216 v2217 v2218 v2219 v2220 v2221) (q101l2_0 z0 z1 z2 v2213 v2215 v2216 v2217 v2218 v2219 v2220 v2221) ?_ _ _ _ h
  rintro ⟨v2214, v2222⟩ z h
  simp only [S101l2_0] at h
  by_cases c2223 : v2213 ≤ v2214
  · rw [if_pos c2223] at h
    have c2223d := dt c2223
    cases h
    refine ⟨0, fun n hn => ?_⟩
    simp (maxSteps := 2000000) only [W, reduceIte, Nat.reduceEqDiff, Nat.reduceAdd, Nat.reduceSub, Nat.reduceLT, Nat.reduceLeDiff, Nat.reduceMul, h101l2_0, q101l2_0, a101l2b, rc_Branch, rc_WaterConduit, c2223d, wd]
  · rw [if_neg c2223] at h
    have c2223d := df c2223
    obtain ⟨j2224, x2225, g2226, h⟩ := un2 h
    obtain ⟨g22261, g22262⟩ := geti_in g2226
    have g22263 := ac_Branch g22262
    try simp only [wn] at g22261
    obtain ⟨r2229, r2230, g2227, h⟩ := un2 h
    obtain ⟨N2228, kN2228⟩ := c140_0 z0 z1 z2 v2218 x2225.fconduit x2225.fnode v2215 v2216 v2217 _ _ g2227
    obtain ⟨j2231, x2232, g2233, h⟩ := un2 h
    obtain ⟨g22331, g22332⟩ := geti_in g2233
    have g22333 := ac_Int g22332
    try simp only [wn] at g22331
    obtain ⟨j2234, x2235, g2236, h⟩ := un2 h
    obtain ⟨g22361, g22362⟩ := geti_in g2236
    have g22363 := ac_WaterConduit g22362
    try simp only [wn] at g22361
    obtain ⟨j2237, x2238, g2239, h⟩ := un2 h
    obtain ⟨g22391, g22392⟩ := geti_in g2239
    have g22393 := ac_Int g22392
    try simp only [wn] at g22391
    obtain ⟨r2242, g2240, h⟩ := un1 h
    obtain ⟨N2241, kN2241⟩ := c77_0 x2235.fResist (aw .i64 (r2230 * x2238)) _ g2240
    obtain ⟨j2243, x2244, g2245, h⟩ := un2 h
    obtain ⟨g22451, g22452⟩ := geti_in g2245
    have g22453 := ac_Int g22452
    try simp only [wn] at g22451
    cases h
    refine ⟨N2228 + N2241, fun n hn => ?_⟩
    have kN2228 := kN2228 n (by omega)
    try simp (maxSteps := 2000000) only [wn, rc_Branch] at kN2228
    have kN2241 := kN2241 n (by omega)
    try simp (maxSteps := 2000000) only [wn, rc_Branch, rc_WaterConduit] at kN2241
    simp (maxSteps := 2000000) only [W, reduceIte, Nat.reduceEqDiff, Nat.reduceAdd, Nat.reduceSub, Nat.reduceLT, Nat.reduceLeDiff, Nat.reduceMul, h101l2_0, q101l2_0, a101l2b, rc_Branch, rc_WaterConduit, c2223d, g22261, g22263, kN2228, g22331, g22333, g22361, g22363, g22391, g22393, kN2241, g22451, g22453, wd]
theorem c101_0 (z0 : Bool) (z1 : Bool) (z2 : Bool) (v2027 : Int) (v2028 : Int) (v2029 : List WaterNode) (v2030 : List WaterConduit) (v2031 : List Branch) (r2259 : List Int) (r2260 : List Int) (h : F101_0 v2027 v2028 v2029 v2030 v2031 = some (r2259, r2260)) : Ev fun n => (ex tab n).call 101 [.agg [.slice 0 0 v2029.length v2029.length 4 false, .slice 1 0 v2030.length v2030.length 6 false, .slice 2 0 v2031.length v2031.length 2 false, .int .i64 v2027], .int .i64 v2028] [.row z0 true (rowC v2029), .row z1 true (rowC v2030), .row z2 true (rowC v2031)] = some (.agg [.slice 3 0 r2259.length r2259.length 1 true, .slice 4 0 r2260.length r2260.length 1 true], [.row z0 true (rowC v2029), .row z1 true (rowC v2030), .row z2 true (rowC v2031), .row true true (rowC r2259), .row true true (rowC r2260)]) := by
  unfold F101_0 at h
  obtain ⟨n2032, g2033, h⟩ := un1 h
  try simp only [wn] at g2033
  obtain ⟨g2034, h⟩ := un_roomd h
  obtain ⟨n2035, g2036, h⟩ := un1 h
  try simp only [wn] at g2036
  obtain ⟨g2037, h⟩ := un_roomd h
  obtain ⟨g2039, h⟩ := un_roomd h
  obtain ⟨r2066, r2067, g2064, h⟩ := un2 h
  have kN2065 := k101l0_0 z0 z1 z2 v2028 (v2029.length : Int) v2029 v2030 v2031 v2027 ([] : List Int) ([] : List Int) (List.replicate n2032 (0 : Int)) (0, (List.replicate n2035 (0 : Int)), (List.replicate n2035 (0 : Int))) _ g2064
  obtain ⟨N2065, kN2065⟩ := kN2065
  by_cases c2068 : 0 ≤ v2027
  · rw [if_pos c2068] at h
    have c2068d := dt c2068
    obtain ⟨j2069, x2070, g2071, h⟩ := un2 h
    obtain ⟨g20711, g20712⟩ := geti_in g2071
    have g20713 := ac_WaterConduit g20712
    try simp only [wn] at g20711
    obtain ⟨j2072, x2073, g2074, h⟩ := un2 h
    obtain ⟨g20741, g20742⟩ := geti_in g2074
    have g20743 := ac_Int g20742
    try simp only [wn] at g20741
    try simp only [wn] at g20743
    obtain ⟨j2075, x2076, g2077, h⟩ := un2 h
    obtain ⟨g20771, g20772⟩ := geti_in g2077
    have g20773 := ac_Int g20772
    try simp only [wn] at g20771
    obtain ⟨j2078, x2079, g2080, h⟩ := un2 h
    obtain ⟨g20801, g20802⟩ := geti_in g2080
    have g20803 := ac_Int g20802
    try simp only [wn] at g20801
    try simp only [wn] at g20803
    obtain ⟨_, g2082, h⟩ := un1 h
    obtain ⟨N2083, kN2083⟩ := c139_0 z2 v2031 g2082
    obtain ⟨r2211, r2212, g2209, h⟩ := un2 h
    obtain ⟨N2210, kN2210⟩ := c154_2 true z0 z1 z2 true true true true true true true v2027 v2029 v2030 v2031 ([] : List Int) ([] : List Int) ((List.replicate n2032 (0 : Int)).set j2072 v2028) r2066 ((r2067.set j2075 (aw .i64 (x2076 + v2028))).set j2078 (aw .i64 (x2079 - v2028))) _ _ g2209
    obtain ⟨r2249, g2247, h⟩ := un1 h
    have kN2248 := k101l2_0 z0 z1 z2 (v2031.length : Int) v2029 v2030 v2031 v2027 ([] : List Int) ([] : List Int) r2211 (0, r2066) _ g2247
    obtain ⟨N2248, kN2248⟩ := kN2248
    cases h
    refine ev_call (fn := a101) rfl ⟨N2065 + N2083 + N2210 + N2248, fun n hn => ?_⟩
    have kN2065 := kN2065 n (by omega)
    simp (maxSteps := 2000000) only [h101l0_0, q101l0_0, wn, rc_WaterNode] at kN2065
    have kN2083 := kN2083 n (by omega)
    try simp (maxSteps := 2000000) only [wn, rc_WaterConduit, rc_WaterNode] at kN2083
    have kN2210 := kN2210 n (by omega)
    try simp (maxSteps := 2000000) only [wn, rc_WaterConduit, rc_WaterNode] at kN2210
    have kN2248 := kN2248 n (by omega)
    simp (maxSteps := 2000000) only [h101l2_0, q101l2_0, wn, rc_Branch, rc_WaterConduit, rc_WaterNode] at kN2248
    simp (maxSteps := 2000000) only [W, reduceIte, Nat.reduceEqDiff, Nat.reduceAdd, Nat.reduceSub, Nat.reduceLT, Nat.reduceLeDiff, Nat.reduceMul, a101, a101l0, a101l2, rc_Branch, rc_WaterConduit, rc_WaterNode, g2033, g2034, g2036, g2037, g2039, kN2065, c2068d, g20711, g20713, g20741, g20743, g20771, g20773, g20801, g20803, kN2083, kN2210, kN2248, @x_loopAt, wd, wg]
  · rw [if_neg c2068] at h
    have c2068d := df c2068
    obtain ⟨_, g2250, h⟩ := un1 h
    obtain ⟨N2251, kN2251⟩ := c139_0 z2 v2031 g2250
    obtain ⟨r2254, r2255, g2252, h⟩ := un2 h
    obtain ⟨N2253, kN2253⟩ := c154_2 true z0 z1 z2 true true true true true true true v2027 v2029 v2030 v2031 ([] : List Int) ([] : List Int) (List.replicate n2032 (0 : Int)) r2066 r2067 _ _ g2252
    obtain ⟨r2258, g2256, h⟩ := un1 h
    have kN2257 := k101l2_0 z0 z1 z2 (v2031.length : Int) v2029 v2030 v2031 v2027 ([] : List Int) ([] : List Int) r2254 (0, r2066) _ g2256
    obtain ⟨N2257, kN2257⟩ := kN2257
    cases h
    refine ev_call (fn := a101) rfl ⟨N2065 + N2251 + N2253 + N2257, fun n hn => ?_⟩
    have kN2065 := kN2065 n (by omega)
    simp (maxSteps := 2000000) only [h101l0_0, q101l0_0, wn, rc_WaterNode] at kN2065
    have kN2251 := kN2251 n (by omega)
    try simp (maxSteps := 2000000) only [wn, rc_Branch, rc_WaterConduit, rc_WaterNode] at kN2251
    have kN2253 := kN2253 n (by omega)
    try simp (maxSteps := 2000000) only [wn, rc_Branch, rc_WaterConduit, rc_WaterNode] at kN2253
    have kN2257 := kN2257 n (by omega)
    simp (maxSteps := 2000000) only [h101l2_0, q101l2_0, wn, rc_Branch, rc_WaterConduit, rc_WaterNode] at kN2257
    simp (maxSteps := 2000000) only [W, reduceIte, Nat.reduceEqDiff, Nat.reduceAdd, Nat.reduceSub, Nat.reduceLT, Nat.reduceLeDiff, Nat.reduceMul, a101, a101l0, a101l2, rc_Branch, rc_WaterConduit, rc_WaterNode, g2033, g2034, g2036, g2037, g2039, kN2065, c2068d, kN2251, kN2253, kN2257, @x_loopAt, wd, wg]
theorem c40_0 (z0 : Bool) (z1 : Bool) (v2000 : Int) (v2001 : List WaterNode) (v2002 : List WaterConduit) (r : ((List Int) × (List Int)) ⊕ (Int)) (h : F40_0 v2000 v2001 v2002 = some r) : match r with
    | .inl (r2303, r2304) => Ev fun n => (ex tab n).call 40 [.agg [.slice 0 0 v2001.length v2001.length 4 false, .slice 1 0 v2002.length v2002.length 6 false], .int .i64 v2000] [.row z0 true (rowC v2001), .row z1 true (rowC v2002)] = some (.tup [.agg [.slice 2 0 r2303.length r2303.length 1 true, .slice 3 0 r2304.length r2304.length 1 true], .int .i64 0], [.row z0 true (rowC v2001), .row z1 true (rowC v2002), .row true true (rowC r2303), .row true true (rowC r2304)])
    | .inr (r2305) => Ev fun n => (ex tab n).call 40 [.agg [.slice 0 0 v2001.length v2001.length 4 false, .slice 1 0 v2002.length v2002.length 6 false], .int .i64 v2000] [.row z0 true (rowC v2001), .row z1 true (rowC v2002)] = some (.tup [.agg [.slice 2 0 0 0 1 false, .slice 3 0 0 0 1 false], .int .i64 r2305], [.row z0 true (rowC v2001), .row z1 true (rowC v2002), .row true true [], .row true true []]) := by
  unfold F40_0 at h
  obtain ⟨g2003_, g2003, h⟩ := un1 h
  rcases g2003_ with ⟨r2005, r2006, r2007⟩ | r2276
  · dsimp only at h
    obtain ⟨N2004, kN2004⟩ := c99_0 z0 z1 v2001 v2002 _ g2003
    obtain ⟨r2018, g2016, h⟩ := un1 h
    obtain ⟨N2017, kN2017⟩ := c100_0 v2000 _ g2016
    by_cases c2019 : v2000 = 0
    · rw [if_pos c2019] at h
      have c2019d := dt c2019
      obtain ⟨r2022, g2020, h⟩ := un1 h
      obtain ⟨N2021, kN2021⟩ := c72_0 true 3 _ g2020
      obtain ⟨r2025, g2023, h⟩ := un1 h
      obtain ⟨N2024, kN2024⟩ := c71_0 true ([r2006, r2018, r2022] : List Int) _ g2023
      by_cases c2026 : r2025 = 0
      · rw [if_pos c2026] at h
        have c2026d := dt c2026
        obtain ⟨r2263, r2264, g2261, h⟩ := un2 h
        obtain ⟨N2262, kN2262⟩ := c101_0 z0 z1 true r2005 v2000 v2001 v2002 r2007 _ _ g2261
        cases h
        refine ev_call (fn := a40) rfl ⟨N2004 + N2017 + N2021 + N2024 + N2262, fun n hn => ?_⟩
        have kN2004 := kN2004 n (by omega)
        try simp (maxSteps := 2000000) only [wn] at kN2004
        have kN2017 := kN2017 n (by omega)
        try simp (maxSteps := 2000000) only [wn, rc_Branch, rc_WaterConduit, rc_WaterNode] at kN2017
        have kN2021 := kN2021 n (by omega)
        try simp (maxSteps := 2000000) only [wn, rc_Branch, rc_WaterConduit, rc_WaterNode] at kN2021
        have kN2024 := kN2024 n (by omega)
        try simp (maxSteps := 2000000) only [wn, rc_Branch, rc_WaterConduit, rc_WaterNode] at kN2024
        have kN2262 := kN2262 n (by omega)
        try simp (maxSteps := 2000000) only [wn, rc_Branch, rc_WaterConduit, rc_WaterNode] at kN2262
        simp (maxSteps := 2000000) only [W, reduceIte, Nat.reduceEqDiff, Nat.reduceAdd, Nat.reduceSub, Nat.reduceLT, Nat.reduceLeDiff, Nat.reduceMul, a40, rc_Branch, rc_WaterConduit, rc_WaterNode, kN2004, kN2017, c2019d, kN2021, kN2024, c2026d, kN2262]
      · rw [if_neg c2026] at h
        have c2026d := df c2026
        cases h
        refine ev_call (fn := a40) rfl ⟨N2004 + N2017 + N2021 + N2024, fun n hn => ?_⟩
        have kN2004 := kN2004 n (by omega)
        try simp (maxSteps := 2000000) only [wn] at kN2004
        have kN2017 := kN2017 n (by omega)
        try simp (maxSteps := 2000000) only [wn, rc_Branch, rc_WaterConduit, rc_WaterNode] at kN2017
        have kN2021 := kN2021 n (by omega)
        try simp (maxSteps := 2000000) only [wn, rc_Branch, rc_WaterConduit, rc_WaterNode] at kN2021
        have kN2024 := kN2024 n (by omega)
        try simp (maxSteps := 2000000) only [wn, rc_Branch, rc_WaterConduit, rc_WaterNode] at kN2024
        simp (maxSteps := 2000000) only [W, reduceIte, Nat.reduceEqDiff, Nat.reduceAdd, Nat.reduceSub, Nat.reduceLT, Nat.reduceLeDiff, Nat.reduceMul, a40, rc_Branch, rc_WaterConduit, rc_WaterNode, kN2004, kN2017, c2019d, kN2021, kN2024, c2026d]
    · rw [if_neg c2019] at h
      have c2019d := df c2019
      obtain ⟨r2267, g2265, h⟩ := un1 h
      obtain ⟨N2266, kN2266⟩ := c72_0 (decide (0 ≤ r2005)) 3 _ g2265
      obtain ⟨r2270, g2268, h⟩ := un1 h
      obtain ⟨N2269, kN2269⟩ := c71_0 true ([r2006, r2018, r2267] : List Int) _ g2268
      by_cases c2271 : r2270 = 0
      · rw [if_pos c2271] at h
        have c2271d := dt c2271
        obtain ⟨r2274, r2275, g2272, h⟩ := un2 h
        obtain ⟨N2273, kN2273⟩ := c101_0 z0 z1 true r2005 v2000 v2001 v2002 r2007 _ _ g2272
        cases h
        refine ev_call (fn := a40) rfl ⟨N2004 + N2017 + N2266 + N2269 + N2273, fun n hn => ?_⟩
        have kN2004 := kN2004 n (by omega)
        try simp (maxSteps := 2000000) only [wn] at kN2004
        have kN2017 := kN2017 n (by omega)
        try simp (maxSteps := 2000000) only [wn, rc_Branch, rc_WaterConduit, rc_WaterNode] at kN2017
        have kN2266 := kN2266 n (by omega)
        try simp (maxSteps := 2000000) only [wn, rc_Branch, rc_WaterConduit, rc_WaterNode] at kN2266
        have kN2269 := kN2269 n (by omega)
        try simp (maxSteps := 2000000) only [wn, rc_Branch, rc_WaterConduit, rc_WaterNode] at kN2269
        have kN2273 := kN2273 n (by omega)
        try simp (maxSteps := 2000000) only [wn, rc_Branch, rc_WaterConduit, rc_WaterNode] at kN2273
        simp (maxSteps := 2000000) only [W, reduceIte, Nat.reduceEqDiff, Nat.reduceAdd, Nat.reduceSub, Nat.reduceLT, Nat.reduceLeDiff, Nat.reduceMul, a40, rc_Branch, rc_WaterConduit, rc_WaterNode, kN2004, kN2017, c2019d, kN2266, kN2269, c2271d, kN2273]
      · rw [if_neg c2271] at h
        have c2271d := df c2271
        cases h
        refine ev_call (fn := a40) rfl ⟨N2004 + N2017 + N2266 + N2269, fun n hn => ?_⟩
        have kN2004 := kN2004 n (by omega)
        try simp (maxSteps := 2000000) only [wn] at kN2004
        have kN2017 := kN2017 n (by omega)
        try simp (maxSteps := 2000000) only [wn, rc_Branch, rc_WaterConduit, rc_WaterNode] at kN2017
        have kN2266 := kN2266 n (by omega)
        try simp (maxSteps := 2000000) only [wn, rc_Branch, rc_WaterConduit, rc_WaterNode] at kN2266
        have kN2269 := kN2269 n (by omega)
        try simp (maxSteps := 2000000) only [wn, rc_Branch, rc_WaterConduit, rc_WaterNode] at kN2269
        simp (maxSteps := 2000000) only [W, reduceIte, Nat.reduceEqDiff, Nat.reduceAdd, Nat.reduceSub, Nat.reduceLT, Nat.reduceLeDiff, Nat.reduceMul, a40, rc_Branch, rc_WaterConduit, rc_WaterNode, kN2004, kN2017, c2019d, kN2266, kN2269, c2271d]
  · dsimp only at h
    obtain ⟨N2004, kN2004⟩ := c99_0 z0 z1 v2001 v2002 _ g2003
    obtain ⟨r2279, g2277, h⟩ := un1 h
    obtain ⟨N2278, kN2278⟩ := c100_0 v2000 _ g2277
    by_cases c2280 : v2000 = 0
    · rw [if_pos c2280] at h
      have c2280d := dt c2280
      obtain ⟨r2283, g2281, h⟩ := un1 h
      obtain ⟨N2282, kN2282⟩ := c72_0 true 3 _ g2281
      obtain ⟨r2286, g2284, h⟩ := un1 h
      obtain ⟨N2285, kN2285⟩ := c71_0 true ([r2276, r2279, r2283] : List Int) _ g2284
      by_cases c2287 : r2286 = 0
      · rw [if_pos c2287] at h
        have c2287d := dt c2287
        obtain ⟨r2290, r2291, g2288, h⟩ := un2 h
        obtain ⟨N2289, kN2289⟩ := c101_0 true true true 0 v2000 ([] : List WaterNode) ([] : List WaterConduit) ([] : List Branch) _ _ g2288
        cases h
        refine ev_call (fn := a40) rfl ⟨N2004 + N2278 + N2282 + N2285 + N2289, fun n hn => ?_⟩
        have kN2004 := kN2004 n (by omega)
        try simp (maxSteps := 2000000) only [wn, rc_Branch, rc_WaterConduit, rc_WaterNode] at kN2004
        have kN2278 := kN2278 n (by omega)
        try simp (maxSteps := 2000000) only [wn, rc_Branch, rc_WaterConduit, rc_WaterNode] at kN2278
        have kN2282 := kN2282 n (by omega)
        try simp (maxSteps := 2000000) only [wn, rc_Branch, rc_WaterConduit, rc_WaterNode] at kN2282
        have kN2285 := kN2285 n (by omega)
        try simp (maxSteps := 2000000) only [wn, rc_Branch, rc_WaterConduit, rc_WaterNode] at kN2285
        have kN2289 := kN2289 n (by omega)
        try simp (maxSteps := 2000000) only [wn, rc_Branch, rc_WaterConduit, rc_WaterNode] at kN2289
        simp (maxSteps := 2000000) only [W, reduceIte, Nat.reduceEqDiff, Nat.reduceAdd, Nat.reduceSub, Nat.reduceLT, Nat.reduceLeDiff, Nat.reduceMul, a40, rc_Branch, rc_WaterConduit, rc_WaterNode, kN2004, kN2278, c2280d, kN2282, kN2285, c2287d, kN2289]
      · rw [if_neg c2287] at h
        have c2287d := df c2287
        cases h
        refine ev_call (fn := a40) rfl ⟨N2004 + N2278 + N2282 + N2285, fun n hn => ?_⟩
        have kN2004 := kN2004 n (by omega)
        try simp (maxSteps := 2000000) only [wn, rc_Branch, rc_WaterConduit, rc_WaterNode] at kN2004
        have kN2278 := kN2278 n (by omega)
        try simp (maxSteps := 2000000) only [wn, rc_Branch, rc_WaterConduit, rc_WaterNode] at kN2278
        have kN2282 := kN2282 n (by omega)
        try simp (maxSteps := 2000000) only [wn, rc_Branch, rc_WaterConduit, rc_WaterNode] at kN2282
        have kN2285 := kN2285 n (by omega)
        try simp (maxSteps := 2000000) only [wn, rc_Branch, rc_WaterConduit, rc_WaterNode] at kN2285
        simp (maxSteps := 2000000) only [W, reduceIte, Nat.reduceEqDiff, Nat.reduceAdd, Nat.reduceSub, Nat.reduceLT, Nat.reduceLeDiff, Nat.reduceMul, a40, rc_Branch, rc_WaterConduit, rc_WaterNode, kN2004, kN2278, c2280d, kN2282, kN2285, c2287d]
    · rw [if_neg c2280] at h
      have c2280d := df c2280
      obtain ⟨r2294, g2292, h⟩ := un1 h
      obtain ⟨N2293, kN2293⟩ := c72_0 (decide ((0 : Int) ≤ 0)) 3 _ g2292
      obtain ⟨r2297, g2295, h⟩ := un1 h
      obtain ⟨N2296, kN2296⟩ := c71_0 true ([r2276, r2279, r2294] : List Int) _ g2295
      by_cases c2298 : r2297 = 0
      · rw [if_pos c2298] at h
        have c2298d := dt c2298
        obtain ⟨r2301, r2302, g2299, h⟩ := un2 h
        obtain ⟨N2300, kN2300⟩ := c101_0 true true true 0 v2000 ([] : List WaterNode) ([] : List WaterConduit) ([] : List Branch) _ _ g2299
        cases h
        refine ev_call (fn := a40) rfl ⟨N2004 + N2278 + N2293 + N2296 + N2300, fun n hn => ?_⟩
        have kN2004 := kN2004 n (by omega)
        try simp (maxSteps := 2000000) only [wn, rc_Branch, rc_WaterConduit, rc_WaterNode] at kN2004
        have kN2278 := kN2278 n (by omega)
        try simp (maxSteps := 2000000) only [wn, rc_Branch, rc_WaterConduit, rc_WaterNode] at kN2278
        have kN2293 := kN2293 n (by omega)
        try simp (maxSteps := 2000000) only [wn, rc_Branch, rc_WaterConduit, rc_WaterNode] at kN2293
        have kN2296 := kN2296 n (by omega)
        try simp (maxSteps := 2000000) only [wn, rc_Branch, rc_WaterConduit, rc_WaterNode] at kN2296
        have kN2300 := kN2300 n (by omega)
        try simp (maxSteps := 2000000) only [wn, rc_Branch, rc_WaterConduit, rc_WaterNode] at kN2300
        simp (maxSteps := 2000000) only [W, reduceIte, Nat.reduceEqDiff, Nat.reduceAdd, Nat.reduceSub, Nat.reduceLT, Nat.reduceLeDiff, Nat.reduceMul, a40, rc_Branch, rc_WaterConduit, rc_WaterNode, kN2004, kN2278, c2280d, kN2293, kN2296, c2298d, kN2300]
      · rw [if_neg c2298] at h
        have c2298d := df c2298
        cases h
        refine ev_call (fn := a40) rfl ⟨N2004 + N2278 + N2293 + N2296, fun n hn => ?_⟩
        have kN2004 := kN2004 n (by omega)
        try simp (maxSteps := 2000000) only [wn, rc_Branch, rc_WaterConduit, rc_WaterNode] at kN2004
        have kN2278 := kN2278 n (by omega)
        try simp (maxSteps := 2000000) only [wn, rc_Branch, rc_WaterConduit, rc_WaterNode] at kN2278
        have kN2293 := kN2293 n (by omega)
        try simp (maxSteps := 2000000) only [wn, rc_Branch, rc_WaterConduit, rc_WaterNode] at kN2293
        have kN2296 := kN2296 n (by omega)
        try simp (maxSteps := 2000000) only [wn, rc_Branch, rc_WaterConduit, rc_WaterNode] at kN2296
        simp (maxSteps := 2000000) only [W, reduceIte, Nat.reduceEqDiff, Nat.reduceAdd, Nat.reduceSub, Nat.reduceLT, Nat.reduceLeDiff, Nat.reduceMul, a40, rc_Branch, rc_WaterConduit, rc_WaterNode, kN2004, kN2278, c2280d, kN2293, kN2296, c2298d]
end Go.AI
end
section
/-
  Functions, walked through: .
-/
set_option linter.unusedVariables false
set_option linter.unusedSimpArgs false
set_option maxRecDepth 100000
set_option maxHeartbeats 4000000
namespace Go.AI
noncomputable def h6l0_0 (z0 : Bool) (z1 : Bool) (v2323 : Int) (v2324 : Int) (v2326 : List WaterNode) (v2327 : List WaterConduit) (v2328 : Int) (v2329 : Int) (v2330 : List Int) (v2331 : List Int) : (Int × (List Int)) → Env × Heap
  | (v2325, v2332) => ([(2, .ptr 2 0), (3, .ptr 3 0), (5, .int .i64 v2323), (7, .int .i64 v2324), (8, .ptr 4 0), (10, .slice 7 0 v2332.length v2332.length 1 false), (11, .int .i64 v2325)], [.row z0 true (rowC v2326), .row z1 true (rowC v2327), .row true false [.slice 0 0 v2326.length v2326.length 4 false, .slice 1 0 v2327.length v2327.length 6 false], .row true true [.int .i64 v2328, .int .i64 v2329], .row true false [.slice 5 0 v2330.length v2330.length 1 true, .slice 6 0 v2331.length v2331.length 1 true], .row true true (rowC v2330), .row true true (rowC v2331), .row true true (rowC v2332)])
noncomputable def q6l0_0 (z0 : Bool) (z1 : Bool) (v2323 : Int) (v2324 : Int) (v2326 : List WaterNode) (v2327 : List WaterConduit) (v2328 : Int) (v2329 : Int) (v2330 : List Int) (v2331 : List Int) : (((List Int)) ⊕ ((List Int))) → AExit × Env × Heap
  | .inl (r2442) => (.exit 0, [(2, .ptr 2 0), (3, .ptr 3 0), (4, .undef), (5, .int .i64 v2323), (7, .int .i64 v2324), (8, .ptr 4 0), (10, .slice 7 0 r2442.length r2442.length 1 false)], [.row z0 true (rowC v2326), .row z1 true (rowC v2327), .row true false [.slice 0 0 v2326.length v2326.length 4 false, .slice 1 0 v2327.length v2327.length 6 false], .row true true [.int .i64 v2328, .int .i64 v2329], .row true false [.slice 5 0 v2330.length v2330.length 1 true, .slice 6 0 v2331.length v2331.length 1 true], .row true true (rowC v2330), .row true true (rowC v2331), .row true true (rowC r2442)])
  | .inr (r2443) => (.ret, [(2, .ptr 2 0), (3, .ptr 3 0), (4, .bool false), (5, .int .i64 v2323), (7, .int .i64 v2324), (8, .ptr 4 0), (10, .slice 7 0 r2443.length r2443.length 1 false)], [.row z0 true (rowC v2326), .row z1 true (rowC v2327), .row true false [.slice 0 0 v2326.length v2326.length 4 false, .slice 1 0 v2327.length v2327.length 6 false], .row true true [.int .i64 v2328, .int .i64 v2329], .row true false [.slice 5 0 v2330.length v2330.length 1 true, .slice 6 0 v2331.length v2331.length 1 true], .row true true (rowC v2330), .row true true (rowC v2331), .row true true (rowC r2443)])
theorem k6l0_0 (z0 : Bool) (z1 : Bool) (v2323 : Int) (v2324 : Int) (v2326 : List WaterNode) (v2327 : List WaterConduit) (v2328 : Int) (v2329 : Int) (v2330 : List Int) (v2331 : List Int) (s : Int × (List Int)) (o : ((List Int)) ⊕ ((List Int))) (h : L6l0_0 v2323 v2324 v2326 v2327 v2328 v2329 v2330 v2331 s = some o) : Ev fun n => loopAt [2, 3, 5, 7, 8, 10, 11] [2, 3, 4, 5, 7, 8, 10] a6l0b (ex tab n) 2 (h6l0_0 z0 z1 v2323 v2324 v2326 v2327 v2328 v2329 v2330 v2331 s) = some (q6l0_0 z0 z1 v2323 v2324 v2326 v2327 v2328 v2329 v2330 v2331 o) := by
  refine iter_sound (S6l0_0 v2323 v2324 v2326 v2327 v2328 v2329 v2330 v2331) [2, 3, 5, 7, 8, 10, 11] [2, 3, 4, 5, 7, 8, 10] a6l0b 2 (h6l0_0 z0 z1 v2323 v2324 v2326 v2327 v2328 v2329 v2330 v2331) (q6l0_0 z0 z1 v2323 v2324 v2326 v2327 v2328 v2329 v2330 v2331) ?_ _ _ _ h
  rintro ⟨v2325, v2332⟩ z h
  simp only [S6l0_0] at h
  by_cases c2333 : (v2327.length : Int) ≤ v2325
  · rw [if_pos c2333] at h
    have c2333d := dt c2333
    cases h
    refine ⟨0, fun n hn => ?_⟩
    simp (maxSteps := 2000000) only [W, reduceIte, Nat.reduceEqDiff, Nat.reduceAdd, Nat.reduceSub, Nat.reduceLT, Nat.reduceLeDiff, Nat.reduceMul, h6l0_0, q6l0_0, a6l0b, rc_WaterConduit, c2333d, wd]
  · rw [if_neg c2333] at h
    have c2333d := df c2333
    obtain ⟨j2334, x2335, g2336, h⟩ := un2 h
    obtain ⟨g23361, g23362⟩ := geti_in g2336
    have g23363 := ac_WaterConduit g23362
    try simp only [wn] at g23361
    obtain ⟨j2337, x2338, g2339, h⟩ := un2 h
    obtain ⟨g23391, g23392⟩ := geti_in g2339
    have g23393 := ac_Int g23392
    try simp only [wn] at g23391
    obtain ⟨r2342, g2340, h⟩ := un1 h
    obtain ⟨N2341, kN2341⟩ := c20_0 x2338 (-1000000) 1000000 _ g2340
    by_cases c2343 : r2342 = true
    · rw [if_pos c2343] at h
      have c2343d := c2343
      by_cases c2344 : x2335.fOpen = true
      · rw [if_pos c2344] at h
        have c2344d := c2344
        by_cases c2345 : v2325 = v2323
        · rw [if_pos c2345] at h
          have c2345d := dt c2345
          by_cases c2346 : x2338 = v2324
          · rw [if_pos c2346] at h
            have c2346d := dt c2346
            obtain ⟨j2347, x2348, g2349, h⟩ := un2 h
            obtain ⟨g23491, g23492⟩ := geti_in g2349
            have g23493 := ac_Int g23492
            try simp only [wn] at g23491
            obtain ⟨j2350, x2351, g2352, h⟩ := un2 h
            obtain ⟨g23521, g23522⟩ := geti_in g2352
            have g23523 := ac_Int g23522
            try simp only [wn] at g23521
            obtain ⟨x2353, g2354, h⟩ := un1 h
            have g23543 := ac_Int g2354
            obtain ⟨j2355, x2356, g2357, h⟩ := un2 h
            obtain ⟨g23571, g23572⟩ := geti_in g2357
            have g23573 := ac_Int g23572
            try simp only [wn] at g23571
            obtain ⟨r2360, g2358, h⟩ := un1 h
            obtain ⟨N2359, kN2359⟩ := c20_0 x2356 (-1152921504606846976) 1152921504606846976 _ g2358
            by_cases c2361 : r2360 = true
            · rw [if_pos c2361] at h
              have c2361d := c2361
              obtain ⟨j2362, x2363, g2364, h⟩ := un2 h
              obtain ⟨g23641, g23642⟩ := geti_in g2364
              have g23643 := ac_Int g23642
              try simp only [wn] at g23641
              obtain ⟨r2367, g2365, h⟩ := un1 h
              obtain ⟨N2366, kN2366⟩ := c20_0 x2363 (-1152921504606846976) 1152921504606846976 _ g2365
              by_cases c2368 : r2367 = true
              · rw [if_pos c2368] at h
                have c2368d := c2368
                cases h
                refine ⟨N2341 + N2359 + N2366, fun n hn => ?_⟩
                have kN2341 := kN2341 n (by omega)
                try simp (maxSteps := 2000000) only [wn, rc_WaterConduit, c2344d] at kN2341
                have kN2359 := kN2359 n (by omega)
                try simp (maxSteps := 2000000) only [wn, rc_WaterConduit, c2344d] at kN2359
                have kN2366 := kN2366 n (by omega)
                try simp (maxSteps := 2000000) only [wn, rc_WaterConduit, c2344d] at kN2366
                simp (maxSteps := 2000000) only [W, reduceIte, Nat.reduceEqDiff, Nat.reduceAdd, Nat.reduceSub, Nat.reduceLT, Nat.reduceLeDiff, Nat.reduceMul, h6l0_0, q6l0_0, a6l0b, rc_WaterConduit, c2333d, g23361, g23363, g23391, g23393, kN2341, c2343d, c2344d, c2345d, c2346d, g23491, g23493, g23521, g23523, g23543, g23571, g23573, kN2359, c2361d, g23641, g23643, kN2366, c2368d, wd]
              · rw [if_neg c2368] at h
                have c2368d := bf c2368
                cases h
                refine ⟨N2341 + N2359 + N2366, fun n hn => ?_⟩
                have kN2341 := kN2341 n (by omega)
                try simp (maxSteps := 2000000) only [wn, rc_WaterConduit, c2344d] at kN2341
                have kN2359 := kN2359 n (by omega)
                try simp (maxSteps := 2000000) only [wn, rc_WaterConduit, c2344d] at kN2359
                have kN2366 := kN2366 n (by omega)
                try simp (maxSteps := 2000000) only [wn, rc_WaterConduit, c2344d] at kN2366
                simp (maxSteps := 2000000) only [W, reduceIte, Nat.reduceEqDiff, Nat.reduceAdd, Nat.reduceSub, Nat.reduceLT, Nat.reduceLeDiff, Nat.reduceMul, h6l0_0, q6l0_0, a6l0b, rc_WaterConduit, c2333d, g23361, g23363, g23391, g23393, kN2341, c2343d, c2344d, c2345d, c2346d, g23491, g23493, g23521, g23523, g23543, g23571, g23573, kN2359, c2361d, g23641, g23643, kN2366, c2368d, wd]
            · rw [if_neg c2361] at h
              have c2361d := bf c2361
              cases h
              refine ⟨N2341 + N2359, fun n hn => ?_⟩
              have kN2341 := kN2341 n (by omega)
              try simp (maxSteps := 2000000) only [wn, rc_WaterConduit, c2344d] at kN2341
              have kN2359 := kN2359 n (by omega)
              try simp (maxSteps := 2000000) only [wn, rc_WaterConduit, c2344d] at kN2359
              simp (maxSteps := 2000000) only [W, reduceIte, Nat.reduceEqDiff, Nat.reduceAdd, Nat.reduceSub, Nat.reduceLT, Nat.reduceLeDiff, Nat.reduceMul, h6l0_0, q6l0_0, a6l0b, rc_WaterConduit, c2333d, g23361, g23363, g23391, g23393, kN2341, c2343d, c2344d, c2345d, c2346d, g23491, g23493, g23521, g23523, g23543, g23571, g23573, kN2359, c2361d, wd]
          · rw [if_neg c2346] at h
            have c2346d := df c2346
            cases h
            refine ⟨N2341, fun n hn => ?_⟩
            have kN2341 := kN2341 n (by omega)
            try simp (maxSteps := 2000000) only [wn, rc_WaterConduit, c2344d] at kN2341
            simp (maxSteps := 2000000) only [W, reduceIte, Nat.reduceEqDiff, Nat.reduceAdd, Nat.reduceSub, Nat.reduceLT, Nat.reduceLeDiff, Nat.reduceMul, h6l0_0, q6l0_0, a6l0b, rc_WaterConduit, c2333d, g23361, g23363, g23391, g23393, kN2341, c2343d, c2344d, c2345d, c2346d, wd]
        · rw [if_neg c2345] at h
          have c2345d := df c2345
          obtain ⟨j2369, x2370, g2371, h⟩ := un2 h
          obtain ⟨g23711, g23712⟩ := geti_in g2371
          have g23713 := ac_Int g23712
          try simp only [wn] at g23711
          obtain ⟨j2372, x2373, g2374, h⟩ := un2 h
          obtain ⟨g23741, g23742⟩ := geti_in g2374
          have g23743 := ac_Int g23742
          try simp only [wn] at g23741
          obtain ⟨x2375, g2376, h⟩ := un1 h
          have g23763 := ac_Int g2376
          obtain ⟨j2377, x2378, g2379, h⟩ := un2 h
          obtain ⟨g23791, g23792⟩ := geti_in g2379
          have g23793 := ac_Int g23792
          try simp only [wn] at g23791
          obtain ⟨r2382, g2380, h⟩ := un1 h
          obtain ⟨N2381, kN2381⟩ := c20_0 x2378 (-1152921504606846976) 1152921504606846976 _ g2380
          by_cases c2383 : r2382 = true
          · rw [if_pos c2383] at h
            have c2383d := c2383
            obtain ⟨j2384, x2385, g2386, h⟩ := un2 h
            obtain ⟨g23861, g23862⟩ := geti_in g2386
            have g23863 := ac_Int g23862
            try simp only [wn] at g23861
            obtain ⟨r2389, g2387, h⟩ := un1 h
            obtain ⟨N2388, kN2388⟩ := c20_0 x2385 (-1152921504606846976) 1152921504606846976 _ g2387
            by_cases c2390 : r2389 = true
            · rw [if_pos c2390] at h
              have c2390d := c2390
              obtain ⟨r2393, g2391, h⟩ := un1 h
              obtain ⟨N2392, kN2392⟩ := c41_0 x2338 _ g2391
              by_cases c2394 : (aw .i64 (x2378 - x2385)) = (aw .i64 ((aw .i64 (x2335.fResist * x2338)) * r2393))
              · rw [if_pos c2394] at h
                have c2394d := dt c2394
                cases h
                refine ⟨N2341 + N2381 + N2388 + N2392, fun n hn => ?_⟩
                have kN2341 := kN2341 n (by omega)
                try simp (maxSteps := 2000000) only [wn, rc_WaterConduit, c2344d] at kN2341
                have kN2381 := kN2381 n (by omega)
                try simp (maxSteps := 2000000) only [wn, rc_WaterConduit, c2344d] at kN2381
                have kN2388 := kN2388 n (by omega)
                try simp (maxSteps := 2000000) only [wn, rc_WaterConduit, c2344d] at kN2388
                have kN2392 := kN2392 n (by omega)
                try simp (maxSteps := 2000000) only [wn, rc_WaterConduit, c2344d] at kN2392
                simp (maxSteps := 2000000) only [W, reduceIte, Nat.reduceEqDiff, Nat.reduceAdd, Nat.reduceSub, Nat.reduceLT, Nat.reduceLeDiff, Nat.reduceMul, h6l0_0, q6l0_0, a6l0b, rc_WaterConduit, c2333d, g23361, g23363, g23391, g23393, kN2341, c2343d, c2344d, c2345d, g23711, g23713, g23741, g23743, g23763, g23791, g23793, kN2381, c2383d, g23861, g23863, kN2388, c2390d, kN2392, c2394d, wd]
              · rw [if_neg c2394] at h
                have c2394d := df c2394
                cases h
                refine ⟨N2341 + N2381 + N2388 + N2392, fun n hn => ?_⟩
                have kN2341 := kN2341 n (by omega)
                try simp (maxSteps := 2000000) only [wn, rc_WaterConduit, c2344d] at kN2341
                have kN2381 := kN2381 n (by omega)
                try simp (maxSteps := 2000000) only [wn, rc_WaterConduit, c2344d] at kN2381
                have kN2388 := kN2388 n (by omega)
                try simp (maxSteps := 2000000) only [wn, rc_WaterConduit, c2344d] at kN2388
                have kN2392 := kN2392 n (by omega)
                try simp (maxSteps := 2000000) only [wn, rc_WaterConduit, c2344d] at kN2392
                simp (maxSteps := 2000000) only [W, reduceIte, Nat.reduceEqDiff, Nat.reduceAdd, Nat.reduceSub, Nat.reduceLT, Nat.reduceLeDiff, Nat.reduceMul, h6l0_0, q6l0_0, a6l0b, rc_WaterConduit, c2333d, g23361, g23363, g23391, g23393, kN2341, c2343d, c2344d, c2345d, g23711, g23713, g23741, g23743, g23763, g23791, g23793, kN2381, c2383d, g23861, g23863, kN2388, c2390d, kN2392, c2394d, wd]
            · rw [if_neg c2390] at h
              have c2390d := bf c2390
              cases h
              refine ⟨N2341 + N2381 + N2388, fun n hn => ?_⟩
              have kN2341 := kN2341 n (by omega)
              try simp (maxSteps := 2000000) only [wn, rc_WaterConduit, c2344d] at kN2341
              have kN2381 := kN2381 n (by omega)
              try simp (maxSteps := 2000000) only [wn, rc_WaterConduit, c2344d] at kN2381
              have kN2388 := kN2388 n (by omega)
              try simp (maxSteps := 2000000) only [wn, rc_WaterConduit, c2344d] at kN2388
              simp (maxSteps := 2000000) only [W, reduceIte, Nat.reduceEqDiff, Nat.reduceAdd, Nat.reduceSub, Nat.reduceLT, Nat.reduceLeDiff, Nat.reduceMul, h6l0_0, q6l0_0, a6l0b, rc_WaterConduit, c2333d, g23361, g23363, g23391, g23393, kN2341, c2343d, c2344d, c2345d, g23711, g23713, g23741, g23743, g23763, g23791, g23793, kN2381, c2383d, g23861, g23863, kN2388, c2390d, wd]
          · rw [if_neg c2383] at h
            have c2383d := bf c2383
            cases h
            refine ⟨N2341 + N2381, fun n hn => ?_⟩
            have kN2341 := kN2341 n (by omega)
            try simp (maxSteps := 2000000) only [wn, rc_WaterConduit, c2344d] at kN2341
            have kN2381 := kN2381 n (by omega)
            try simp (maxSteps := 2000000) only [wn, rc_WaterConduit, c2344d] at kN2381
            simp (maxSteps := 2000000) only [W, reduceIte, Nat.reduceEqDiff, Nat.reduceAdd, Nat.reduceSub, Nat.reduceLT, Nat.reduceLeDiff, Nat.reduceMul, h6l0_0, q6l0_0, a6l0b, rc_WaterConduit, c2333d, g23361, g23363, g23391, g23393, kN2341, c2343d, c2344d, c2345d, g23711, g23713, g23741, g23743, g23763, g23791, g23793, kN2381, c2383d, wd]
      · rw [if_neg c2344] at h
        have c2344d := bf c2344
        by_cases c2395 : x2338 = 0
        · rw [if_pos c2395] at h
          have c2395d := dt c2395
          by_cases c2396 : v2325 = v2323
          · rw [if_pos c2396] at h
            have c2396d := dt c2396
            by_cases c2397 : x2338 = v2324
            · rw [if_pos c2397] at h
              have c2397d := dt c2397
              obtain ⟨j2398, x2399, g2400, h⟩ := un2 h
              obtain ⟨g24001, g24002⟩ := geti_in g2400
              have g24003 := ac_Int g24002
              try simp only [wn] at g24001
              obtain ⟨j2401, x2402, g2403, h⟩ := un2 h
              obtain ⟨g24031, g24032⟩ := geti_in g2403
              have g24033 := ac_Int g24032
              try simp only [wn] at g24031
              obtain ⟨x2404, g2405, h⟩ := un1 h
              have g24053 := ac_Int g2405
              obtain ⟨j2406, x2407, g2408, h⟩ := un2 h
              obtain ⟨g24081, g24082⟩ := geti_in g2408
              have g24083 := ac_Int g24082
              try simp only [wn] at g24081
              obtain ⟨r2411, g2409, h⟩ := un1 h
              obtain ⟨N2410, kN2410⟩ := c20_0 x2407 (-1152921504606846976) 1152921504606846976 _ g2409
              by_cases c2412 : r2411 = true
              · rw [if_pos c2412] at h
                have c2412d := c2412
                obtain ⟨j2413, x2414, g2415, h⟩ := un2 h
                obtain ⟨g24151, g24152⟩ := geti_in g2415
                have g24153 := ac_Int g24152
                try simp only [wn] at g24151
                obtain ⟨r2418, g2416, h⟩ := un1 h
                obtain ⟨N2417, kN2417⟩ := c20_0 x2414 (-1152921504606846976) 1152921504606846976 _ g2416
                by_cases c2419 : r2418 = true
                · rw [if_pos c2419] at h
                  have c2419d := c2419
                  cases h
                  refine ⟨N2341 + N2410 + N2417, fun n hn => ?_⟩
                  have kN2341 := kN2341 n (by omega)
                  try simp (maxSteps := 2000000) only [wn, rc_WaterConduit, c2344d] at kN2341
                  have kN2410 := kN2410 n (by omega)
                  try simp (maxSteps := 2000000) only [wn, rc_WaterConduit, c2344d] at kN2410
                  have kN2417 := kN2417 n (by omega)
                  try simp (maxSteps := 2000000) only [wn, rc_WaterConduit, c2344d] at kN2417
                  simp (maxSteps := 2000000) only [W, reduceIte, Nat.reduceEqDiff, Nat.reduceAdd, Nat.reduceSub, Nat.reduceLT, Nat.reduceLeDiff, Nat.reduceMul, h6l0_0, q6l0_0, a6l0b, rc_WaterConduit, c2333d, g23361, g23363, g23391, g23393, kN2341, c2343d, c2344d, c2395d, c2396d, c2397d, g24001, g24003, g24031, g24033, g24053, g24081, g24083, kN2410, c2412d, g24151, g24153, kN2417, c2419d, wd]
                · rw [if_neg c2419] at h
                  have c2419d := bf c2419
                  cases h
                  refine ⟨N2341 + N2410 + N2417, fun n hn => ?_⟩
                  have kN2341 := kN2341 n (by omega)
                  try simp (maxSteps := 2000000) only [wn, rc_WaterConduit, c2344d] at kN2341
                  have kN2410 := kN2410 n (by omega)
                  try simp (maxSteps := 2000000) only [wn, rc_WaterConduit, c2344d] at kN2410
                  have kN2417 := kN2417 n (by omega)
                  try simp (maxSteps := 2000000) only [wn, rc_WaterConduit, c2344d] at kN2417
                  simp (maxSteps := 2000000) only [W, reduceIte, Nat.reduceEqDiff, Nat.reduceAdd, Nat.reduceSub, Nat.reduceLT, Nat.reduceLeDiff, Nat.reduceMul, h6l0_0, q6l0_0, a6l0b, rc_WaterConduit, c2333d, g23361, g23363, g23391, g23393, kN2341, c2343d, c2344d, c2395d, c2396d, c2397d, g24001, g24003, g24031, g24033, g24053, g24081, g24083, kN2410, c2412d, g24151, g24153, kN2417, c2419d, wd]
              · rw [if_neg c2412] at h
                have c2412d := bf c2412
                cases h
                refine ⟨N2341 + N2410, fun n hn => ?_⟩
                have kN2341 := kN2341 n (by omega)
                try simp (maxSteps := 2000000) only [wn, rc_WaterConduit, c2344d] at kN2341
                have kN2410 := kN2410 n (by omega)
                try simp (maxSteps := 2000000) only [wn, rc_WaterConduit, c2344d] at kN2410
                simp (maxSteps := 2000000) only [W, reduceIte, Nat.reduceEqDiff, Nat.reduceAdd, Nat.reduceSub, Nat.reduceLT, Nat.reduceLeDiff, Nat.reduceMul, h6l0_0, q6l0_0, a6l0b, rc_WaterConduit, c2333d, g23361, g23363, g23391, g23393, kN2341, c2343d, c2344d, c2395d, c2396d, c2397d, g24001, g24003, g24031, g24033, g24053, g24081, g24083, kN2410, c2412d, wd]
            · rw [if_neg c2397] at h
              have c2397d := df c2397
              cases h
              refine ⟨N2341, fun n hn => ?_⟩
              have kN2341 := kN2341 n (by omega)
              try simp (maxSteps := 2000000) only [wn, rc_WaterConduit, c2344d] at kN2341
              simp (maxSteps := 2000000) only [W, reduceIte, Nat.reduceEqDiff, Nat.reduceAdd, Nat.reduceSub, Nat.reduceLT, Nat.reduceLeDiff, Nat.reduceMul, h6l0_0, q6l0_0, a6l0b, rc_WaterConduit, c2333d, g23361, g23363, g23391, g23393, kN2341, c2343d, c2344d, c2395d, c2396d, c2397d, wd]
          · rw [if_neg c2396] at h
            have c2396d := df c2396
            obtain ⟨j2420, x2421, g2422, h⟩ := un2 h
            obtain ⟨g24221, g24222⟩ := geti_in g2422
            have g24223 := ac_Int g24222
            try simp only [wn] at g24221
            obtain ⟨j2423, x2424, g2425, h⟩ := un2 h
            obtain ⟨g24251, g24252⟩ := geti_in g2425
            have g24253 := ac_Int g24252
            try simp only [wn] at g24251
            obtain ⟨x2426, g2427, h⟩ := un1 h
            have g24273 := ac_Int g2427
            obtain ⟨j2428, x2429, g2430, h⟩ := un2 h
            obtain ⟨g24301, g24302⟩ := geti_in g2430
            have g24303 := ac_Int g24302
            try simp only [wn] at g24301
            obtain ⟨r2433, g2431, h⟩ := un1 h
            obtain ⟨N2432, kN2432⟩ := c20_0 x2429 (-1152921504606846976) 1152921504606846976 _ g2431
            by_cases c2434 : r2433 = true
            · rw [if_pos c2434] at h
              have c2434d := c2434
              obtain ⟨j2435, x2436, g2437, h⟩ := un2 h
              obtain ⟨g24371, g24372⟩ := geti_in g2437
              have g24373 := ac_Int g24372
              try simp only [wn] at g24371
              obtain ⟨r2440, g2438, h⟩ := un1 h
              obtain ⟨N2439, kN2439⟩ := c20_0 x2436 (-1152921504606846976) 1152921504606846976 _ g2438
              by_cases c2441 : r2440 = true
              · rw [if_pos c2441] at h
                have c2441d := c2441
                cases h
                refine ⟨N2341 + N2432 + N2439, fun n hn => ?_⟩
                have kN2341 := kN2341 n (by omega)
                try simp (maxSteps := 2000000) only [wn, rc_WaterConduit, c2344d] at kN2341
                have kN2432 := kN2432 n (by omega)
                try simp (maxSteps := 2000000) only [wn, rc_WaterConduit, c2344d] at kN2432
                have kN2439 := kN2439 n (by omega)
                try simp (maxSteps := 2000000) only [wn, rc_WaterConduit, c2344d] at kN2439
                simp (maxSteps := 2000000) only [W, reduceIte, Nat.reduceEqDiff, Nat.reduceAdd, Nat.reduceSub, Nat.reduceLT, Nat.reduceLeDiff, Nat.reduceMul, h6l0_0, q6l0_0, a6l0b, rc_WaterConduit, c2333d, g23361, g23363, g23391, g23393, kN2341, c2343d, c2344d, c2395d, c2396d, g24221, g24223, g24251, g24253, g24273, g24301, g24303, kN2432, c2434d, g24371, g24373, kN2439, c2441d, wd]
              · rw [if_neg c2441] at h
                have c2441d := bf c2441
                cases h
                refine ⟨N2341 + N2432 + N2439, fun n hn => ?_⟩
                have kN2341 := kN2341 n (by omega)
                try simp (maxSteps := 2000000) only [wn, rc_WaterConduit, c2344d] at kN2341
                have kN2432 := kN2432 n (by omega)
                try simp (maxSteps := 2000000) only [wn, rc_WaterConduit, c2344d] at kN2432
                have kN2439 := kN2439 n (by omega)
                try simp (maxSteps := 2000000) only [wn, rc_WaterConduit, c2344d] at kN2439
                simp (maxSteps := 2000000) only [W, reduceIte, Nat.reduceEqDiff, Nat.reduceAdd, Nat.reduceSub, Nat.reduceLT, Nat.reduceLeDiff, Nat.reduceMul, h6l0_0, q6l0_0, a6l0b, rc_WaterConduit, c2333d, g23361, g23363, g23391, g23393, kN2341, c2343d, c2344d, c2395d, c2396d, g24221, g24223, g24251, g24253, g24273, g24301, g24303, kN2432, c2434d, g24371, g24373, kN2439, c2441d, wd]
            · rw [if_neg c2434] at h
              have c2434d := bf c2434
              cases h
              refine ⟨N2341 + N2432, fun n hn => ?_⟩
              have kN2341 := kN2341 n (by omega)
              try simp (maxSteps := 2000000) only [wn, rc_WaterConduit, c2344d] at kN2341
              have kN2432 := kN2432 n (by omega)
              try simp (maxSteps := 2000000) only [wn, rc_WaterConduit, c2344d] at kN2432
              simp (maxSteps := 2000000) only [W, reduceIte, Nat.reduceEqDiff, Nat.reduceAdd, Nat.reduceSub, Nat.reduceLT, Nat.reduceLeDiff, Nat.reduceMul, h6l0_0, q6l0_0, a6l0b, rc_WaterConduit, c2333d, g23361, g23363, g23391, g23393, kN2341, c2343d, c2344d, c2395d, c2396d, g24221, g24223, g24251, g24253, g24273, g24301, g24303, kN2432, c2434d, wd]
        · rw [if_neg c2395] at h
          have c2395d := df c2395
          cases h
          refine ⟨N2341, fun n hn => ?_⟩
          have kN2341 := kN2341 n (by omega)
          try simp (maxSteps := 2000000) only [wn, rc_WaterConduit, c2344d] at kN2341
          simp (maxSteps := 2000000) only [W, reduceIte, Nat.reduceEqDiff, Nat.reduceAdd, Nat.reduceSub, Nat.reduceLT, Nat.reduceLeDiff, Nat.reduceMul, h6l0_0, q6l0_0, a6l0b, rc_WaterConduit, c2333d, g23361, g23363, g23391, g23393, kN2341, c2343d, c2344d, c2395d, wd]
    · rw [if_neg c2343] at h
      have c2343d := bf c2343
      cases h
      refine ⟨N2341, fun n hn => ?_⟩
      have kN2341 := kN2341 n (by omega)
      try simp (maxSteps := 2000000) only [wn, rc_WaterConduit] at kN2341
      simp (maxSteps := 2000000) only [W, reduceIte, Nat.reduceEqDiff, Nat.reduceAdd, Nat.reduceSub, Nat.reduceLT, Nat.reduceLeDiff, Nat.reduceMul, h6l0_0, q6l0_0, a6l0b, rc_WaterConduit, c2333d, g23361, g23363, g23391, g23393, kN2341, c2343d, wd]
end Go.AI
end
section
/-
  Functions, walked through: water.tree).gap, water.GapAt.
-/
set_option linter.unusedVariables false
set_option linter.unusedSimpArgs false
set_option maxRecDepth 100000
set_option maxHeartbeats 4000000
namespace Go.AI
noncomputable def h6l1_0 (z0 : Bool) (z1 : Bool) (v2447 : Int) (v2448 : Int) (v2450 : List WaterNode) (v2451 : List WaterConduit) (v2452 : Int) (v2453 : Int) (v2454 : List Int) (v2455 : List Int) (v2456 : List Int) : (Int) → Env × Heap
  | v2449 => ([(2, .ptr 2 0), (3, .ptr 3 0), (5, .int .i64 v2447), (7, .int .i64 v2448), (8, .ptr 4 0), (10, .slice 7 0 v2456.length v2456.length 1 false), (15, .int .i64 v2449)], [.row z0 true (rowC v2450), .row z1 true (rowC v2451), .row true false [.slice 0 0 v2450.length v2450.length 4 false, .slice 1 0 v2451.length v2451.length 6 false], .row true true [.int .i64 v2452, .int .i64 v2453], .row true false [.slice 5 0 v2454.length v2454.length 1 true, .slice 6 0 v2455.length v2455.length 1 true], .row true true (rowC v2454), .row true true (rowC v2455), .row true true (rowC v2456)])
noncomputable def q6l1_0 (z0 : Bool) (z1 : Bool) (v2447 : Int) (v2448 : Int) (v2450 : List WaterNode) (v2451 : List WaterConduit) (v2452 : Int) (v2453 : Int) (v2454 : List Int) (v2455 : List Int) (v2456 : List Int) : ((Unit) ⊕ (Unit)) → AExit × Env × Heap
  | .inl (_) => (.exit 2, [(2, .ptr 2 0), (3, .ptr 3 0), (4, .undef), (5, .int .i64 v2447), (7, .int .i64 v2448), (8, .ptr 4 0)], [.row z0 true (rowC v2450), .row z1 true (rowC v2451), .row true false [.slice 0 0 v2450.length v2450.length 4 false, .slice 1 0 v2451.length v2451.length 6 false], .row true true [.int .i64 v2452, .int .i64 v2453], .row true false [.slice 5 0 v2454.length v2454.length 1 true, .slice 6 0 v2455.length v2455.length 1 true], .row true true (rowC v2454), .row true true (rowC v2455)])
  | .inr (_) => (.ret, [(2, .ptr 2 0), (3, .ptr 3 0), (4, .bool false), (5, .int .i64 v2447), (7, .int .i64 v2448), (8, .ptr 4 0)], [.row z0 true (rowC v2450), .row z1 true (rowC v2451), .row true false [.slice 0 0 v2450.length v2450.length 4 false, .slice 1 0 v2451.length v2451.length 6 false], .row true true [.int .i64 v2452, .int .i64 v2453], .row true false [.slice 5 0 v2454.length v2454.length 1 true, .slice 6 0 v2455.length v2455.length 1 true], .row true true (rowC v2454), .row true true (rowC v2455)])
theorem k6l1_0 (z0 : Bool) (z1 : Bool) (v2447 : Int) (v2448 : Int) (v2450 : List WaterNode) (v2451 : List WaterConduit) (v2452 : Int) (v2453 : Int) (v2454 : List Int) (v2455 : List Int) (v2456 : List Int) (s : Int) (o : (Unit) ⊕ (Unit)) (h : L6l1_0 v2447 v2448 v2450 v2451 v2452 v2453 v2454 v2455 v2456 s = some o) : Ev fun n => loopAt [2, 3, 5, 7, 8, 10, 15] [2, 3, 4, 5, 7, 8] a6l1b (ex tab n) 2 (h6l1_0 z0 z1 v2447 v2448 v2450 v2451 v2452 v2453 v2454 v2455 v2456 s) = some (q6l1_0 z0 z1 v2447 v2448 v2450 v2451 v2452 v2453 v2454 v2455 v2456 o) := by
  refine iter_sound (S6l1_0 v2447 v2448 v2450 v2451 v2452 v2453 v2454 v2455 v2456) [2, 3, 5, 7, 8, 10, 15] [2, 3, 4, 5, 7, 8] a6l1b 2 (h6l1_0 z0 z1 v2447 v2448 v2450 v2451 v2452 v2453 v2454 v2455 v2456) (q6l1_0 z0 z1 v2447 v2448 v2450 v2451 v2452 v2453 v2454 v2455 v2456) ?_ _ _ _ h
  rintro v2449 z h
  simp only [S6l1_0] at h
  by_cases c2457 : (v2450.length : Int) ≤ v2449
  · rw [if_pos c2457] at h
    have c2457d := dt c2457
    cases h
    refine ⟨0, fun n hn => ?_⟩
    simp (maxSteps := 2000000) only [W, reduceIte, Nat.reduceEqDiff, Nat.reduceAdd, Nat.reduceSub, Nat.reduceLT, Nat.reduceLeDiff, Nat.reduceMul, h6l1_0, q6l1_0, a6l1b, rc_WaterNode, c2457d, wd]
  · rw [if_neg c2457] at h
    have c2457d := df c2457
    obtain ⟨j2458, x2459, g2460, h⟩ := un2 h
    obtain ⟨g24601, g24602⟩ := geti_in g2460
    have g24603 := ac_WaterNode g24602
    try simp only [wn] at g24601
    by_cases c2461 : x2459.fLake = true
    · rw [if_pos c2461] at h
      have c2461d := c2461
      obtain ⟨j2462, x2463, g2464, h⟩ := un2 h
      obtain ⟨g24641, g24642⟩ := geti_in g2464
      have g24643 := ac_Int g24642
      try simp only [wn] at g24641
      by_cases c2465 : x2463 = (aw .i64 (1000 * x2459.fHead))
      · rw [if_pos c2465] at h
        have c2465d := dt c2465
        cases h
        refine ⟨0, fun n hn => ?_⟩
        simp (maxSteps := 2000000) only [W, reduceIte, Nat.reduceEqDiff, Nat.reduceAdd, Nat.reduceSub, Nat.reduceLT, Nat.reduceLeDiff, Nat.reduceMul, h6l1_0, q6l1_0, a6l1b, rc_WaterNode, c2457d, g24601, g24603, c2461d, g24641, g24643, c2465d, wd]
      · rw [if_neg c2465] at h
        have c2465d := df c2465
        cases h
        refine ⟨0, fun n hn => ?_⟩
        simp (maxSteps := 2000000) only [W, reduceIte, Nat.reduceEqDiff, Nat.reduceAdd, Nat.reduceSub, Nat.reduceLT, Nat.reduceLeDiff, Nat.reduceMul, h6l1_0, q6l1_0, a6l1b, rc_WaterNode, c2457d, g24601, g24603, c2461d, g24641, g24643, c2465d, wd]
    · rw [if_neg c2461] at h
      have c2461d := bf c2461
      obtain ⟨j2466, x2467, g2468, h⟩ := un2 h
      obtain ⟨g24681, g24682⟩ := geti_in g2468
      have g24683 := ac_Int g24682
      try simp only [wn] at g24681
      by_cases c2469 : x2467 = x2459.fDraw
      · rw [if_pos c2469] at h
        have c2469d := dt c2469
        cases h
        refine ⟨0, fun n hn => ?_⟩
        simp (maxSteps := 2000000) only [W, reduceIte, Nat.reduceEqDiff, Nat.reduceAdd, Nat.reduceSub, Nat.reduceLT, Nat.reduceLeDiff, Nat.reduceMul, h6l1_0, q6l1_0, a6l1b, rc_WaterNode, c2457d, g24601, g24603, c2461d, g24681, g24683, c2469d, wd]
      · rw [if_neg c2469] at h
        have c2469d := df c2469
        cases h
        refine ⟨0, fun n hn => ?_⟩
        simp (maxSteps := 2000000) only [W, reduceIte, Nat.reduceEqDiff, Nat.reduceAdd, Nat.reduceSub, Nat.reduceLT, Nat.reduceLeDiff, Nat.reduceMul, h6l1_0, q6l1_0, a6l1b, rc_WaterNode, c2457d, g24601, g24603, c2461d, g24681, g24683, c2469d, wd]
theorem c102_0 (z0 : Bool) (z1 : Bool) (z2 : Bool) (v2490 : Int) (v2491 : Int) (v2492 : List WaterNode) (v2493 : List WaterConduit) (v2494 : List Branch) (r2511 : Int) (h : F102_0 v2490 v2491 v2492 v2493 v2494 = some r2511) : Ev fun n => (ex tab n).call 102 [.agg [.slice 0 0 v2492.length v2492.length 4 false, .slice 1 0 v2493.length v2493.length 6 false, .slice 2 0 v2494.length v2494.length 2 false, .int .i64 v2490], .int .i64 v2491] [.row z0 true (rowC v2492), .row z1 true (rowC v2493), .row z2 true (rowC v2494)] = some (.int .i64 r2511, [.row z0 true (rowC v2492), .row z1 true (rowC v2493), .row z2 true (rowC v2494)]) := by
  unfold F102_0 at h
  obtain ⟨j2495, x2496, g2497, h⟩ := un2 h
  obtain ⟨g24971, g24972⟩ := geti_in g2497
  have g24973 := ac_WaterConduit g24972
  try simp only [wn] at g24971
  obtain ⟨r2500, r2501, g2498, h⟩ := un2 h
  obtain ⟨N2499, kN2499⟩ := c101_0 z0 z1 z2 v2490 v2491 v2492 v2493 v2494 _ _ g2498
  obtain ⟨r2504, g2502, h⟩ := un1 h
  obtain ⟨N2503, kN2503⟩ := c77_0 x2496.fResist v2491 _ g2502
  obtain ⟨j2505, x2506, g2507, h⟩ := un2 h
  obtain ⟨g25071, g25072⟩ := geti_in g2507
  have g25073 := ac_Int g25072
  try simp only [wn] at g25071
  obtain ⟨j2508, x2509, g2510, h⟩ := un2 h
  obtain ⟨g25101, g25102⟩ := geti_in g2510
  have g25103 := ac_Int g25102
  try simp only [wn] at g25101
  cases h
  refine ev_call (fn := a102) rfl ⟨N2499 + N2503, fun n hn => ?_⟩
  have kN2499 := kN2499 n (by omega)
  try simp (maxSteps := 2000000) only [wn, rc_WaterConduit] at kN2499
  have kN2503 := kN2503 n (by omega)
  try simp (maxSteps := 2000000) only [wn, rc_WaterConduit] at kN2503
  simp (maxSteps := 2000000) only [W, reduceIte, Nat.reduceEqDiff, Nat.reduceAdd, Nat.reduceSub, Nat.reduceLT, Nat.reduceLeDiff, Nat.reduceMul, a102, rc_WaterConduit, g24971, g24973, kN2499, kN2503, g25071, g25073, g25101, g25103, wd]
theorem c42_0 (z0 : Bool) (z1 : Bool) (v2475 : Int) (v2476 : List WaterNode) (v2477 : List WaterConduit) (r2526 : Int) (r2527 : Int) (h : F42_0 v2475 v2476 v2477 = some (r2526, r2527)) : Ev fun n => (ex tab n).call 42 [.agg [.slice 0 0 v2476.length v2476.length 4 false, .slice 1 0 v2477.length v2477.length 6 false], .int .i64 v2475] [.row z0 true (rowC v2476), .row z1 true (rowC v2477)] = some (.tup [.int .i64 r2526, .int .i64 r2527], [.row z0 true (rowC v2476), .row z1 true (rowC v2477)]) := by
  unfold F42_0 at h
  obtain ⟨g2478_, g2478, h⟩ := un1 h
  rcases g2478_ with ⟨r2480, r2481, r2482⟩ | r2515
  · dsimp only at h
    obtain ⟨N2479, kN2479⟩ := c98_0 z0 z1 v2476 v2477 _ g2478
    obtain ⟨r2485, g2483, h⟩ := un1 h
    obtain ⟨N2484, kN2484⟩ := c100_0 v2475 _ g2483
    obtain ⟨r2488, g2486, h⟩ := un1 h
    obtain ⟨N2487, kN2487⟩ := c71_0 true ([r2481, r2485] : List Int) _ g2486
    by_cases c2489 : r2488 = 0
    · rw [if_pos c2489] at h
      have c2489d := dt c2489
      obtain ⟨r2514, g2512, h⟩ := un1 h
      obtain ⟨N2513, kN2513⟩ := c102_0 z0 z1 true r2480 v2475 v2476 v2477 r2482 _ g2512
      cases h
      refine ev_call (fn := a42) rfl ⟨N2479 + N2484 + N2487 + N2513, fun n hn => ?_⟩
      have kN2479 := kN2479 n (by omega)
      try simp (maxSteps := 2000000) only [wn] at kN2479
      have kN2484 := kN2484 n (by omega)
      try simp (maxSteps := 2000000) only [wn, rc_Branch, rc_WaterConduit, rc_WaterNode] at kN2484
      have kN2487 := kN2487 n (by omega)
      try simp (maxSteps := 2000000) only [wn, rc_Branch, rc_WaterConduit, rc_WaterNode] at kN2487
      have kN2513 := kN2513 n (by omega)
      try simp (maxSteps := 2000000) only [wn, rc_Branch, rc_WaterConduit, rc_WaterNode] at kN2513
      simp (maxSteps := 2000000) only [W, reduceIte, Nat.reduceEqDiff, Nat.reduceAdd, Nat.reduceSub, Nat.reduceLT, Nat.reduceLeDiff, Nat.reduceMul, a42, rc_Branch, rc_WaterConduit, rc_WaterNode, kN2479, kN2484, kN2487, c2489d, kN2513]
    · rw [if_neg c2489] at h
      have c2489d := df c2489
      cases h
      refine ev_call (fn := a42) rfl ⟨N2479 + N2484 + N2487, fun n hn => ?_⟩
      have kN2479 := kN2479 n (by omega)
      try simp (maxSteps := 2000000) only [wn] at kN2479
      have kN2484 := kN2484 n (by omega)
      try simp (maxSteps := 2000000) only [wn, rc_Branch, rc_WaterConduit, rc_WaterNode] at kN2484
      have kN2487 := kN2487 n (by omega)
      try simp (maxSteps := 2000000) only [wn, rc_Branch, rc_WaterConduit, rc_WaterNode] at kN2487
      simp (maxSteps := 2000000) only [W, reduceIte, Nat.reduceEqDiff, Nat.reduceAdd, Nat.reduceSub, Nat.reduceLT, Nat.reduceLeDiff, Nat.reduceMul, a42, rc_Branch, rc_WaterConduit, rc_WaterNode, kN2479, kN2484, kN2487, c2489d]
  · dsimp only at h
    obtain ⟨N2479, kN2479⟩ := c98_0 z0 z1 v2476 v2477 _ g2478
    obtain ⟨r2518, g2516, h⟩ := un1 h
    obtain ⟨N2517, kN2517⟩ := c100_0 v2475 _ g2516
    obtain ⟨r2521, g2519, h⟩ := un1 h
    obtain ⟨N2520, kN2520⟩ := c71_0 true ([r2515, r2518] : List Int) _ g2519
    by_cases c2522 : r2521 = 0
    · rw [if_pos c2522] at h
      have c2522d := dt c2522
      obtain ⟨r2525, g2523, h⟩ := un1 h
      obtain ⟨N2524, kN2524⟩ := c102_0 true true true 0 v2475 ([] : List WaterNode) ([] : List WaterConduit) ([] : List Branch) _ g2523
      cases h
      refine ev_call (fn := a42) rfl ⟨N2479 + N2517 + N2520 + N2524, fun n hn => ?_⟩
      have kN2479 := kN2479 n (by omega)
      try simp (maxSteps := 2000000) only [wn, rc_Branch, rc_WaterConduit, rc_WaterNode] at kN2479
      have kN2517 := kN2517 n (by omega)
      try simp (maxSteps := 2000000) only [wn, rc_Branch, rc_WaterConduit, rc_WaterNode] at kN2517
      have kN2520 := kN2520 n (by omega)
      try simp (maxSteps := 2000000) only [wn, rc_Branch, rc_WaterConduit, rc_WaterNode] at kN2520
      have kN2524 := kN2524 n (by omega)
      try simp (maxSteps := 2000000) only [wn, rc_Branch, rc_WaterConduit, rc_WaterNode] at kN2524
      simp (maxSteps := 2000000) only [W, reduceIte, Nat.reduceEqDiff, Nat.reduceAdd, Nat.reduceSub, Nat.reduceLT, Nat.reduceLeDiff, Nat.reduceMul, a42, rc_Branch, rc_WaterConduit, rc_WaterNode, kN2479, kN2517, kN2520, c2522d, kN2524]
    · rw [if_neg c2522] at h
      have c2522d := df c2522
      cases h
      refine ev_call (fn := a42) rfl ⟨N2479 + N2517 + N2520, fun n hn => ?_⟩
      have kN2479 := kN2479 n (by omega)
      try simp (maxSteps := 2000000) only [wn, rc_Branch, rc_WaterConduit, rc_WaterNode] at kN2479
      have kN2517 := kN2517 n (by omega)
      try simp (maxSteps := 2000000) only [wn, rc_Branch, rc_WaterConduit, rc_WaterNode] at kN2517
      have kN2520 := kN2520 n (by omega)
      try simp (maxSteps := 2000000) only [wn, rc_Branch, rc_WaterConduit, rc_WaterNode] at kN2520
      simp (maxSteps := 2000000) only [W, reduceIte, Nat.reduceEqDiff, Nat.reduceAdd, Nat.reduceSub, Nat.reduceLT, Nat.reduceLeDiff, Nat.reduceMul, a42, rc_Branch, rc_WaterConduit, rc_WaterNode, kN2479, kN2517, kN2520, c2522d]
end Go.AI
end
