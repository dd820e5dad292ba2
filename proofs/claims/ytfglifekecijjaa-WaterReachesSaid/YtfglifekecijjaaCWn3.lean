/-
  Functions, walked through: guidevanebase.IsName, guidevanebase.HasText, guidevanebase.Within, guidevaneref02.nodeErr.
-/
import Derived.Test.YtfglifekecijjaaCAiY
import Derived.Test.YtfglifekecijjaaCAiTab
import Derived.Test.YtfglifekecijjaaCAiAwake
import Derived.Test.YtfglifekecijjaaCWnF
set_option linter.unusedVariables false
set_option linter.unusedSimpArgs false
set_option maxRecDepth 100000
set_option maxHeartbeats 4000000
namespace Go.AI
noncomputable def h131l0_0 (v371 : ByteArray) : (Int) → Env × Heap
  | v372 => ([(0, .str v371), (3, .int .i64 v372)], [])
noncomputable def q131l0_0 (v371 : ByteArray) : ((Unit) ⊕ (Unit)) → AExit × Env × Heap
  | .inl (_) => (.exit 0, [(2, .undef)], [])
  | .inr (_) => (.ret, [(2, .bool false)], [])
theorem k131l0_0 (v371 : ByteArray) (s : Int) (o : (Unit) ⊕ (Unit)) (h : L131l0_0 v371 s = some o) : Ev fun n => loopAt [0, 3] [2] a131l0b (ex tab n) 0 (h131l0_0 v371 s) = some (q131l0_0 v371 o) := by
  refine iter_sound (S131l0_0 v371) [0, 3] [2] a131l0b 0 (h131l0_0 v371) (q131l0_0 v371) ?_ _ _ _ h
  rintro v372 z h
  simp only [S131l0_0] at h
  by_cases c373 : (v371.size : Int) ≤ v372
  · rw [if_pos c373] at h
    have c373d := dt c373
    cases h
    refine ⟨0, fun n hn => ?_⟩
    simp (maxSteps := 2000000) only [W, reduceIte, Nat.reduceEqDiff, Nat.reduceAdd, Nat.reduceSub, Nat.reduceLT, Nat.reduceLeDiff, Nat.reduceMul, h131l0_0, q131l0_0, a131l0b, c373d]
  · rw [if_neg c373] at h
    have c373d := df c373
    obtain ⟨j374, b375, g376, h⟩ := un2 h
    obtain ⟨g3761, g3762⟩ := geti_in g376
    try simp only [wn] at g3761
    by_cases c377 : 97 ≤ (b375.toNat : Int)
    · rw [if_pos c377] at h
      have c377d := dt c377
      by_cases c378 : (b375.toNat : Int) ≤ 122
      · rw [if_pos c378] at h
        have c378d := dt c378
        cases h
        refine ⟨0, fun n hn => ?_⟩
        simp (maxSteps := 2000000) only [W, reduceIte, Nat.reduceEqDiff, Nat.reduceAdd, Nat.reduceSub, Nat.reduceLT, Nat.reduceLeDiff, Nat.reduceMul, h131l0_0, q131l0_0, a131l0b, c373d, g3761, g3762, c377d, c378d]
      · rw [if_neg c378] at h
        have c378d := df c378
        by_cases c379 : 65 ≤ (b375.toNat : Int)
        · rw [if_pos c379] at h
          have c379d := dt c379
          by_cases c380 : (b375.toNat : Int) ≤ 90
          · rw [if_pos c380] at h
            have c380d := dt c380
            cases h
            refine ⟨0, fun n hn => ?_⟩
            simp (maxSteps := 2000000) only [W, reduceIte, Nat.reduceEqDiff, Nat.reduceAdd, Nat.reduceSub, Nat.reduceLT, Nat.reduceLeDiff, Nat.reduceMul, h131l0_0, q131l0_0, a131l0b, c373d, g3761, g3762, c377d, c378d, c379d, c380d]
          · rw [if_neg c380] at h
            have c380d := df c380
            by_cases c381 : v372 = 0
            · rw [if_pos c381] at h
              have c381d := dt c381
              cases h
              refine ⟨0, fun n hn => ?_⟩
              simp (maxSteps := 2000000) only [W, reduceIte, Nat.reduceEqDiff, Nat.reduceAdd, Nat.reduceSub, Nat.reduceLT, Nat.reduceLeDiff, Nat.reduceMul, h131l0_0, q131l0_0, a131l0b, c373d, g3761, g3762, c377d, c378d, c379d, c380d, c381d]
            · rw [if_neg c381] at h
              have c381d := df c381
              by_cases c382 : (b375.toNat : Int) = 45
              · rw [if_pos c382] at h
                have c382d := dt c382
                cases h
                refine ⟨0, fun n hn => ?_⟩
                simp (maxSteps := 2000000) only [W, reduceIte, Nat.reduceEqDiff, Nat.reduceAdd, Nat.reduceSub, Nat.reduceLT, Nat.reduceLeDiff, Nat.reduceMul, h131l0_0, q131l0_0, a131l0b, c373d, g3761, g3762, c377d, c378d, c379d, c380d, c381d, c382d]
              · rw [if_neg c382] at h
                have c382d := df c382
                by_cases c383 : 48 ≤ (b375.toNat : Int)
                · rw [if_pos c383] at h
                  have c383d := dt c383
                  by_cases c384 : (b375.toNat : Int) ≤ 57
                  · rw [if_pos c384] at h
                    have c384d := dt c384
                    cases h
                    refine ⟨0, fun n hn => ?_⟩
                    simp (maxSteps := 2000000) only [W, reduceIte, Nat.reduceEqDiff, Nat.reduceAdd, Nat.reduceSub, Nat.reduceLT, Nat.reduceLeDiff, Nat.reduceMul, h131l0_0, q131l0_0, a131l0b, c373d, g3761, g3762, c377d, c378d, c379d, c380d, c381d, c382d, c383d, c384d]
                  · rw [if_neg c384] at h
                    have c384d := df c384
                    cases h
                    refine ⟨0, fun n hn => ?_⟩
                    simp (maxSteps := 2000000) only [W, reduceIte, Nat.reduceEqDiff, Nat.reduceAdd, Nat.reduceSub, Nat.reduceLT, Nat.reduceLeDiff, Nat.reduceMul, h131l0_0, q131l0_0, a131l0b, c373d, g3761, g3762, c377d, c378d, c379d, c380d, c381d, c382d, c383d, c384d]
                · rw [if_neg c383] at h
                  have c383d := df c383
                  cases h
                  refine ⟨0, fun n hn => ?_⟩
                  simp (maxSteps := 2000000) only [W, reduceIte, Nat.reduceEqDiff, Nat.reduceAdd, Nat.reduceSub, Nat.reduceLT, Nat.reduceLeDiff, Nat.reduceMul, h131l0_0, q131l0_0, a131l0b, c373d, g3761, g3762, c377d, c378d, c379d, c380d, c381d, c382d, c383d]
        · rw [if_neg c379] at h
          have c379d := df c379
          by_cases c385 : v372 = 0
          · rw [if_pos c385] at h
            have c385d := dt c385
            cases h
            refine ⟨0, fun n hn => ?_⟩
            simp (maxSteps := 2000000) only [W, reduceIte, Nat.reduceEqDiff, Nat.reduceAdd, Nat.reduceSub, Nat.reduceLT, Nat.reduceLeDiff, Nat.reduceMul, h131l0_0, q131l0_0, a131l0b, c373d, g3761, g3762, c377d, c378d, c379d, c385d]
          · rw [if_neg c385] at h
            have c385d := df c385
            by_cases c386 : (b375.toNat : Int) = 45
            · rw [if_pos c386] at h
              have c386d := dt c386
              cases h
              refine ⟨0, fun n hn => ?_⟩
              simp (maxSteps := 2000000) only [W, reduceIte, Nat.reduceEqDiff, Nat.reduceAdd, Nat.reduceSub, Nat.reduceLT, Nat.reduceLeDiff, Nat.reduceMul, h131l0_0, q131l0_0, a131l0b, c373d, g3761, g3762, c377d, c378d, c379d, c385d, c386d]
            · rw [if_neg c386] at h
              have c386d := df c386
              by_cases c387 : 48 ≤ (b375.toNat : Int)
              · rw [if_pos c387] at h
                have c387d := dt c387
                by_cases c388 : (b375.toNat : Int) ≤ 57
                · rw [if_pos c388] at h
                  have c388d := dt c388
                  cases h
                  refine ⟨0, fun n hn => ?_⟩
                  simp (maxSteps := 2000000) only [W, reduceIte, Nat.reduceEqDiff, Nat.reduceAdd, Nat.reduceSub, Nat.reduceLT, Nat.reduceLeDiff, Nat.reduceMul, h131l0_0, q131l0_0, a131l0b, c373d, g3761, g3762, c377d, c378d, c379d, c385d, c386d, c387d, c388d]
                · rw [if_neg c388] at h
                  have c388d := df c388
                  cases h
                  refine ⟨0, fun n hn => ?_⟩
                  simp (maxSteps := 2000000) only [W, reduceIte, Nat.reduceEqDiff, Nat.reduceAdd, Nat.reduceSub, Nat.reduceLT, Nat.reduceLeDiff, Nat.reduceMul, h131l0_0, q131l0_0, a131l0b, c373d, g3761, g3762, c377d, c378d, c379d, c385d, c386d, c387d, c388d]
              · rw [if_neg c387] at h
                have c387d := df c387
                cases h
                refine ⟨0, fun n hn => ?_⟩
                simp (maxSteps := 2000000) only [W, reduceIte, Nat.reduceEqDiff, Nat.reduceAdd, Nat.reduceSub, Nat.reduceLT, Nat.reduceLeDiff, Nat.reduceMul, h131l0_0, q131l0_0, a131l0b, c373d, g3761, g3762, c377d, c378d, c379d, c385d, c386d, c387d]
    · rw [if_neg c377] at h
      have c377d := df c377
      by_cases c389 : 65 ≤ (b375.toNat : Int)
      · rw [if_pos c389] at h
        have c389d := dt c389
        by_cases c390 : (b375.toNat : Int) ≤ 90
        · rw [if_pos c390] at h
          have c390d := dt c390
          cases h
          refine ⟨0, fun n hn => ?_⟩
          simp (maxSteps := 2000000) only [W, reduceIte, Nat.reduceEqDiff, Nat.reduceAdd, Nat.reduceSub, Nat.reduceLT, Nat.reduceLeDiff, Nat.reduceMul, h131l0_0, q131l0_0, a131l0b, c373d, g3761, g3762, c377d, c389d, c390d]
        · rw [if_neg c390] at h
          have c390d := df c390
          by_cases c391 : v372 = 0
          · rw [if_pos c391] at h
            have c391d := dt c391
            cases h
            refine ⟨0, fun n hn => ?_⟩
            simp (maxSteps := 2000000) only [W, reduceIte, Nat.reduceEqDiff, Nat.reduceAdd, Nat.reduceSub, Nat.reduceLT, Nat.reduceLeDiff, Nat.reduceMul, h131l0_0, q131l0_0, a131l0b, c373d, g3761, g3762, c377d, c389d, c390d, c391d]
          · rw [if_neg c391] at h
            have c391d := df c391
            by_cases c392 : (b375.toNat : Int) = 45
            · rw [if_pos c392] at h
              have c392d := dt c392
              cases h
              refine ⟨0, fun n hn => ?_⟩
              simp (maxSteps := 2000000) only [W, reduceIte, Nat.reduceEqDiff, Nat.reduceAdd, Nat.reduceSub, Nat.reduceLT, Nat.reduceLeDiff, Nat.reduceMul, h131l0_0, q131l0_0, a131l0b, c373d, g3761, g3762, c377d, c389d, c390d, c391d, c392d]
            · rw [if_neg c392] at h
              have c392d := df c392
              by_cases c393 : 48 ≤ (b375.toNat : Int)
              · rw [if_pos c393] at h
                have c393d := dt c393
                by_cases c394 : (b375.toNat : Int) ≤ 57
                · rw [if_pos c394] at h
                  have c394d := dt c394
                  cases h
                  refine ⟨0, fun n hn => ?_⟩
                  simp (maxSteps := 2000000) only [W, reduceIte, Nat.reduceEqDiff, Nat.reduceAdd, Nat.reduceSub, Nat.reduceLT, Nat.reduceLeDiff, Nat.reduceMul, h131l0_0, q131l0_0, a131l0b, c373d, g3761, g3762, c377d, c389d, c390d, c391d, c392d, c393d, c394d]
                · rw [if_neg c394] at h
                  have c394d := df c394
                  cases h
                  refine ⟨0, fun n hn => ?_⟩
                  simp (maxSteps := 2000000) only [W, reduceIte, Nat.reduceEqDiff, Nat.reduceAdd, Nat.reduceSub, Nat.reduceLT, Nat.reduceLeDiff, Nat.reduceMul, h131l0_0, q131l0_0, a131l0b, c373d, g3761, g3762, c377d, c389d, c390d, c391d, c392d, c393d, c394d]
              · rw [if_neg c393] at h
                have c393d := df c393
                cases h
                refine ⟨0, fun n hn => ?_⟩
                simp (maxSteps := 2000000) only [W, reduceIte, Nat.reduceEqDiff, Nat.reduceAdd, Nat.reduceSub, Nat.reduceLT, Nat.reduceLeDiff, Nat.reduceMul, h131l0_0, q131l0_0, a131l0b, c373d, g3761, g3762, c377d, c389d, c390d, c391d, c392d, c393d]
      · rw [if_neg c389] at h
        have c389d := df c389
        by_cases c395 : v372 = 0
        · rw [if_pos c395] at h
          have c395d := dt c395
          cases h
          refine ⟨0, fun n hn => ?_⟩
          simp (maxSteps := 2000000) only [W, reduceIte, Nat.reduceEqDiff, Nat.reduceAdd, Nat.reduceSub, Nat.reduceLT, Nat.reduceLeDiff, Nat.reduceMul, h131l0_0, q131l0_0, a131l0b, c373d, g3761, g3762, c377d, c389d, c395d]
        · rw [if_neg c395] at h
          have c395d := df c395
          by_cases c396 : (b375.toNat : Int) = 45
          · rw [if_pos c396] at h
            have c396d := dt c396
            cases h
            refine ⟨0, fun n hn => ?_⟩
            simp (maxSteps := 2000000) only [W, reduceIte, Nat.reduceEqDiff, Nat.reduceAdd, Nat.reduceSub, Nat.reduceLT, Nat.reduceLeDiff, Nat.reduceMul, h131l0_0, q131l0_0, a131l0b, c373d, g3761, g3762, c377d, c389d, c395d, c396d]
          · rw [if_neg c396] at h
            have c396d := df c396
            by_cases c397 : 48 ≤ (b375.toNat : Int)
            · rw [if_pos c397] at h
              have c397d := dt c397
              by_cases c398 : (b375.toNat : Int) ≤ 57
              · rw [if_pos c398] at h
                have c398d := dt c398
                cases h
                refine ⟨0, fun n hn => ?_⟩
                simp (maxSteps := 2000000) only [W, reduceIte, Nat.reduceEqDiff, Nat.reduceAdd, Nat.reduceSub, Nat.reduceLT, Nat.reduceLeDiff, Nat.reduceMul, h131l0_0, q131l0_0, a131l0b, c373d, g3761, g3762, c377d, c389d, c395d, c396d, c397d, c398d]
              · rw [if_neg c398] at h
                have c398d := df c398
                cases h
                refine ⟨0, fun n hn => ?_⟩
                simp (maxSteps := 2000000) only [W, reduceIte, Nat.reduceEqDiff, Nat.reduceAdd, Nat.reduceSub, Nat.reduceLT, Nat.reduceLeDiff, Nat.reduceMul, h131l0_0, q131l0_0, a131l0b, c373d, g3761, g3762, c377d, c389d, c395d, c396d, c397d, c398d]
            · rw [if_neg c397] at h
              have c397d := df c397
              cases h
              refine ⟨0, fun n hn => ?_⟩
              simp (maxSteps := 2000000) only [W, reduceIte, Nat.reduceEqDiff, Nat.reduceAdd, Nat.reduceSub, Nat.reduceLT, Nat.reduceLeDiff, Nat.reduceMul, h131l0_0, q131l0_0, a131l0b, c373d, g3761, g3762, c377d, c389d, c395d, c396d, c397d]
theorem c131_0 (v368 : ByteArray) (r401 : Bool) (h : F131_0 v368 = some r401) : Ev fun n => (ex tab n).call 131 [.str v368] [] = some (.bool r401, []) := by
  unfold F131_0 at h
  by_cases c369 : 1 ≤ (v368.size : Int)
  · rw [if_pos c369] at h
    have c369d := dt c369
    by_cases c370 : (v368.size : Int) ≤ 12
    · rw [if_pos c370] at h
      have c370d := dt c370
      obtain ⟨g399_, g399, h⟩ := un1 h
      rcases g399_ with _ | _
      · dsimp only at h
        have kN400 := k131l0_0 v368 0 _ g399
        obtain ⟨N400, kN400⟩ := kN400
        cases h
        refine ev_call (fn := a131) rfl ⟨N400, fun n hn => ?_⟩
        have kN400 := kN400 n (by omega)
        simp (maxSteps := 2000000) only [h131l0_0, q131l0_0, wn] at kN400
        simp (maxSteps := 2000000) only [W, reduceIte, Nat.reduceEqDiff, Nat.reduceAdd, Nat.reduceSub, Nat.reduceLT, Nat.reduceLeDiff, Nat.reduceMul, a131, a131l0, c369d, c370d, kN400, @x_loopAt]
      · dsimp only at h
        have kN400 := k131l0_0 v368 0 _ g399
        obtain ⟨N400, kN400⟩ := kN400
        cases h
        refine ev_call (fn := a131) rfl ⟨N400, fun n hn => ?_⟩
        have kN400 := kN400 n (by omega)
        simp (maxSteps := 2000000) only [h131l0_0, q131l0_0, wn] at kN400
        simp (maxSteps := 2000000) only [W, reduceIte, Nat.reduceEqDiff, Nat.reduceAdd, Nat.reduceSub, Nat.reduceLT, Nat.reduceLeDiff, Nat.reduceMul, a131, a131l0, c369d, c370d, kN400, @x_loopAt]
    · rw [if_neg c370] at h
      have c370d := df c370
      cases h
      refine ev_call (fn := a131) rfl ⟨0, fun n hn => ?_⟩
      simp (maxSteps := 2000000) only [W, reduceIte, Nat.reduceEqDiff, Nat.reduceAdd, Nat.reduceSub, Nat.reduceLT, Nat.reduceLeDiff, Nat.reduceMul, a131, a131l0, c369d, c370d, @x_loopAt]
  · rw [if_neg c369] at h
    have c369d := df c369
    cases h
    refine ev_call (fn := a131) rfl ⟨0, fun n hn => ?_⟩
    simp (maxSteps := 2000000) only [W, reduceIte, Nat.reduceEqDiff, Nat.reduceAdd, Nat.reduceSub, Nat.reduceLT, Nat.reduceLeDiff, Nat.reduceMul, a131, a131l0, c369d, @x_loopAt]
noncomputable def h132l0_0 (z0 : Bool) (v408 : ByteArray) (v410 : List ByteArray) : (Int) → Env × Heap
  | v409 => ([(0, .slice 0 0 v410.length v410.length 1 false), (1, .str v408), (5, .int .i64 v409)], [.row z0 true (rowC v410)])
noncomputable def q132l0_0 (z0 : Bool) (v408 : ByteArray) (v410 : List ByteArray) : ((Unit) ⊕ (Unit)) → AExit × Env × Heap
  | .inl (_) => (.exit 0, [(4, .undef)], [.row z0 true (rowC v410)])
  | .inr (_) => (.ret, [(4, .bool true)], [.row z0 true (rowC v410)])
theorem k132l0_0 (z0 : Bool) (v408 : ByteArray) (v410 : List ByteArray) (s : Int) (o : (Unit) ⊕ (Unit)) (h : L132l0_0 v408 v410 s = some o) : Ev fun n => loopAt [0, 1, 5] [4] a132l0b (ex tab n) 1 (h132l0_0 z0 v408 v410 s) = some (q132l0_0 z0 v408 v410 o) := by
  refine iter_sound (S132l0_0 v408 v410) [0, 1, 5] [4] a132l0b 1 (h132l0_0 z0 v408 v410) (q132l0_0 z0 v408 v410) ?_ _ _ _ h
  rintro v409 z h
  simp only [S132l0_0] at h
  by_cases c411 : (v410.length : Int) ≤ v409
  · rw [if_pos c411] at h
    have c411d := dt c411
    cases h
    refine ⟨0, fun n hn => ?_⟩
    simp (maxSteps := 2000000) only [W, reduceIte, Nat.reduceEqDiff, Nat.reduceAdd, Nat.reduceSub, Nat.reduceLT, Nat.reduceLeDiff, Nat.reduceMul, h132l0_0, q132l0_0, a132l0b, c411d]
  · rw [if_neg c411] at h
    have c411d := df c411
    obtain ⟨j412, x413, g414, h⟩ := un2 h
    obtain ⟨g4141, g4142⟩ := geti_in g414
    have g4143 := ac_ByteArray g4142
    try simp only [wn] at g4141
    by_cases c415 : x413 = v408
    · rw [if_pos c415] at h
      have c415d := dt c415
      cases h
      refine ⟨0, fun n hn => ?_⟩
      simp (maxSteps := 2000000) only [W, reduceIte, Nat.reduceEqDiff, Nat.reduceAdd, Nat.reduceSub, Nat.reduceLT, Nat.reduceLeDiff, Nat.reduceMul, h132l0_0, q132l0_0, a132l0b, c411d, g4141, g4143, c415d]
    · rw [if_neg c415] at h
      have c415d := df c415
      cases h
      refine ⟨0, fun n hn => ?_⟩
      simp (maxSteps := 2000000) only [W, reduceIte, Nat.reduceEqDiff, Nat.reduceAdd, Nat.reduceSub, Nat.reduceLT, Nat.reduceLeDiff, Nat.reduceMul, h132l0_0, q132l0_0, a132l0b, c411d, g4141, g4143, c415d]
theorem c132_0 (z0 : Bool) (v406 : ByteArray) (v407 : List ByteArray) (r418 : Bool) (h : F132_0 v406 v407 = some r418) : Ev fun n => (ex tab n).call 132 [.slice 0 0 v407.length v407.length 1 false, .str v406] [.row z0 true (rowC v407)] = some (.bool r418, [.row z0 true (rowC v407)]) := by
  unfold F132_0 at h
  obtain ⟨g416_, g416, h⟩ := un1 h
  rcases g416_ with _ | _
  · dsimp only at h
    have kN417 := k132l0_0 z0 v406 v407 0 _ g416
    obtain ⟨N417, kN417⟩ := kN417
    cases h
    refine ev_call (fn := a132) rfl ⟨N417, fun n hn => ?_⟩
    have kN417 := kN417 n (by omega)
    simp (maxSteps := 2000000) only [h132l0_0, q132l0_0, wn] at kN417
    simp (maxSteps := 2000000) only [W, reduceIte, Nat.reduceEqDiff, Nat.reduceAdd, Nat.reduceSub, Nat.reduceLT, Nat.reduceLeDiff, Nat.reduceMul, a132, a132l0, kN417, @x_loopAt]
  · dsimp only at h
    have kN417 := k132l0_0 z0 v406 v407 0 _ g416
    obtain ⟨N417, kN417⟩ := kN417
    cases h
    refine ev_call (fn := a132) rfl ⟨N417, fun n hn => ?_⟩
    have kN417 := kN417 n (by omega)
    simp (maxSteps := 2000000) only [h132l0_0, q132l0_0, wn] at kN417
    simp (maxSteps := 2000000) only [W, reduceIte, Nat.reduceEqDiff, Nat.reduceAdd, Nat.reduceSub, Nat.reduceLT, Nat.reduceLeDiff, Nat.reduceMul, a132, a132l0, kN417, @x_loopAt]
theorem c20_0 (v424 : Int) (v425 : Int) (v426 : Int) (r428 : Bool) (h : F20_0 v424 v425 v426 = some r428) : Ev fun n => (ex tab n).call 20 [.int .i64 v424, .int .i64 v425, .int .i64 v426] [] = some (.bool r428, []) := by
  unfold F20_0 at h
  by_cases c427 : v425 ≤ v424
  · rw [if_pos c427] at h
    have c427d := dt c427
    cases h
    refine ev_call (fn := a20) rfl ⟨0, fun n hn => ?_⟩
    simp (maxSteps := 2000000) only [W, reduceIte, Nat.reduceEqDiff, Nat.reduceAdd, Nat.reduceSub, Nat.reduceLT, Nat.reduceLeDiff, Nat.reduceMul, a20, c427d]
  · rw [if_neg c427] at h
    have c427d := df c427
    cases h
    refine ev_call (fn := a20) rfl ⟨0, fun n hn => ?_⟩
    simp (maxSteps := 2000000) only [W, reduceIte, Nat.reduceEqDiff, Nat.reduceAdd, Nat.reduceSub, Nat.reduceLT, Nat.reduceLeDiff, Nat.reduceMul, a20, c427d]
theorem c78_0 (z0 : Bool) (v363 : ByteArray) (v364 : Bool) (v365 : Int) (v366 : Int) (v367 : List ByteArray) (r439 : Int) (h : F78_0 v363 v364 v365 v366 v367 = some r439) : Ev fun n => (ex tab n).call 78 [.agg [.str v363, .bool v364, .int .i64 v365, .int .i64 v366], .slice 0 0 v367.length v367.length 1 false] [.row z0 true (rowC v367)] = some (.int .i64 r439, [.row z0 true (rowC v367)]) := by
  unfold F78_0 at h
  obtain ⟨r404, g402, h⟩ := un1 h
  obtain ⟨N403, kN403⟩ := c131_0 v363 _ g402
  by_cases c405 : r404 = true
  · rw [if_pos c405] at h
    have c405d := c405
    obtain ⟨r421, g419, h⟩ := un1 h
    obtain ⟨N420, kN420⟩ := c132_0 z0 v363 v367 _ g419
    by_cases c422 : r421 = true
    · rw [if_pos c422] at h
      have c422d := c422
      cases h
      refine ev_call (fn := a78) rfl ⟨N403 + N420, fun n hn => ?_⟩
      have kN403 := kN403 n (by omega)
      try simp (maxSteps := 2000000) only [wn] at kN403
      have kN420 := kN420 n (by omega)
      try simp (maxSteps := 2000000) only [wn] at kN420
      simp (maxSteps := 2000000) only [W, reduceIte, Nat.reduceEqDiff, Nat.reduceAdd, Nat.reduceSub, Nat.reduceLT, Nat.reduceLeDiff, Nat.reduceMul, a78, kN403, c405d, kN420, c422d]
    · rw [if_neg c422] at h
      have c422d := bf c422
      by_cases c423 : v364 = true
      · rw [if_pos c423] at h
        have c423d := c423
        obtain ⟨r431, g429, h⟩ := un1 h
        obtain ⟨N430, kN430⟩ := c20_0 v365 0 1000000 _ g429
        by_cases c432 : r431 = true
        · rw [if_pos c432] at h
          have c432d := c432
          by_cases c433 : v366 = 0
          · rw [if_pos c433] at h
            have c433d := dt c433
            cases h
            refine ev_call (fn := a78) rfl ⟨N403 + N420 + N430, fun n hn => ?_⟩
            have kN403 := kN403 n (by omega)
            try simp (maxSteps := 2000000) only [wn] at kN403
            have kN420 := kN420 n (by omega)
            try simp (maxSteps := 2000000) only [wn] at kN420
            have kN430 := kN430 n (by omega)
            try simp (maxSteps := 2000000) only [wn] at kN430
            simp (maxSteps := 2000000) only [W, reduceIte, Nat.reduceEqDiff, Nat.reduceAdd, Nat.reduceSub, Nat.reduceLT, Nat.reduceLeDiff, Nat.reduceMul, a78, kN403, c405d, kN420, c422d, c423d, kN430, c432d, c433d]
          · rw [if_neg c433] at h
            have c433d := df c433
            cases h
            refine ev_call (fn := a78) rfl ⟨N403 + N420 + N430, fun n hn => ?_⟩
            have kN403 := kN403 n (by omega)
            try simp (maxSteps := 2000000) only [wn] at kN403
            have kN420 := kN420 n (by omega)
            try simp (maxSteps := 2000000) only [wn] at kN420
            have kN430 := kN430 n (by omega)
            try simp (maxSteps := 2000000) only [wn] at kN430
            simp (maxSteps := 2000000) only [W, reduceIte, Nat.reduceEqDiff, Nat.reduceAdd, Nat.reduceSub, Nat.reduceLT, Nat.reduceLeDiff, Nat.reduceMul, a78, kN403, c405d, kN420, c422d, c423d, kN430, c432d, c433d]
        · rw [if_neg c432] at h
          have c432d := bf c432
          cases h
          refine ev_call (fn := a78) rfl ⟨N403 + N420 + N430, fun n hn => ?_⟩
          have kN403 := kN403 n (by omega)
          try simp (maxSteps := 2000000) only [wn] at kN403
          have kN420 := kN420 n (by omega)
          try simp (maxSteps := 2000000) only [wn] at kN420
          have kN430 := kN430 n (by omega)
          try simp (maxSteps := 2000000) only [wn] at kN430
          simp (maxSteps := 2000000) only [W, reduceIte, Nat.reduceEqDiff, Nat.reduceAdd, Nat.reduceSub, Nat.reduceLT, Nat.reduceLeDiff, Nat.reduceMul, a78, kN403, c405d, kN420, c422d, c423d, kN430, c432d]
      · rw [if_neg c423] at h
        have c423d := bf c423
        obtain ⟨r436, g434, h⟩ := un1 h
        obtain ⟨N435, kN435⟩ := c20_0 v366 (-10000) 10000 _ g434
        by_cases c437 : r436 = true
        · rw [if_pos c437] at h
          have c437d := c437
          by_cases c438 : v365 = 0
          · rw [if_pos c438] at h
            have c438d := dt c438
            cases h
            refine ev_call (fn := a78) rfl ⟨N403 + N420 + N435, fun n hn => ?_⟩
            have kN403 := kN403 n (by omega)
            try simp (maxSteps := 2000000) only [wn] at kN403
            have kN420 := kN420 n (by omega)
            try simp (maxSteps := 2000000) only [wn] at kN420
            have kN435 := kN435 n (by omega)
            try simp (maxSteps := 2000000) only [wn] at kN435
            simp (maxSteps := 2000000) only [W, reduceIte, Nat.reduceEqDiff, Nat.reduceAdd, Nat.reduceSub, Nat.reduceLT, Nat.reduceLeDiff, Nat.reduceMul, a78, kN403, c405d, kN420, c422d, c423d, kN435, c437d, c438d]
          · rw [if_neg c438] at h
            have c438d := df c438
            cases h
            refine ev_call (fn := a78) rfl ⟨N403 + N420 + N435, fun n hn => ?_⟩
            have kN403 := kN403 n (by omega)
            try simp (maxSteps := 2000000) only [wn] at kN403
            have kN420 := kN420 n (by omega)
            try simp (maxSteps := 2000000) only [wn] at kN420
            have kN435 := kN435 n (by omega)
            try simp (maxSteps := 2000000) only [wn] at kN435
            simp (maxSteps := 2000000) only [W, reduceIte, Nat.reduceEqDiff, Nat.reduceAdd, Nat.reduceSub, Nat.reduceLT, Nat.reduceLeDiff, Nat.reduceMul, a78, kN403, c405d, kN420, c422d, c423d, kN435, c437d, c438d]
        · rw [if_neg c437] at h
          have c437d := bf c437
          cases h
          refine ev_call (fn := a78) rfl ⟨N403 + N420 + N435, fun n hn => ?_⟩
          have kN403 := kN403 n (by omega)
          try simp (maxSteps := 2000000) only [wn] at kN403
          have kN420 := kN420 n (by omega)
          try simp (maxSteps := 2000000) only [wn] at kN420
          have kN435 := kN435 n (by omega)
          try simp (maxSteps := 2000000) only [wn] at kN435
          simp (maxSteps := 2000000) only [W, reduceIte, Nat.reduceEqDiff, Nat.reduceAdd, Nat.reduceSub, Nat.reduceLT, Nat.reduceLeDiff, Nat.reduceMul, a78, kN403, c405d, kN420, c422d, c423d, kN435, c437d]
  · rw [if_neg c405] at h
    have c405d := bf c405
    cases h
    refine ev_call (fn := a78) rfl ⟨N403, fun n hn => ?_⟩
    have kN403 := kN403 n (by omega)
    try simp (maxSteps := 2000000) only [wn] at kN403
    simp (maxSteps := 2000000) only [W, reduceIte, Nat.reduceEqDiff, Nat.reduceAdd, Nat.reduceSub, Nat.reduceLT, Nat.reduceLeDiff, Nat.reduceMul, a78, kN403, c405d]
noncomputable def h19l0_0 (z0 : Bool) (z1 : Bool) (v356 : List WaterNode) (v357 : List WaterConduit) : (Int × (List ByteArray)) → Env × Heap
  | (v355, v358) => ([(1, .ptr 2 0), (4, .slice 3 0 v358.length v358.length 1 false), (5, .int .i64 v355)], [.row z0 true (rowC v356), .row z1 true (rowC v357), .row true false [.slice 0 0 v356.length v356.length 4 false, .slice 1 0 v357.length v357.length 6 false], .row true true (rowC v358)])
noncomputable def q19l0_0 (z0 : Bool) (z1 : Bool) (v356 : List WaterNode) (v357 : List WaterConduit) : ((Unit) ⊕ (Int × Int)) → AExit × Env × Heap
  | .inl (_) => (.exit 0, [(1, .ptr 2 0), (2, .undef), (3, .undef)], [.row z0 true (rowC v356), .row z1 true (rowC v357), .row true false [.slice 0 0 v356.length v356.length 4 false, .slice 1 0 v357.length v357.length 6 false]])
  | .inr (r445, r446) => (.ret, [(1, .ptr 2 0), (2, .int .i64 r445), (3, .int .i64 r446)], [.row z0 true (rowC v356), .row z1 true (rowC v357), .row true false [.slice 0 0 v356.length v356.length 4 false, .slice 1 0 v357.length v357.length 6 false]])
theorem k19l0_0 (z0 : Bool) (z1 : Bool) (v356 : List WaterNode) (v357 : List WaterConduit) (s : Int × (List ByteArray)) (o : (Unit) ⊕ (Int × Int)) (h : L19l0_0 v356 v357 s = some o) : Ev fun n => loopAt [1, 4, 5] [1, 2, 3] a19l0b (ex tab n) 2 (h19l0_0 z0 z1 v356 v357 s) = some (q19l0_0 z0 z1 v356 v357 o) := by
  refine iter_sound (S19l0_0 v356 v357) [1, 4, 5] [1, 2, 3] a19l0b 2 (h19l0_0 z0 z1 v356 v357) (q19l0_0 z0 z1 v356 v357) ?_ _ _ _ h
  rintro ⟨v355, v358⟩ z h
  simp only [S19l0_0] at h
  by_cases c359 : (v356.length : Int) ≤ v355
  · rw [if_pos c359] at h
    have c359d := dt c359
    cases h
    refine ⟨0, fun n hn => ?_⟩
    simp (maxSteps := 2000000) only [W, reduceIte, Nat.reduceEqDiff, Nat.reduceAdd, Nat.reduceSub, Nat.reduceLT, Nat.reduceLeDiff, Nat.reduceMul, h19l0_0, q19l0_0, a19l0b, rc_WaterNode, c359d]
  · rw [if_neg c359] at h
    have c359d := df c359
    obtain ⟨j360, x361, g362, h⟩ := un2 h
    obtain ⟨g3621, g3622⟩ := geti_in g362
    have g3623 := ac_WaterNode g3622
    try simp only [wn] at g3621
    obtain ⟨r442, g440, h⟩ := un1 h
    obtain ⟨N441, kN441⟩ := c78_0 true x361.fName x361.fLake x361.fHead x361.fDraw v358 _ g440
    by_cases c443 : r442 = 0
    · rw [if_pos c443] at h
      have c443d := dt c443
      obtain ⟨g444, h⟩ := un_roomd h
      cases h
      refine ⟨N441, fun n hn => ?_⟩
      have kN441 := kN441 n (by omega)
      try simp (maxSteps := 2000000) only [wn, rc_WaterNode] at kN441
      simp (maxSteps := 2000000) only [W, reduceIte, Nat.reduceEqDiff, Nat.reduceAdd, Nat.reduceSub, Nat.reduceLT, Nat.reduceLeDiff, Nat.reduceMul, h19l0_0, q19l0_0, a19l0b, rc_WaterNode, c359d, g3621, g3623, kN441, c443d, g444]
    · rw [if_neg c443] at h
      have c443d := df c443
      cases h
      refine ⟨N441, fun n hn => ?_⟩
      have kN441 := kN441 n (by omega)
      try simp (maxSteps := 2000000) only [wn, rc_WaterNode] at kN441
      simp (maxSteps := 2000000) only [W, reduceIte, Nat.reduceEqDiff, Nat.reduceAdd, Nat.reduceSub, Nat.reduceLT, Nat.reduceLeDiff, Nat.reduceMul, h19l0_0, q19l0_0, a19l0b, rc_WaterNode, c359d, g3621, g3623, kN441, c443d]
end Go.AI
