/-
  Functions, walked through: guidevanebase.IsName, guidevanebase.HasText, guidevanebase.Within, guidevaneref02.nodeErr.
-/
import Derived.Test.YtfglifekecijjaaBAiY
import Derived.Test.YtfglifekecijjaaBAiTab
import Derived.Test.YtfglifekecijjaaBAiAwake
import Derived.Test.YtfglifekecijjaaBWnF
set_option linter.unusedVariables false
set_option linter.unusedSimpArgs false
set_option maxRecDepth 100000
set_option maxHeartbeats 4000000
namespace Go.AI
noncomputable def h131l0_0 (v363 : ByteArray) : (Int) → Env × Heap
  | v364 => ([(0, .str v363), (3, .int .i64 v364)], [])
noncomputable def q131l0_0 (v363 : ByteArray) : ((Unit) ⊕ (Unit)) → AExit × Env × Heap
  | .inl (_) => (.exit 0, [(2, .undef)], [])
  | .inr (_) => (.ret, [(2, .bool false)], [])
theorem k131l0_0 (v363 : ByteArray) (s : Int) (o : (Unit) ⊕ (Unit)) (h : L131l0_0 v363 s = some o) : Ev fun n => loopAt [0, 3] [2] a131l0b (ex tab n) 0 (h131l0_0 v363 s) = some (q131l0_0 v363 o) := by
  refine iter_sound (S131l0_0 v363) [0, 3] [2] a131l0b 0 (h131l0_0 v363) (q131l0_0 v363) ?_ _ _ _ h
  rintro v364 z h
  simp only [S131l0_0] at h
  by_cases c390 : (v363.size : Int) ≤ v364
  · rw [if_pos c390] at h
    have c390d := dt c390
    cases h
    refine ⟨0, fun n hn => ?_⟩
    simp only [W, reduceIte, Nat.reduceEqDiff, Nat.reduceAdd, Nat.reduceSub, Nat.reduceLT, Nat.reduceLeDiff, Nat.reduceMul, h131l0_0, q131l0_0, a131l0b, c390d]
  · rw [if_neg c390] at h
    have c390d := df c390
    obtain ⟨j365, b366, g367, h⟩ := un2 h
    obtain ⟨g3671, g3672⟩ := geti_in g367
    try simp only [wn] at g3671
    by_cases c389 : 97 ≤ (b366.toNat : Int)
    · rw [if_pos c389] at h
      have c389d := dt c389
      by_cases c378 : (b366.toNat : Int) ≤ 122
      · rw [if_pos c378] at h
        have c378d := dt c378
        cases h
        refine ⟨0, fun n hn => ?_⟩
        simp only [W, reduceIte, Nat.reduceEqDiff, Nat.reduceAdd, Nat.reduceSub, Nat.reduceLT, Nat.reduceLeDiff, Nat.reduceMul, h131l0_0, q131l0_0, a131l0b, c390d, g3671, g3672, c389d, c378d]
      · rw [if_neg c378] at h
        have c378d := df c378
        by_cases c377 : 65 ≤ (b366.toNat : Int)
        · rw [if_pos c377] at h
          have c377d := dt c377
          by_cases c372 : (b366.toNat : Int) ≤ 90
          · rw [if_pos c372] at h
            have c372d := dt c372
            cases h
            refine ⟨0, fun n hn => ?_⟩
            simp only [W, reduceIte, Nat.reduceEqDiff, Nat.reduceAdd, Nat.reduceSub, Nat.reduceLT, Nat.reduceLeDiff, Nat.reduceMul, h131l0_0, q131l0_0, a131l0b, c390d, g3671, g3672, c389d, c378d, c377d, c372d]
          · rw [if_neg c372] at h
            have c372d := df c372
            by_cases c371 : v364 = 0
            · rw [if_pos c371] at h
              have c371d := dt c371
              cases h
              refine ⟨0, fun n hn => ?_⟩
              simp only [W, reduceIte, Nat.reduceEqDiff, Nat.reduceAdd, Nat.reduceSub, Nat.reduceLT, Nat.reduceLeDiff, Nat.reduceMul, h131l0_0, q131l0_0, a131l0b, c390d, g3671, g3672, c389d, c378d, c377d, c372d, c371d]
            · rw [if_neg c371] at h
              have c371d := df c371
              by_cases c370 : (b366.toNat : Int) = 45
              · rw [if_pos c370] at h
                have c370d := dt c370
                cases h
                refine ⟨0, fun n hn => ?_⟩
                simp only [W, reduceIte, Nat.reduceEqDiff, Nat.reduceAdd, Nat.reduceSub, Nat.reduceLT, Nat.reduceLeDiff, Nat.reduceMul, h131l0_0, q131l0_0, a131l0b, c390d, g3671, g3672, c389d, c378d, c377d, c372d, c371d, c370d]
              · rw [if_neg c370] at h
                have c370d := df c370
                by_cases c369 : 48 ≤ (b366.toNat : Int)
                · rw [if_pos c369] at h
                  have c369d := dt c369
                  by_cases c368 : (b366.toNat : Int) ≤ 57
                  · rw [if_pos c368] at h
                    have c368d := dt c368
                    cases h
                    refine ⟨0, fun n hn => ?_⟩
                    simp only [W, reduceIte, Nat.reduceEqDiff, Nat.reduceAdd, Nat.reduceSub, Nat.reduceLT, Nat.reduceLeDiff, Nat.reduceMul, h131l0_0, q131l0_0, a131l0b, c390d, g3671, g3672, c389d, c378d, c377d, c372d, c371d, c370d, c369d, c368d]
                  · rw [if_neg c368] at h
                    have c368d := df c368
                    cases h
                    refine ⟨0, fun n hn => ?_⟩
                    simp only [W, reduceIte, Nat.reduceEqDiff, Nat.reduceAdd, Nat.reduceSub, Nat.reduceLT, Nat.reduceLeDiff, Nat.reduceMul, h131l0_0, q131l0_0, a131l0b, c390d, g3671, g3672, c389d, c378d, c377d, c372d, c371d, c370d, c369d, c368d]
                · rw [if_neg c369] at h
                  have c369d := df c369
                  cases h
                  refine ⟨0, fun n hn => ?_⟩
                  simp only [W, reduceIte, Nat.reduceEqDiff, Nat.reduceAdd, Nat.reduceSub, Nat.reduceLT, Nat.reduceLeDiff, Nat.reduceMul, h131l0_0, q131l0_0, a131l0b, c390d, g3671, g3672, c389d, c378d, c377d, c372d, c371d, c370d, c369d]
        · rw [if_neg c377] at h
          have c377d := df c377
          by_cases c376 : v364 = 0
          · rw [if_pos c376] at h
            have c376d := dt c376
            cases h
            refine ⟨0, fun n hn => ?_⟩
            simp only [W, reduceIte, Nat.reduceEqDiff, Nat.reduceAdd, Nat.reduceSub, Nat.reduceLT, Nat.reduceLeDiff, Nat.reduceMul, h131l0_0, q131l0_0, a131l0b, c390d, g3671, g3672, c389d, c378d, c377d, c376d]
          · rw [if_neg c376] at h
            have c376d := df c376
            by_cases c375 : (b366.toNat : Int) = 45
            · rw [if_pos c375] at h
              have c375d := dt c375
              cases h
              refine ⟨0, fun n hn => ?_⟩
              simp only [W, reduceIte, Nat.reduceEqDiff, Nat.reduceAdd, Nat.reduceSub, Nat.reduceLT, Nat.reduceLeDiff, Nat.reduceMul, h131l0_0, q131l0_0, a131l0b, c390d, g3671, g3672, c389d, c378d, c377d, c376d, c375d]
            · rw [if_neg c375] at h
              have c375d := df c375
              by_cases c374 : 48 ≤ (b366.toNat : Int)
              · rw [if_pos c374] at h
                have c374d := dt c374
                by_cases c373 : (b366.toNat : Int) ≤ 57
                · rw [if_pos c373] at h
                  have c373d := dt c373
                  cases h
                  refine ⟨0, fun n hn => ?_⟩
                  simp only [W, reduceIte, Nat.reduceEqDiff, Nat.reduceAdd, Nat.reduceSub, Nat.reduceLT, Nat.reduceLeDiff, Nat.reduceMul, h131l0_0, q131l0_0, a131l0b, c390d, g3671, g3672, c389d, c378d, c377d, c376d, c375d, c374d, c373d]
                · rw [if_neg c373] at h
                  have c373d := df c373
                  cases h
                  refine ⟨0, fun n hn => ?_⟩
                  simp only [W, reduceIte, Nat.reduceEqDiff, Nat.reduceAdd, Nat.reduceSub, Nat.reduceLT, Nat.reduceLeDiff, Nat.reduceMul, h131l0_0, q131l0_0, a131l0b, c390d, g3671, g3672, c389d, c378d, c377d, c376d, c375d, c374d, c373d]
              · rw [if_neg c374] at h
                have c374d := df c374
                cases h
                refine ⟨0, fun n hn => ?_⟩
                simp only [W, reduceIte, Nat.reduceEqDiff, Nat.reduceAdd, Nat.reduceSub, Nat.reduceLT, Nat.reduceLeDiff, Nat.reduceMul, h131l0_0, q131l0_0, a131l0b, c390d, g3671, g3672, c389d, c378d, c377d, c376d, c375d, c374d]
    · rw [if_neg c389] at h
      have c389d := df c389
      by_cases c388 : 65 ≤ (b366.toNat : Int)
      · rw [if_pos c388] at h
        have c388d := dt c388
        by_cases c383 : (b366.toNat : Int) ≤ 90
        · rw [if_pos c383] at h
          have c383d := dt c383
          cases h
          refine ⟨0, fun n hn => ?_⟩
          simp only [W, reduceIte, Nat.reduceEqDiff, Nat.reduceAdd, Nat.reduceSub, Nat.reduceLT, Nat.reduceLeDiff, Nat.reduceMul, h131l0_0, q131l0_0, a131l0b, c390d, g3671, g3672, c389d, c388d, c383d]
        · rw [if_neg c383] at h
          have c383d := df c383
          by_cases c382 : v364 = 0
          · rw [if_pos c382] at h
            have c382d := dt c382
            cases h
            refine ⟨0, fun n hn => ?_⟩
            simp only [W, reduceIte, Nat.reduceEqDiff, Nat.reduceAdd, Nat.reduceSub, Nat.reduceLT, Nat.reduceLeDiff, Nat.reduceMul, h131l0_0, q131l0_0, a131l0b, c390d, g3671, g3672, c389d, c388d, c383d, c382d]
          · rw [if_neg c382] at h
            have c382d := df c382
            by_cases c381 : (b366.toNat : Int) = 45
            · rw [if_pos c381] at h
              have c381d := dt c381
              cases h
              refine ⟨0, fun n hn => ?_⟩
              simp only [W, reduceIte, Nat.reduceEqDiff, Nat.reduceAdd, Nat.reduceSub, Nat.reduceLT, Nat.reduceLeDiff, Nat.reduceMul, h131l0_0, q131l0_0, a131l0b, c390d, g3671, g3672, c389d, c388d, c383d, c382d, c381d]
            · rw [if_neg c381] at h
              have c381d := df c381
              by_cases c380 : 48 ≤ (b366.toNat : Int)
              · rw [if_pos c380] at h
                have c380d := dt c380
                by_cases c379 : (b366.toNat : Int) ≤ 57
                · rw [if_pos c379] at h
                  have c379d := dt c379
                  cases h
                  refine ⟨0, fun n hn => ?_⟩
                  simp only [W, reduceIte, Nat.reduceEqDiff, Nat.reduceAdd, Nat.reduceSub, Nat.reduceLT, Nat.reduceLeDiff, Nat.reduceMul, h131l0_0, q131l0_0, a131l0b, c390d, g3671, g3672, c389d, c388d, c383d, c382d, c381d, c380d, c379d]
                · rw [if_neg c379] at h
                  have c379d := df c379
                  cases h
                  refine ⟨0, fun n hn => ?_⟩
                  simp only [W, reduceIte, Nat.reduceEqDiff, Nat.reduceAdd, Nat.reduceSub, Nat.reduceLT, Nat.reduceLeDiff, Nat.reduceMul, h131l0_0, q131l0_0, a131l0b, c390d, g3671, g3672, c389d, c388d, c383d, c382d, c381d, c380d, c379d]
              · rw [if_neg c380] at h
                have c380d := df c380
                cases h
                refine ⟨0, fun n hn => ?_⟩
                simp only [W, reduceIte, Nat.reduceEqDiff, Nat.reduceAdd, Nat.reduceSub, Nat.reduceLT, Nat.reduceLeDiff, Nat.reduceMul, h131l0_0, q131l0_0, a131l0b, c390d, g3671, g3672, c389d, c388d, c383d, c382d, c381d, c380d]
      · rw [if_neg c388] at h
        have c388d := df c388
        by_cases c387 : v364 = 0
        · rw [if_pos c387] at h
          have c387d := dt c387
          cases h
          refine ⟨0, fun n hn => ?_⟩
          simp only [W, reduceIte, Nat.reduceEqDiff, Nat.reduceAdd, Nat.reduceSub, Nat.reduceLT, Nat.reduceLeDiff, Nat.reduceMul, h131l0_0, q131l0_0, a131l0b, c390d, g3671, g3672, c389d, c388d, c387d]
        · rw [if_neg c387] at h
          have c387d := df c387
          by_cases c386 : (b366.toNat : Int) = 45
          · rw [if_pos c386] at h
            have c386d := dt c386
            cases h
            refine ⟨0, fun n hn => ?_⟩
            simp only [W, reduceIte, Nat.reduceEqDiff, Nat.reduceAdd, Nat.reduceSub, Nat.reduceLT, Nat.reduceLeDiff, Nat.reduceMul, h131l0_0, q131l0_0, a131l0b, c390d, g3671, g3672, c389d, c388d, c387d, c386d]
          · rw [if_neg c386] at h
            have c386d := df c386
            by_cases c385 : 48 ≤ (b366.toNat : Int)
            · rw [if_pos c385] at h
              have c385d := dt c385
              by_cases c384 : (b366.toNat : Int) ≤ 57
              · rw [if_pos c384] at h
                have c384d := dt c384
                cases h
                refine ⟨0, fun n hn => ?_⟩
                simp only [W, reduceIte, Nat.reduceEqDiff, Nat.reduceAdd, Nat.reduceSub, Nat.reduceLT, Nat.reduceLeDiff, Nat.reduceMul, h131l0_0, q131l0_0, a131l0b, c390d, g3671, g3672, c389d, c388d, c387d, c386d, c385d, c384d]
              · rw [if_neg c384] at h
                have c384d := df c384
                cases h
                refine ⟨0, fun n hn => ?_⟩
                simp only [W, reduceIte, Nat.reduceEqDiff, Nat.reduceAdd, Nat.reduceSub, Nat.reduceLT, Nat.reduceLeDiff, Nat.reduceMul, h131l0_0, q131l0_0, a131l0b, c390d, g3671, g3672, c389d, c388d, c387d, c386d, c385d, c384d]
            · rw [if_neg c385] at h
              have c385d := df c385
              cases h
              refine ⟨0, fun n hn => ?_⟩
              simp only [W, reduceIte, Nat.reduceEqDiff, Nat.reduceAdd, Nat.reduceSub, Nat.reduceLT, Nat.reduceLeDiff, Nat.reduceMul, h131l0_0, q131l0_0, a131l0b, c390d, g3671, g3672, c389d, c388d, c387d, c386d, c385d]
theorem c131_0 (v362 : ByteArray) (r395 : Bool) (h : F131_0 v362 = some r395) : Ev fun n => (ex tab n).call 131 [.str v362] [] = some (.bool r395, []) := by
  unfold F131_0 at h
  by_cases c394 : 1 ≤ (v362.size : Int)
  · rw [if_pos c394] at h
    have c394d := dt c394
    by_cases c393 : (v362.size : Int) ≤ 12
    · rw [if_pos c393] at h
      have c393d := dt c393
      obtain ⟨g391_, g391, h⟩ := un1 h
      rcases g391_ with _ | _
      · dsimp only at h
        have kN392 := k131l0_0 v362 0 _ g391
        obtain ⟨N392, kN392⟩ := kN392
        cases h
        refine ev_call (fn := a131) rfl ⟨N392, fun n hn => ?_⟩
        have kN392 := kN392 n (by omega)
        simp only [h131l0_0, q131l0_0, wn] at kN392
        simp only [W, reduceIte, Nat.reduceEqDiff, Nat.reduceAdd, Nat.reduceSub, Nat.reduceLT, Nat.reduceLeDiff, Nat.reduceMul, a131, a131l0, c394d, c393d, kN392, @x_loopAt]
      · dsimp only at h
        have kN392 := k131l0_0 v362 0 _ g391
        obtain ⟨N392, kN392⟩ := kN392
        cases h
        refine ev_call (fn := a131) rfl ⟨N392, fun n hn => ?_⟩
        have kN392 := kN392 n (by omega)
        simp only [h131l0_0, q131l0_0, wn] at kN392
        simp only [W, reduceIte, Nat.reduceEqDiff, Nat.reduceAdd, Nat.reduceSub, Nat.reduceLT, Nat.reduceLeDiff, Nat.reduceMul, a131, a131l0, c394d, c393d, kN392, @x_loopAt]
    · rw [if_neg c393] at h
      have c393d := df c393
      cases h
      refine ev_call (fn := a131) rfl ⟨0, fun n hn => ?_⟩
      simp only [W, reduceIte, Nat.reduceEqDiff, Nat.reduceAdd, Nat.reduceSub, Nat.reduceLT, Nat.reduceLeDiff, Nat.reduceMul, a131, a131l0, c394d, c393d, @x_loopAt]
  · rw [if_neg c394] at h
    have c394d := df c394
    cases h
    refine ev_call (fn := a131) rfl ⟨0, fun n hn => ?_⟩
    simp only [W, reduceIte, Nat.reduceEqDiff, Nat.reduceAdd, Nat.reduceSub, Nat.reduceLT, Nat.reduceLeDiff, Nat.reduceMul, a131, a131l0, c394d, @x_loopAt]
noncomputable def h132l0_0 (z0 : Bool) (v401 : ByteArray) (v403 : List ByteArray) : (Int) → Env × Heap
  | v402 => ([(0, .slice 0 0 v403.length v403.length 1 false), (1, .str v401), (5, .int .i64 v402)], [.row z0 true (rowC v403)])
noncomputable def q132l0_0 (z0 : Bool) (v401 : ByteArray) (v403 : List ByteArray) : ((Unit) ⊕ (Unit)) → AExit × Env × Heap
  | .inl (_) => (.exit 0, [(4, .undef)], [.row z0 true (rowC v403)])
  | .inr (_) => (.ret, [(4, .bool true)], [.row z0 true (rowC v403)])
theorem k132l0_0 (z0 : Bool) (v401 : ByteArray) (v403 : List ByteArray) (s : Int) (o : (Unit) ⊕ (Unit)) (h : L132l0_0 v401 v403 s = some o) : Ev fun n => loopAt [0, 1, 5] [4] a132l0b (ex tab n) 1 (h132l0_0 z0 v401 v403 s) = some (q132l0_0 z0 v401 v403 o) := by
  refine iter_sound (S132l0_0 v401 v403) [0, 1, 5] [4] a132l0b 1 (h132l0_0 z0 v401 v403) (q132l0_0 z0 v401 v403) ?_ _ _ _ h
  rintro v402 z h
  simp only [S132l0_0] at h
  by_cases c408 : (v403.length : Int) ≤ v402
  · rw [if_pos c408] at h
    have c408d := dt c408
    cases h
    refine ⟨0, fun n hn => ?_⟩
    simp only [W, reduceIte, Nat.reduceEqDiff, Nat.reduceAdd, Nat.reduceSub, Nat.reduceLT, Nat.reduceLeDiff, Nat.reduceMul, h132l0_0, q132l0_0, a132l0b, c408d]
  · rw [if_neg c408] at h
    have c408d := df c408
    obtain ⟨j404, x405, g406, h⟩ := un2 h
    obtain ⟨g4061, g4062⟩ := geti_in g406
    have g4063 := ac_ByteArray g4062
    try simp only [wn] at g4061
    by_cases c407 : x405 = v401
    · rw [if_pos c407] at h
      have c407d := dt c407
      cases h
      refine ⟨0, fun n hn => ?_⟩
      simp only [W, reduceIte, Nat.reduceEqDiff, Nat.reduceAdd, Nat.reduceSub, Nat.reduceLT, Nat.reduceLeDiff, Nat.reduceMul, h132l0_0, q132l0_0, a132l0b, c408d, g4061, g4063, c407d]
    · rw [if_neg c407] at h
      have c407d := df c407
      cases h
      refine ⟨0, fun n hn => ?_⟩
      simp only [W, reduceIte, Nat.reduceEqDiff, Nat.reduceAdd, Nat.reduceSub, Nat.reduceLT, Nat.reduceLeDiff, Nat.reduceMul, h132l0_0, q132l0_0, a132l0b, c408d, g4061, g4063, c407d]
theorem c132_0 (z0 : Bool) (v399 : ByteArray) (v400 : List ByteArray) (r411 : Bool) (h : F132_0 v399 v400 = some r411) : Ev fun n => (ex tab n).call 132 [.slice 0 0 v400.length v400.length 1 false, .str v399] [.row z0 true (rowC v400)] = some (.bool r411, [.row z0 true (rowC v400)]) := by
  unfold F132_0 at h
  obtain ⟨g409_, g409, h⟩ := un1 h
  rcases g409_ with _ | _
  · dsimp only at h
    have kN410 := k132l0_0 z0 v399 v400 0 _ g409
    obtain ⟨N410, kN410⟩ := kN410
    cases h
    refine ev_call (fn := a132) rfl ⟨N410, fun n hn => ?_⟩
    have kN410 := kN410 n (by omega)
    simp only [h132l0_0, q132l0_0, wn] at kN410
    simp only [W, reduceIte, Nat.reduceEqDiff, Nat.reduceAdd, Nat.reduceSub, Nat.reduceLT, Nat.reduceLeDiff, Nat.reduceMul, a132, a132l0, kN410, @x_loopAt]
  · dsimp only at h
    have kN410 := k132l0_0 z0 v399 v400 0 _ g409
    obtain ⟨N410, kN410⟩ := kN410
    cases h
    refine ev_call (fn := a132) rfl ⟨N410, fun n hn => ?_⟩
    have kN410 := kN410 n (by omega)
    simp only [h132l0_0, q132l0_0, wn] at kN410
    simp only [W, reduceIte, Nat.reduceEqDiff, Nat.reduceAdd, Nat.reduceSub, Nat.reduceLT, Nat.reduceLeDiff, Nat.reduceMul, a132, a132l0, kN410, @x_loopAt]
theorem c20_0 (v415 : Int) (v416 : Int) (v417 : Int) (r419 : Bool) (h : F20_0 v415 v416 v417 = some r419) : Ev fun n => (ex tab n).call 20 [.int .i64 v415, .int .i64 v416, .int .i64 v417] [] = some (.bool r419, []) := by
  unfold F20_0 at h
  by_cases c418 : v416 ≤ v415
  · rw [if_pos c418] at h
    have c418d := dt c418
    cases h
    refine ev_call (fn := a20) rfl ⟨0, fun n hn => ?_⟩
    simp only [W, reduceIte, Nat.reduceEqDiff, Nat.reduceAdd, Nat.reduceSub, Nat.reduceLT, Nat.reduceLeDiff, Nat.reduceMul, a20, c418d]
  · rw [if_neg c418] at h
    have c418d := df c418
    cases h
    refine ev_call (fn := a20) rfl ⟨0, fun n hn => ?_⟩
    simp only [W, reduceIte, Nat.reduceEqDiff, Nat.reduceAdd, Nat.reduceSub, Nat.reduceLT, Nat.reduceLeDiff, Nat.reduceMul, a20, c418d]
theorem c78_0 (z0 : Bool) (v357 : ByteArray) (v358 : Bool) (v359 : Int) (v360 : Int) (v361 : List ByteArray) (r433 : Int) (h : F78_0 v357 v358 v359 v360 v361 = some r433) : Ev fun n => (ex tab n).call 78 [.agg [.str v357, .bool v358, .int .i64 v359, .int .i64 v360], .slice 0 0 v361.length v361.length 1 false] [.row z0 true (rowC v361)] = some (.int .i64 r433, [.row z0 true (rowC v361)]) := by
  unfold F78_0 at h
  obtain ⟨r398, g396, h⟩ := un1 h
  obtain ⟨N397, kN397⟩ := c131_0 v357 _ g396
  by_cases c432 : r398 = true
  · rw [if_pos c432] at h
    have c432d := c432
    obtain ⟨r414, g412, h⟩ := un1 h
    obtain ⟨N413, kN413⟩ := c132_0 z0 v357 v361 _ g412
    by_cases c431 : r414 = true
    · rw [if_pos c431] at h
      have c431d := c431
      cases h
      refine ev_call (fn := a78) rfl ⟨N397 + N413, fun n hn => ?_⟩
      have kN397 := kN397 n (by omega)
      try simp only [wn] at kN397
      have kN413 := kN413 n (by omega)
      try simp only [wn] at kN413
      simp only [W, reduceIte, Nat.reduceEqDiff, Nat.reduceAdd, Nat.reduceSub, Nat.reduceLT, Nat.reduceLeDiff, Nat.reduceMul, a78, kN397, c432d, kN413, c431d]
    · rw [if_neg c431] at h
      have c431d := bf c431
      by_cases c430 : v358 = true
      · rw [if_pos c430] at h
        have c430d := c430
        obtain ⟨r422, g420, h⟩ := un1 h
        obtain ⟨N421, kN421⟩ := c20_0 v359 0 1000000 _ g420
        by_cases c424 : r422 = true
        · rw [if_pos c424] at h
          have c424d := c424
          by_cases c423 : v360 = 0
          · rw [if_pos c423] at h
            have c423d := dt c423
            cases h
            refine ev_call (fn := a78) rfl ⟨N397 + N413 + N421, fun n hn => ?_⟩
            have kN397 := kN397 n (by omega)
            try simp only [wn] at kN397
            have kN413 := kN413 n (by omega)
            try simp only [wn] at kN413
            have kN421 := kN421 n (by omega)
            try simp only [wn] at kN421
            simp only [W, reduceIte, Nat.reduceEqDiff, Nat.reduceAdd, Nat.reduceSub, Nat.reduceLT, Nat.reduceLeDiff, Nat.reduceMul, a78, kN397, c432d, kN413, c431d, c430d, kN421, c424d, c423d]
          · rw [if_neg c423] at h
            have c423d := df c423
            cases h
            refine ev_call (fn := a78) rfl ⟨N397 + N413 + N421, fun n hn => ?_⟩
            have kN397 := kN397 n (by omega)
            try simp only [wn] at kN397
            have kN413 := kN413 n (by omega)
            try simp only [wn] at kN413
            have kN421 := kN421 n (by omega)
            try simp only [wn] at kN421
            simp only [W, reduceIte, Nat.reduceEqDiff, Nat.reduceAdd, Nat.reduceSub, Nat.reduceLT, Nat.reduceLeDiff, Nat.reduceMul, a78, kN397, c432d, kN413, c431d, c430d, kN421, c424d, c423d]
        · rw [if_neg c424] at h
          have c424d := bf c424
          cases h
          refine ev_call (fn := a78) rfl ⟨N397 + N413 + N421, fun n hn => ?_⟩
          have kN397 := kN397 n (by omega)
          try simp only [wn] at kN397
          have kN413 := kN413 n (by omega)
          try simp only [wn] at kN413
          have kN421 := kN421 n (by omega)
          try simp only [wn] at kN421
          simp only [W, reduceIte, Nat.reduceEqDiff, Nat.reduceAdd, Nat.reduceSub, Nat.reduceLT, Nat.reduceLeDiff, Nat.reduceMul, a78, kN397, c432d, kN413, c431d, c430d, kN421, c424d]
      · rw [if_neg c430] at h
        have c430d := bf c430
        obtain ⟨r427, g425, h⟩ := un1 h
        obtain ⟨N426, kN426⟩ := c20_0 v360 (-10000) 10000 _ g425
        by_cases c429 : r427 = true
        · rw [if_pos c429] at h
          have c429d := c429
          by_cases c428 : v359 = 0
          · rw [if_pos c428] at h
            have c428d := dt c428
            cases h
            refine ev_call (fn := a78) rfl ⟨N397 + N413 + N426, fun n hn => ?_⟩
            have kN397 := kN397 n (by omega)
            try simp only [wn] at kN397
            have kN413 := kN413 n (by omega)
            try simp only [wn] at kN413
            have kN426 := kN426 n (by omega)
            try simp only [wn] at kN426
            simp only [W, reduceIte, Nat.reduceEqDiff, Nat.reduceAdd, Nat.reduceSub, Nat.reduceLT, Nat.reduceLeDiff, Nat.reduceMul, a78, kN397, c432d, kN413, c431d, c430d, kN426, c429d, c428d]
          · rw [if_neg c428] at h
            have c428d := df c428
            cases h
            refine ev_call (fn := a78) rfl ⟨N397 + N413 + N426, fun n hn => ?_⟩
            have kN397 := kN397 n (by omega)
            try simp only [wn] at kN397
            have kN413 := kN413 n (by omega)
            try simp only [wn] at kN413
            have kN426 := kN426 n (by omega)
            try simp only [wn] at kN426
            simp only [W, reduceIte, Nat.reduceEqDiff, Nat.reduceAdd, Nat.reduceSub, Nat.reduceLT, Nat.reduceLeDiff, Nat.reduceMul, a78, kN397, c432d, kN413, c431d, c430d, kN426, c429d, c428d]
        · rw [if_neg c429] at h
          have c429d := bf c429
          cases h
          refine ev_call (fn := a78) rfl ⟨N397 + N413 + N426, fun n hn => ?_⟩
          have kN397 := kN397 n (by omega)
          try simp only [wn] at kN397
          have kN413 := kN413 n (by omega)
          try simp only [wn] at kN413
          have kN426 := kN426 n (by omega)
          try simp only [wn] at kN426
          simp only [W, reduceIte, Nat.reduceEqDiff, Nat.reduceAdd, Nat.reduceSub, Nat.reduceLT, Nat.reduceLeDiff, Nat.reduceMul, a78, kN397, c432d, kN413, c431d, c430d, kN426, c429d]
  · rw [if_neg c432] at h
    have c432d := bf c432
    cases h
    refine ev_call (fn := a78) rfl ⟨N397, fun n hn => ?_⟩
    have kN397 := kN397 n (by omega)
    try simp only [wn] at kN397
    simp only [W, reduceIte, Nat.reduceEqDiff, Nat.reduceAdd, Nat.reduceSub, Nat.reduceLT, Nat.reduceLeDiff, Nat.reduceMul, a78, kN397, c432d]
noncomputable def h19l0_0 (z0 : Bool) (z1 : Bool) (v351 : List WaterNode) (v352 : List WaterConduit) : (Int × (List ByteArray)) → Env × Heap
  | (v350, v353) => ([(1, .ptr 2 0), (4, .slice 3 0 v353.length v353.length 1 false), (5, .int .i64 v350)], [.row z0 true (rowC v351), .row z1 true (rowC v352), .row true false [.slice 0 0 v351.length v351.length 4 false, .slice 1 0 v352.length v352.length 6 false], .row true true (rowC v353)])
noncomputable def q19l0_0 (z0 : Bool) (z1 : Bool) (v351 : List WaterNode) (v352 : List WaterConduit) : ((Unit) ⊕ (Int × Int)) → AExit × Env × Heap
  | .inl (_) => (.exit 0, [(1, .ptr 2 0), (2, .undef), (3, .undef)], [.row z0 true (rowC v351), .row z1 true (rowC v352), .row true false [.slice 0 0 v351.length v351.length 4 false, .slice 1 0 v352.length v352.length 6 false]])
  | .inr (r440, r441) => (.ret, [(1, .ptr 2 0), (2, .int .i64 r440), (3, .int .i64 r441)], [.row z0 true (rowC v351), .row z1 true (rowC v352), .row true false [.slice 0 0 v351.length v351.length 4 false, .slice 1 0 v352.length v352.length 6 false]])
theorem k19l0_0 (z0 : Bool) (z1 : Bool) (v351 : List WaterNode) (v352 : List WaterConduit) (s : Int × (List ByteArray)) (o : (Unit) ⊕ (Int × Int)) (h : L19l0_0 v351 v352 s = some o) : Ev fun n => loopAt [1, 4, 5] [1, 2, 3] a19l0b (ex tab n) 2 (h19l0_0 z0 z1 v351 v352 s) = some (q19l0_0 z0 z1 v351 v352 o) := by
  refine iter_sound (S19l0_0 v351 v352) [1, 4, 5] [1, 2, 3] a19l0b 2 (h19l0_0 z0 z1 v351 v352) (q19l0_0 z0 z1 v351 v352) ?_ _ _ _ h
  rintro ⟨v350, v353⟩ z h
  simp only [S19l0_0] at h
  by_cases c439 : (v351.length : Int) ≤ v350
  · rw [if_pos c439] at h
    have c439d := dt c439
    cases h
    refine ⟨0, fun n hn => ?_⟩
    simp only [W, reduceIte, Nat.reduceEqDiff, Nat.reduceAdd, Nat.reduceSub, Nat.reduceLT, Nat.reduceLeDiff, Nat.reduceMul, h19l0_0, q19l0_0, a19l0b, rc_WaterNode, c439d]
  · rw [if_neg c439] at h
    have c439d := df c439
    obtain ⟨j354, x355, g356, h⟩ := un2 h
    obtain ⟨g3561, g3562⟩ := geti_in g356
    have g3563 := ac_WaterNode g3562
    try simp only [wn] at g3561
    obtain ⟨r436, g434, h⟩ := un1 h
    obtain ⟨N435, kN435⟩ := c78_0 true x355.fName x355.fLake x355.fHead x355.fDraw v353 _ g434
    by_cases c438 : r436 = 0
    · rw [if_pos c438] at h
      have c438d := dt c438
      obtain ⟨g437, h⟩ := un_roomd h
      cases h
      refine ⟨N435, fun n hn => ?_⟩
      have kN435 := kN435 n (by omega)
      try simp only [wn, rc_WaterNode] at kN435
      simp only [W, reduceIte, Nat.reduceEqDiff, Nat.reduceAdd, Nat.reduceSub, Nat.reduceLT, Nat.reduceLeDiff, Nat.reduceMul, h19l0_0, q19l0_0, a19l0b, rc_WaterNode, c439d, g3561, g3563, kN435, c438d, g437]
    · rw [if_neg c438] at h
      have c438d := df c438
      cases h
      refine ⟨N435, fun n hn => ?_⟩
      have kN435 := kN435 n (by omega)
      try simp only [wn, rc_WaterNode] at kN435
      simp only [W, reduceIte, Nat.reduceEqDiff, Nat.reduceAdd, Nat.reduceSub, Nat.reduceLT, Nat.reduceLeDiff, Nat.reduceMul, h19l0_0, q19l0_0, a19l0b, rc_WaterNode, c439d, g3561, g3563, kN435, c438d]
end Go.AI
