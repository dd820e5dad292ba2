/-
  What the functions compute.
-/
import Derived.Test.YtcghmpalmedkiaaGreatKWnTy
set_option linter.unusedVariables false
set_option linter.unusedSimpArgs false
set_option maxRecDepth 100000
set_option maxHeartbeats 4000000
namespace Go.AI
noncomputable def S13l0_0 (v16 : List DispatchMode) (v17 : Int) (v18 : Int) : Int → Option ((Int) ⊕ ((Unit) ⊕ (Unit)))
  | v15 =>
    if (v16.length : Int) ≤ v15 then
      some (.inr (.inl ()))
    else
      bind2 (geti v16 v15) fun j20 x21 =>
      if (x21.fName.size : Int) ≤ 20 then
        some (.inl (aw .i64 (v15 + 1)))
      else
        some (.inr (.inr ()))
noncomputable def L13l0_0 (v16 : List DispatchMode) (v17 : Int) (v18 : Int) (s : Int) : Option ((Unit) ⊕ (Unit)) := iter (S13l0_0 v16 v17 v18) 1000000 s
-- guidevanelaw08.Few
noncomputable def F13_0 (v11 : Int) (v12 : Int) (v13 : List DispatchMode) : Option (Bool) :=
  if (v13.length : Int) ≤ 7 then
    (L13l0_0 v13 v11 v12 0).bind fun g24_ => match g24_ with
    | .inl () =>
      some true
    | .inr () =>
      some false
  else
    some false
-- guidevanelaw08.Short
noncomputable def F14_0 (v31 : Int) (v32 : Int) (v33 : Int) (v34 : List DispatchHour) : Option (Bool) :=
  some (decide ((v34.length : Int) ≤ 12))
-- guidevaneref08.CopyPlant
noncomputable def F16_0 (v41 : Int) (v42 : Int) (v43 : List DispatchMode) : Option (Unit) :=
  room (v43.length * 40) (
    some ()
  )
-- guidevaneref08.CopyTask
noncomputable def F17_0 (v47 : Int) (v48 : Int) (v49 : Int) (v50 : List DispatchHour) : Option (Unit) :=
  room (v50.length * 24) (
    some ()
  )
-- guidevanebase.CopyInts
noncomputable def F26_0 (v56 : List Int) : Option (Unit) :=
  room (v56.length * 8) (
    some ()
  )
-- guidevaneref08.CopyReserve
noncomputable def F18_0 (v54 : Int) (v55 : List Int) : Option (Unit) :=
  (F26_0 v55).bind fun _ =>
  some ()
-- dispatch.within
noncomputable def F75_0 (v97 : Int) (v98 : Int) (v99 : Int) : Option (Bool) :=
  if v98 ≤ v97 then
    some (decide (v97 ≤ v99))
  else
    some false
-- dispatch.CheckPlant$1
noncomputable def F77_0 (v96 : Int) : Option (Bool) :=
  (F75_0 v96 0 1000000).bind fun r104 =>
  some r104
-- dispatch.unless
noncomputable def F70_0 (v113 : Bool) (v114 : Int) : Option (Int) :=
  if v113 = true then
    some 0
  else
    some v114
noncomputable def S69l0_0 (v133 : Int) (v135 : List Int) : Int → Option ((Int) ⊕ ((Unit) ⊕ (Int)))
  | v134 =>
    if v133 ≤ v134 then
      some (.inr (.inl ()))
    else
      bind2 (geti v135 v134) fun j137 x138 =>
      if x138 = 0 then
        some (.inl (aw .i64 (v134 + 1)))
      else
        some (.inr (.inr (x138)))
noncomputable def L69l0_0 (v133 : Int) (v135 : List Int) (s : Int) : Option ((Unit) ⊕ (Int)) := iter (S69l0_0 v133 v135) 1000000 s
-- dispatch.first
noncomputable def F69_0 (v132 : List Int) : Option (Int) :=
  (L69l0_0 (v132.length : Int) v132 0).bind fun g142_ => match g142_ with
  | .inl () =>
    some 0
  | .inr (r144) =>
    some r144
-- dispatch.CheckPlant$2
noncomputable def F79_0 (v189 : ByteArray) (v190 : Int) (v191 : Int) (v192 : Int) (v193 : ByteArray) (v194 : Int) (v195 : Int) (v196 : Int) : Option (Bool) :=
  some (decide (v189 = v193))
noncomputable def S126l0_0 (v175 : Nat) (v176 : Nat) (v177 : Int) (v179 : List DispatchMode) (v180 : ByteArray) (v181 : Int) (v182 : Int) (v183 : Int) : Int → Option ((Int) ⊕ ((Unit) ⊕ (Int)))
  | v178 =>
    if v177 ≤ v178 then
      some (.inr (.inl ()))
    else
      (inx v178 v175).bind fun j185 =>
      (v179[j185]?).bind fun x186 =>
      (F79_0 x186.fName x186.fChange x186.fEnergy x186.fStart v180 v181 v182 v183).bind fun r200 =>
      if r200 = true then
        some (.inr (.inr (v178)))
      else
        some (.inl (aw .i64 (v178 + 1)))
noncomputable def L126l0_0 (v175 : Nat) (v176 : Nat) (v177 : Int) (v179 : List DispatchMode) (v180 : ByteArray) (v181 : Int) (v182 : Int) (v183 : Int) (s : Int) : Option ((Unit) ⊕ (Int)) := iter (S126l0_0 v175 v176 v177 v179 v180 v181 v182 v183) 1000000 s
-- api.DispatchMode]
noncomputable def F126_0 (v168 : Nat) (v169 : Nat) (v170 : List DispatchMode) (v171 : ByteArray) (v172 : Int) (v173 : Int) (v174 : Int) : Option (Int) :=
  (L126l0_0 v168 v169 (v168 : Int) v170 v171 v172 v173 v174 0).bind fun g203_ => match g203_ with
  | .inl () =>
    some (-1)
  | .inr (r205) =>
    some r205
-- api.DispatchMode]
noncomputable def F78_0 (v161 : Nat) (v162 : Nat) (v163 : List DispatchMode) (v164 : ByteArray) (v165 : Int) (v166 : Int) (v167 : Int) : Option (Bool) :=
  (F126_0 v161 v162 v163 v164 v165 v166 v167).bind fun r209 =>
  some (decide (0 ≤ r209))
-- dispatch.isSized
noncomputable def F80_0 (v214 : Int) (v215 : Int) : Option (Bool) :=
  (F75_0 v214 (aw .i64 (0 - v215)) v215).bind fun r218 =>
  some r218
noncomputable def S81l0_0 (v233 : ByteArray) (v234 : Int) (v236 : List UInt8) : Int → Option ((Int) ⊕ ((Unit) ⊕ (Unit)))
  | v235 =>
    if v234 ≤ v235 then
      some (.inr (.inl ()))
    else
      bind2 (geti v236 v235) fun j238 x239 =>
      (F75_0 (aw .i64 (ior .u8 (x239.toNat : Int) 32)) 97 122).bind fun r243 =>
      if r243 = true then
        some (.inl (aw .i64 (v235 + 1)))
      else
      if v235 = 0 then
        some (.inr (.inr ()))
      else
      if (x239.toNat : Int) = 45 then
        some (.inl (aw .i64 (v235 + 1)))
      else
        (F75_0 (aw .i64 (x239.toNat : Int)) 48 57).bind fun r249 =>
        if r249 = true then
          some (.inl (aw .i64 (v235 + 1)))
        else
          some (.inr (.inr ()))
noncomputable def L81l0_0 (v233 : ByteArray) (v234 : Int) (v236 : List UInt8) (s : Int) : Option ((Unit) ⊕ (Unit)) := iter (S81l0_0 v233 v234 v236) 1000000 s
-- dispatch.isName
noncomputable def F81_0 (v231 : ByteArray) : Option (Bool) :=
  roomS (v231.size) (
    (L81l0_0 v231 (v231.size : Int) (v231.data.toList) 0).bind fun g251_ => match g251_ with
    | .inl () =>
      (F75_0 (v231.size : Int) 1 12).bind fun r255 =>
      some r255
    | .inr () =>
      some false
  )
noncomputable def S30l0_0 (v150 : Int) (v152 : List DispatchMode) (v153 : Int) (v154 : Int) : Int → Option ((Int) ⊕ ((Unit) ⊕ (Int × Int)))
  | v151 =>
    if v150 ≤ v151 then
      some (.inr (.inl ()))
    else
      bind2 (geti v152 v151) fun j156 x157 =>
      (inx v151 (v152.length + 1)).bind fun j159 =>
      (F78_0 j159 v152.length v152 x157.fName x157.fChange x157.fEnergy x157.fStart).bind fun r213 =>
      (F80_0 x157.fChange 10000).bind fun r222 =>
      if r222 = true then
        (F80_0 x157.fEnergy 10000).bind fun r226 =>
        if r226 = true then
          (F75_0 x157.fStart 0 10000).bind fun r230 =>
          (F81_0 x157.fName).bind fun r259 =>
          (F70_0 r259 4).bind fun r262 =>
          (F70_0 (!r213) 5).bind fun r265 =>
          (F70_0 r230 2).bind fun r268 =>
          (F69_0 ([r262, r265, r268] : List Int)).bind fun r271 =>
          if r271 = 0 then
            some (.inl (aw .i64 (v151 + 1)))
          else
            some (.inr (.inr (v151, r271)))
        else
          (F81_0 x157.fName).bind fun r275 =>
          (F70_0 r275 4).bind fun r278 =>
          (F70_0 (!r213) 5).bind fun r281 =>
          (F70_0 false 2).bind fun r284 =>
          (F69_0 ([r278, r281, r284] : List Int)).bind fun r287 =>
          if r287 = 0 then
            some (.inl (aw .i64 (v151 + 1)))
          else
            some (.inr (.inr (v151, r287)))
      else
        (F81_0 x157.fName).bind fun r291 =>
        (F70_0 r291 4).bind fun r294 =>
        (F70_0 (!r213) 5).bind fun r297 =>
        (F70_0 false 2).bind fun r300 =>
        (F69_0 ([r294, r297, r300] : List Int)).bind fun r303 =>
        if r303 = 0 then
          some (.inl (aw .i64 (v151 + 1)))
        else
          some (.inr (.inr (v151, r303)))
noncomputable def L30l0_0 (v150 : Int) (v152 : List DispatchMode) (v153 : Int) (v154 : Int) (s : Int) : Option ((Unit) ⊕ (Int × Int)) := iter (S30l0_0 v150 v152 v153 v154) 1000000 s
-- dispatch.CheckPlant
noncomputable def F30_0 (v93 : Int) (v94 : Int) (v95 : List DispatchMode) : Option (Int × Int) :=
  (F77_0 v93).bind fun r108 =>
  if r108 = true then
    (F77_0 v94).bind fun r112 =>
    (F70_0 r112 2).bind fun r119 =>
    (F70_0 (decide (v93 ≤ v94)) 9).bind fun r122 =>
    (F70_0 (!(decide (40 ≤ (aw .i64 (v94 - v93))))) 8).bind fun r125 =>
    (F70_0 (!(decide ((v95.length : Int) ≤ 0))) 10).bind fun r128 =>
    (F70_0 (decide ((v95.length : Int) ≤ 5)) 8).bind fun r131 =>
    (F69_0 ([r119, r122, r125, r128, r131] : List Int)).bind fun r148 =>
    if r148 = 0 then
      (L30l0_0 (v95.length : Int) v95 v93 v94 0).bind fun g307_ => match g307_ with
      | .inl () =>
        some (0, 0)
      | .inr (r309, r310) =>
        some (r309, r310)
    else
      some (0, r148)
  else
    (F70_0 false 2).bind fun r313 =>
    (F70_0 (decide (v93 ≤ v94)) 9).bind fun r316 =>
    (F70_0 (!(decide (40 ≤ (aw .i64 (v94 - v93))))) 8).bind fun r319 =>
    (F70_0 (!(decide ((v95.length : Int) ≤ 0))) 10).bind fun r322 =>
    (F70_0 (decide ((v95.length : Int) ≤ 5)) 8).bind fun r325 =>
    (F69_0 ([r313, r316, r319, r322, r325] : List Int)).bind fun r328 =>
    if r328 = 0 then
      (L30l0_0 (v95.length : Int) v95 v93 v94 0).bind fun g330_ => match g330_ with
      | .inl () =>
        some (0, 0)
      | .inr (r332, r333) =>
        some (r332, r333)
    else
      some (0, r328)
-- dispatch.isPrice
noncomputable def F82_0 (v352 : Int) : Option (Bool) :=
  (F80_0 v352 10000).bind fun r355 =>
  some r355
noncomputable def S31l0_0 (v373 : Int) (v375 : List DispatchMode) (v376 : List DispatchHour) : Int → Option ((Int) ⊕ ((Unit) ⊕ (Int × Int)))
  | v374 =>
    if v373 ≤ v374 then
      some (.inr (.inl ()))
    else
      bind2 (geti v376 v374) fun j378 x379 =>
      (F82_0 x379.fBuy).bind fun r383 =>
      if r383 = true then
        (F82_0 x379.fSell).bind fun r387 =>
        if r387 = true then
          (F82_0 x379.fInflow).bind fun r391 =>
          (F70_0 r391 2).bind fun r394 =>
          (F70_0 (decide (x379.fSell ≤ x379.fBuy)) 9).bind fun r397 =>
          (F69_0 ([r394, r397] : List Int)).bind fun r400 =>
          if r400 = 0 then
            some (.inl (aw .i64 (v374 + 1)))
          else
            some (.inr (.inr (v374, r400)))
        else
          (F70_0 false 2).bind fun r404 =>
          (F70_0 (decide (x379.fSell ≤ x379.fBuy)) 9).bind fun r407 =>
          (F69_0 ([r404, r407] : List Int)).bind fun r410 =>
          if r410 = 0 then
            some (.inl (aw .i64 (v374 + 1)))
          else
            some (.inr (.inr (v374, r410)))
      else
        (F70_0 false 2).bind fun r414 =>
        (F70_0 (decide (x379.fSell ≤ x379.fBuy)) 9).bind fun r417 =>
        (F69_0 ([r414, r417] : List Int)).bind fun r420 =>
        if r420 = 0 then
          some (.inl (aw .i64 (v374 + 1)))
        else
          some (.inr (.inr (v374, r420)))
noncomputable def L31l0_0 (v373 : Int) (v375 : List DispatchMode) (v376 : List DispatchHour) (s : Int) : Option ((Unit) ⊕ (Int × Int)) := iter (S31l0_0 v373 v375 v376) 1000000 s
-- dispatch.CheckTask
noncomputable def F31_0 (v86 : Int) (v87 : Int) (v88 : Int) (v89 : Int) (v90 : Int) (v91 : List DispatchMode) (v92 : List DispatchHour) : Option (Int × Int) :=
  bind2 (F30_0 v86 v87 v91) fun r338 r339 =>
  (F75_0 v88 v86 v87).bind fun r342 =>
  (F70_0 r342 2).bind fun r345 =>
  (F75_0 v89 0 (aw .i64 ((v91.length : Int) - 1))).bind fun r348 =>
  (F70_0 r348 6).bind fun r351 =>
  (F82_0 v90).bind fun r359 =>
  (F70_0 r359 2).bind fun r362 =>
  (F70_0 (!(decide ((v92.length : Int) ≤ 0))) 10).bind fun r365 =>
  (F70_0 (decide ((v92.length : Int) ≤ 10)) 8).bind fun r368 =>
  (F69_0 ([r339, r345, r351, r362, r365, r368] : List Int)).bind fun r371 =>
  if r371 = 0 then
    (L31l0_0 (v92.length : Int) v91 v92 0).bind fun g424_ => match g424_ with
    | .inl () =>
      some (0, 0)
    | .inr (r426, r427) =>
      some (r426, r427)
  else
    some (0, r371)
-- dispatch.open
noncomputable def F74_0 (v79 : Int) (v80 : Int) (v81 : Int) (v82 : Int) (v83 : Int) (v84 : List DispatchMode) (v85 : List DispatchHour) : Option (Int) :=
  bind2 (F31_0 v79 v80 v81 v82 v83 v84 v85) fun r432 r433 =>
  some r433
-- dispatch.work).isMode
noncomputable def F71_0 (v476 : Int) (v477 : Int) (v478 : Int) (v479 : Int) (v480 : Int) (v481 : Int) (v482 : List DispatchMode) (v483 : List DispatchHour) : Option (Bool) :=
  (F75_0 v481 0 (aw .i64 ((v482.length : Int) - 1))).bind fun r486 =>
  some r486
-- dispatch.openPlan$1
noncomputable def F120_0 (v468 : Int) (v469 : Int) (v470 : Int) (v471 : Int) (v472 : Int) (v473 : Int) (v474 : List DispatchMode) (v475 : List DispatchHour) : Option (Bool) :=
  (F71_0 v469 v470 v471 v472 v473 v468 v474 v475).bind fun r490 =>
  some (!r490)
noncomputable def S130l0_0 (v454 : Int) (v456 : List Int) (v457 : Int) (v458 : Int) (v459 : Int) (v460 : Int) (v461 : Int) (v462 : List DispatchMode) (v463 : List DispatchHour) : Int → Option ((Int) ⊕ ((Unit) ⊕ (Int)))
  | v455 =>
    if v454 ≤ v455 then
      some (.inr (.inl ()))
    else
      bind2 (geti v456 v455) fun j465 x466 =>
      (F120_0 x466 v457 v458 v459 v460 v461 v462 v463).bind fun r494 =>
      if r494 = true then
        some (.inr (.inr (v455)))
      else
        some (.inl (aw .i64 (v455 + 1)))
noncomputable def L130l0_0 (v454 : Int) (v456 : List Int) (v457 : Int) (v458 : Int) (v459 : Int) (v460 : Int) (v461 : Int) (v462 : List DispatchMode) (v463 : List DispatchHour) (s : Int) : Option ((Unit) ⊕ (Int)) := iter (S130l0_0 v454 v456 v457 v458 v459 v460 v461 v462 v463) 1000000 s
-- slices.IndexFunc[[]int,int]
noncomputable def F130_0 (v446 : List Int) (v447 : Int) (v448 : Int) (v449 : Int) (v450 : Int) (v451 : Int) (v452 : List DispatchMode) (v453 : List DispatchHour) : Option (Int) :=
  (L130l0_0 (v446.length : Int) v446 v447 v448 v449 v450 v451 v452 v453 0).bind fun g497_ => match g497_ with
  | .inl () =>
    some (-1)
  | .inr (r499) =>
    some r499
-- slices.ContainsFunc[[]int,int]
noncomputable def F99_0 (v438 : List Int) (v439 : Int) (v440 : Int) (v441 : Int) (v442 : Int) (v443 : Int) (v444 : List DispatchMode) (v445 : List DispatchHour) : Option (Bool) :=
  (F130_0 v438 v439 v440 v441 v442 v443 v444 v445).bind fun r503 =>
  some (decide (0 ≤ r503))
-- dispatch.work).after
noncomputable def F122_0 (v544 : Int) (v545 : Int) (v546 : Int) (v547 : Int) (v548 : Int) (v549 : Int) (v550 : Int) (v551 : Int) (v552 : List DispatchMode) (v553 : List DispatchHour) : Option (Int) :=
  bind2 (geti v553 v550) fun j554 x555 =>
  bind2 (geti v552 v551) fun j557 x558 =>
  some (aw .i64 ((aw .i64 (v549 + x555.fInflow)) + x558.fChange))
-- dispatch.work).isVolume
noncomputable def F123_0 (v564 : Int) (v565 : Int) (v566 : Int) (v567 : Int) (v568 : Int) (v569 : Int) (v570 : List DispatchMode) (v571 : List DispatchHour) : Option (Bool) :=
  (F75_0 v569 v564 v565).bind fun r574 =>
  some r574
noncomputable def S121l0_0 (v526 : Int) (v528 : List DispatchMode) (v529 : List DispatchHour) (v530 : List Int) (v531 : Int) (v532 : Int) (v533 : Int) (v534 : Int) (v535 : Int) : (Int × (List Int)) → Option ((Int × (List Int)) ⊕ (((List Int)) ⊕ ((List Int))))
  | (v527, v536) =>
    if v526 ≤ v527 then
      some (.inr (.inl (v536)))
    else
      bind2 (geti v530 v527) fun j538 x539 =>
      bind2 (geti v536 v527) fun j541 x542 =>
      (F122_0 v531 v532 v533 v534 v535 x542 v527 x539 v528 v529).bind fun r563 =>
      (F123_0 v531 v532 v533 v534 v535 r563 v528 v529).bind fun r578 =>
      if r578 = true then
        room ((v536.length + 1) * 8) (
          some (.inl ((aw .i64 (v527 + 1)), (v536 ++ [r563])))
        )
      else
        some (.inr (.inr (v536)))
noncomputable def L121l0_0 (v526 : Int) (v528 : List DispatchMode) (v529 : List DispatchHour) (v530 : List Int) (v531 : Int) (v532 : Int) (v533 : Int) (v534 : Int) (v535 : Int) (s : Int × (List Int)) : Option (((List Int)) ⊕ ((List Int))) := iter (S121l0_0 v526 v528 v529 v530 v531 v532 v533 v534 v535) 1000000 s
-- dispatch.work).volumes
noncomputable def F121_0 (v518 : Int) (v519 : Int) (v520 : Int) (v521 : Int) (v522 : Int) (v523 : List DispatchMode) (v524 : List DispatchHour) (v525 : List Int) : Option (Bool × (List Int)) :=
  (L121l0_0 (v525.length : Int) v523 v524 v525 v518 v519 v520 v521 v522 (0, ([v520] : List Int))).bind fun g583_ => match g583_ with
  | .inl (r585) =>
    some (true, r585)
  | .inr (r586) =>
    some (false, ([] : List Int))
-- dispatch.openPlan
noncomputable def F68_0 (v71 : Int) (v72 : Int) (v73 : Int) (v74 : Int) (v75 : Int) (v76 : List DispatchMode) (v77 : List DispatchHour) (v78 : List Int) : Option (Int × (List Int)) :=
  (F74_0 v71 v72 v73 v74 v75 v76 v77).bind fun r437 =>
  (F99_0 v78 v71 v72 v73 v74 v75 v76 v77).bind fun r507 =>
  (F70_0 (decide ((v78.length : Int) = (v77.length : Int))) 10).bind fun r510 =>
  (F70_0 (!r507) 6).bind fun r513 =>
  (F69_0 ([r437, r510, r513] : List Int)).bind fun r516 =>
  if r516 = 0 then
    bind2 (F121_0 v71 v72 v73 v74 v75 v76 v77 v78) fun r591 r592 =>
    (F70_0 r591 22).bind fun r595 =>
    some (r595, r592)
  else
    some (r516, ([] : List Int))
noncomputable def S72l0_0 (v640 : Int) (v641 : Int) (v643 : List DispatchMode) (v644 : List DispatchHour) (v645 : Int) (v646 : Int) (v647 : Int) (v648 : Int) (v649 : Int) : (Int × Int) → Option ((Int × Int) ⊕ (Int))
  | (v639, v642) =>
    if (v644.length : Int) ≤ (aw .i64 (v640 + v642)) then
      some (.inr v642)
    else
      (F122_0 v645 v646 v647 v648 v649 v639 (aw .i64 (v640 + v642)) v641 v643 v644).bind fun r653 =>
      (F123_0 v645 v646 v647 v648 v649 r653 v643 v644).bind fun r656 =>
      if r656 = true then
        some (.inl (r653, (aw .i64 (v642 + 1))))
      else
        some (.inr v642)
noncomputable def L72l0_0 (v640 : Int) (v641 : Int) (v643 : List DispatchMode) (v644 : List DispatchHour) (v645 : Int) (v646 : Int) (v647 : Int) (v648 : Int) (v649 : Int) (s : Int × Int) : Option (Int) := iter (S72l0_0 v640 v641 v643 v644 v645 v646 v647 v648 v649) 1000000 s
-- dispatch.work).given
noncomputable def F72_0 (v629 : Int) (v630 : Int) (v631 : Int) (v632 : Int) (v633 : Int) (v634 : Int) (v635 : Int) (v636 : Int) (v637 : List DispatchMode) (v638 : List DispatchHour) : Option (Int) :=
  (L72l0_0 v635 v636 v637 v638 v629 v630 v631 v632 v633 (v634, 0)).bind fun r661 =>
  some r661
noncomputable def S15l0_0 (v612 : Int) (v614 : List DispatchMode) (v615 : List DispatchHour) (v616 : List Int) (v617 : Int) (v618 : Int) (v619 : Int) (v620 : Int) (v621 : Int) (v622 : Int) (v623 : List Int) : (Int × (List Int)) → Option ((Int × (List Int)) ⊕ ((List Int)))
  | (v613, v624) =>
    if v612 ≤ v613 then
      some (.inr v624)
    else
      bind2 (geti v623 v613) fun j626 x627 =>
      (F72_0 v618 v619 v620 v621 v622 x627 v613 v617 v614 v615).bind fun r665 =>
      room ((v624.length + 1) * 8) (
        some (.inl ((aw .i64 (v613 + 1)), (v624 ++ [r665])))
      )
noncomputable def L15l0_0 (v612 : Int) (v614 : List DispatchMode) (v615 : List DispatchHour) (v616 : List Int) (v617 : Int) (v618 : Int) (v619 : Int) (v620 : Int) (v621 : Int) (v622 : Int) (v623 : List Int) (s : Int × (List Int)) : Option ((List Int)) := iter (S15l0_0 v612 v614 v615 v616 v617 v618 v619 v620 v621 v622 v623) 1000000 s
-- dispatch.ReserveOf
noncomputable def F15_0 (v62 : Int) (v63 : Int) (v64 : Int) (v65 : Int) (v66 : Int) (v67 : Int) (v68 : List DispatchMode) (v69 : List DispatchHour) (v70 : List Int) : Option (Int × (List Int)) :=
  bind2 (F68_0 v62 v63 v64 v65 v66 v68 v69 v70) fun r600 r601 =>
  (F71_0 v62 v63 v64 v65 v66 v67 v68 v69).bind fun r604 =>
  (F70_0 r604 6).bind fun r607 =>
  (F69_0 ([r600, r607] : List Int)).bind fun r610 =>
  if r610 = 0 then
    (L15l0_0 (v69.length : Int) v68 v69 v70 v67 v62 v63 v64 v65 v66 r601 (0, ([] : List Int))).bind fun r670 =>
    some (0, r670)
  else
    some (r610, ([] : List Int))
noncomputable def S19l0_0 (v698 : Int) (v700 : List DispatchMode) (v701 : List DispatchHour) (v702 : List Int) (v703 : List Int) : (Int × Int) → Option ((Int × Int) ⊕ (Int))
  | (v697, v699) =>
    if v698 ≤ v699 then
      some (.inr v697)
    else
      bind2 (geti v703 v699) fun j705 x706 =>
      if (aw .i64 ((v703.length : Int) - v699)) ≤ x706 then
        some (.inl (v697, (aw .i64 (v699 + 1))))
      else
        some (.inl ((min v697 x706), (aw .i64 (v699 + 1))))
noncomputable def L19l0_0 (v698 : Int) (v700 : List DispatchMode) (v701 : List DispatchHour) (v702 : List Int) (v703 : List Int) (s : Int × Int) : Option (Int) := iter (S19l0_0 v698 v700 v701 v702 v703) 1000000 s
-- dispatch.PromisedIn
noncomputable def F19_0 (v683 : Int) (v684 : Int) (v685 : Int) (v686 : Int) (v687 : Int) (v688 : Int) (v689 : List DispatchMode) (v690 : List DispatchHour) (v691 : List Int) : Option (Int × Int) :=
  bind2 (F15_0 v683 v684 v685 v686 v687 v688 v689 v690 v691) fun r694 r695 =>
  if r694 = 0 then
    (L19l0_0 (r695.length : Int) v689 v690 v691 r695 (10, 0)).bind fun r712 =>
    some (r712, 0)
  else
    some (0, r694)
-- guidevanebase.Within
noncomputable def F27_0 (v739 : Int) (v740 : Int) (v741 : Int) : Option (Bool) :=
  if v740 ≤ v739 then
    some (decide (v739 ≤ v741))
  else
    some false
noncomputable def S114l0_0 (v773 : ByteArray) : Int → Option ((Int) ⊕ ((Unit) ⊕ (Unit)))
  | v774 =>
    if (v773.size : Int) ≤ v774 then
      some (.inr (.inl ()))
    else
      bind2 (geti (v773.data.toList) v774) fun j776 b777 =>
      if 97 ≤ (b777.toNat : Int) then
        if (b777.toNat : Int) ≤ 122 then
          some (.inl (aw .i64 (v774 + 1)))
        else
        if 65 ≤ (b777.toNat : Int) then
          if (b777.toNat : Int) ≤ 90 then
            some (.inl (aw .i64 (v774 + 1)))
          else
          if v774 = 0 then
            some (.inr (.inr ()))
          else
          if (b777.toNat : Int) = 45 then
            some (.inl (aw .i64 (v774 + 1)))
          else
          if 48 ≤ (b777.toNat : Int) then
            if (b777.toNat : Int) ≤ 57 then
              some (.inl (aw .i64 (v774 + 1)))
            else
              some (.inr (.inr ()))
          else
            some (.inr (.inr ()))
        else
        if v774 = 0 then
          some (.inr (.inr ()))
        else
        if (b777.toNat : Int) = 45 then
          some (.inl (aw .i64 (v774 + 1)))
        else
        if 48 ≤ (b777.toNat : Int) then
          if (b777.toNat : Int) ≤ 57 then
            some (.inl (aw .i64 (v774 + 1)))
          else
            some (.inr (.inr ()))
        else
          some (.inr (.inr ()))
      else
      if 65 ≤ (b777.toNat : Int) then
        if (b777.toNat : Int) ≤ 90 then
          some (.inl (aw .i64 (v774 + 1)))
        else
        if v774 = 0 then
          some (.inr (.inr ()))
        else
        if (b777.toNat : Int) = 45 then
          some (.inl (aw .i64 (v774 + 1)))
        else
        if 48 ≤ (b777.toNat : Int) then
          if (b777.toNat : Int) ≤ 57 then
            some (.inl (aw .i64 (v774 + 1)))
          else
            some (.inr (.inr ()))
        else
          some (.inr (.inr ()))
      else
      if v774 = 0 then
        some (.inr (.inr ()))
      else
      if (b777.toNat : Int) = 45 then
        some (.inl (aw .i64 (v774 + 1)))
      else
      if 48 ≤ (b777.toNat : Int) then
        if (b777.toNat : Int) ≤ 57 then
          some (.inl (aw .i64 (v774 + 1)))
        else
          some (.inr (.inr ()))
      else
        some (.inr (.inr ()))
noncomputable def L114l0_0 (v773 : ByteArray) (s : Int) : Option ((Unit) ⊕ (Unit)) := iter (S114l0_0 v773) 1000000 s
-- guidevanebase.IsName
noncomputable def F114_0 (v770 : ByteArray) : Option (Bool) :=
  if 1 ≤ (v770.size : Int) then
    if (v770.size : Int) ≤ 12 then
      (L114l0_0 v770 0).bind fun g801_ => match g801_ with
      | .inl () =>
        some true
      | .inr () =>
        some false
    else
      some false
  else
    some false
noncomputable def S115l0_0 (v810 : ByteArray) (v812 : List ByteArray) : Int → Option ((Int) ⊕ ((Unit) ⊕ (Unit)))
  | v811 =>
    if (v812.length : Int) ≤ v811 then
      some (.inr (.inl ()))
    else
      bind2 (geti v812 v811) fun j814 x815 =>
      if x815 = v810 then
        some (.inr (.inr ()))
      else
        some (.inl (aw .i64 (v811 + 1)))
noncomputable def L115l0_0 (v810 : ByteArray) (v812 : List ByteArray) (s : Int) : Option ((Unit) ⊕ (Unit)) := iter (S115l0_0 v810 v812) 1000000 s
-- guidevanebase.HasText
noncomputable def F115_0 (v808 : ByteArray) (v809 : List ByteArray) : Option (Bool) :=
  (L115l0_0 v808 v809 0).bind fun g818_ => match g818_ with
  | .inl () =>
    some false
  | .inr () =>
    some true
-- guidevaneref08.modeErr
noncomputable def F85_0 (v765 : ByteArray) (v766 : Int) (v767 : Int) (v768 : Int) (v769 : List ByteArray) : Option (Int) :=
  (F114_0 v765).bind fun r806 =>
  if r806 = true then
    (F115_0 v765 v769).bind fun r823 =>
    if r823 = true then
      some 5
    else
      (F27_0 v766 (-10000) 10000).bind fun r827 =>
      if r827 = true then
        (F27_0 v767 (-10000) 10000).bind fun r831 =>
        if r831 = true then
          (F27_0 v768 0 10000).bind fun r835 =>
          if r835 = true then
            some 0
          else
            some 2
        else
          some 2
      else
        some 2
  else
    some 4
noncomputable def S34l0_0 (v757 : List DispatchMode) (v758 : Int) (v759 : Int) : (Int × (List ByteArray)) → Option ((Int × (List ByteArray)) ⊕ ((Unit) ⊕ (Int × Int)))
  | (v756, v760) =>
    if (v757.length : Int) ≤ v756 then
      some (.inr (.inl ()))
    else
      bind2 (geti v757 v756) fun j762 x763 =>
      (F85_0 x763.fName x763.fChange x763.fEnergy x763.fStart v760).bind fun r840 =>
      if r840 = 0 then
        room ((v760.length + 1) * 16) (
          some (.inl ((aw .i64 (v756 + 1)), (v760 ++ [x763.fName])))
        )
      else
        some (.inr (.inr (v756, r840)))
noncomputable def L34l0_0 (v757 : List DispatchMode) (v758 : Int) (v759 : Int) (s : Int × (List ByteArray)) : Option ((Unit) ⊕ (Int × Int)) := iter (S34l0_0 v757 v758 v759) 1000000 s
-- guidevaneref08.CheckPlant
noncomputable def F34_0 (v736 : Int) (v737 : Int) (v738 : List DispatchMode) : Option (Int × Int) :=
  (F27_0 v736 0 1000000).bind fun r746 =>
  if r746 = true then
    (F27_0 v737 0 1000000).bind fun r750 =>
    if r750 = true then
      if v736 ≤ v737 then
        if 40 ≤ (aw .i64 (v737 - v736)) then
          some (0, 8)
        else
        if (v738.length : Int) = 0 then
          some (0, 10)
        else
        if (v738.length : Int) ≤ 5 then
          (L34l0_0 v738 v736 v737 (0, ([] : List ByteArray))).bind fun g845_ => match g845_ with
          | .inl () =>
            some (0, 0)
          | .inr (r847, r848) =>
            some (r847, r848)
        else
          some (0, 8)
      else
        some (0, 9)
    else
      some (0, 2)
  else
    some (0, 2)
-- guidevaneref08.PlantErr
noncomputable def F50_0 (v733 : Int) (v734 : Int) (v735 : List DispatchMode) : Option (Int) :=
  bind2 (F34_0 v733 v734 v735) fun r853 r854 =>
  some r854
-- guidevaneref08.isPrice
noncomputable def F86_0 (v868 : Int) : Option (Bool) :=
  (F27_0 v868 (-10000) 10000).bind fun r871 =>
  some r871
noncomputable def S35l0_0 (v880 : List DispatchMode) (v881 : List DispatchHour) (v882 : Int) (v883 : Int) (v884 : Int) : Int → Option ((Int) ⊕ ((Unit) ⊕ (Int × Int)))
  | v879 =>
    if (v881.length : Int) ≤ v879 then
      some (.inr (.inl ()))
    else
      bind2 (geti v881 v879) fun j886 x887 =>
      (F86_0 x887.fBuy).bind fun r891 =>
      if r891 = true then
        (F86_0 x887.fSell).bind fun r895 =>
        if r895 = true then
          (F86_0 x887.fInflow).bind fun r899 =>
          if r899 = true then
            if x887.fSell ≤ x887.fBuy then
              some (.inl (aw .i64 (v879 + 1)))
            else
              some (.inr (.inr (v879, 9)))
          else
            some (.inr (.inr (v879, 2)))
        else
          some (.inr (.inr (v879, 2)))
      else
        some (.inr (.inr (v879, 2)))
noncomputable def L35l0_0 (v880 : List DispatchMode) (v881 : List DispatchHour) (v882 : Int) (v883 : Int) (v884 : Int) (s : Int) : Option ((Unit) ⊕ (Int × Int)) := iter (S35l0_0 v880 v881 v882 v883 v884) 1000000 s
-- guidevaneref08.CheckTask
noncomputable def F35_0 (v726 : Int) (v727 : Int) (v728 : Int) (v729 : Int) (v730 : Int) (v731 : List DispatchMode) (v732 : List DispatchHour) : Option (Int × Int) :=
  (F50_0 v726 v727 v731).bind fun r858 =>
  if r858 = 0 then
    (F27_0 v728 v726 v727).bind fun r862 =>
    if r862 = true then
      (F27_0 v729 0 (aw .i64 ((v731.length : Int) - 1))).bind fun r866 =>
      if r866 = true then
        (F86_0 v730).bind fun r875 =>
        if r875 = true then
          if (v732.length : Int) = 0 then
            some (0, 10)
          else
          if (v732.length : Int) ≤ 10 then
            (L35l0_0 v731 v732 v728 v729 v730 0).bind fun g904_ => match g904_ with
            | .inl () =>
              some (0, 0)
            | .inr (r906, r907) =>
              some (r906, r907)
          else
            some (0, 8)
        else
          some (0, 2)
      else
        some (0, 6)
    else
      some (0, 2)
  else
    some (0, r858)
-- guidevaneref08.TaskErr
noncomputable def F20_0 (v719 : Int) (v720 : Int) (v721 : Int) (v722 : Int) (v723 : Int) (v724 : List DispatchMode) (v725 : List DispatchHour) : Option (Int) :=
  bind2 (F35_0 v719 v720 v721 v722 v723 v724 v725) fun r912 r913 =>
  some r913
noncomputable def S36l0_0 (v938 : List DispatchMode) (v939 : List DispatchHour) (v940 : List Int) (v941 : Int) (v942 : Int) (v943 : Int) (v944 : Int) (v945 : Int) : Int → Option ((Int) ⊕ ((Unit) ⊕ (Unit)))
  | v937 =>
    if (v940.length : Int) ≤ v937 then
      some (.inr (.inl ()))
    else
      bind2 (geti v940 v937) fun j947 x948 =>
      (F27_0 x948 0 (aw .i64 ((v938.length : Int) - 1))).bind fun r952 =>
      if r952 = true then
        some (.inl (aw .i64 (v937 + 1)))
      else
        some (.inr (.inr ()))
noncomputable def L36l0_0 (v938 : List DispatchMode) (v939 : List DispatchHour) (v940 : List Int) (v941 : Int) (v942 : Int) (v943 : Int) (v944 : Int) (v945 : Int) (s : Int) : Option ((Unit) ⊕ (Unit)) := iter (S36l0_0 v938 v939 v940 v941 v942 v943 v944 v945) 1000000 s
noncomputable def S37l0_0 (v973 : List DispatchMode) (v974 : List DispatchHour) (v975 : List Int) (v976 : Int) (v977 : Int) (v978 : Int) (v979 : Int) (v980 : Int) : (Int × (List Int)) → Option ((Int × (List Int)) ⊕ ((List Int)))
  | (v972, v981) =>
    if (v975.length : Int) ≤ v972 then
      some (.inr v981)
    else
      bind2 (geti v981 v972) fun j983 x984 =>
      bind2 (geti v974 v972) fun j986 x987 =>
      bind2 (geti v975 v972) fun j989 x990 =>
      bind2 (geti v973 x990) fun j992 x993 =>
      room ((v981.length + 1) * 8) (
        some (.inl ((aw .i64 (v972 + 1)), (v981 ++ [(aw .i64 ((aw .i64 (x984 + x987.fInflow)) + x993.fChange))])))
      )
noncomputable def L37l0_0 (v973 : List DispatchMode) (v974 : List DispatchHour) (v975 : List Int) (v976 : Int) (v977 : Int) (v978 : Int) (v979 : Int) (v980 : Int) (s : Int × (List Int)) : Option ((List Int)) := iter (S37l0_0 v973 v974 v975 v976 v977 v978 v979 v980) 1000000 s
-- guidevaneref08.Volumes
noncomputable def F37_0 (v964 : Int) (v965 : Int) (v966 : Int) (v967 : Int) (v968 : Int) (v969 : List DispatchMode) (v970 : List DispatchHour) (v971 : List Int) : Option ((List Int)) :=
  (L37l0_0 v969 v970 v971 v964 v965 v966 v967 v968 (0, ([v966] : List Int))).bind fun r999 =>
  some r999
noncomputable def S87l0_0 (v1005 : List DispatchMode) (v1006 : List DispatchHour) (v1007 : List Int) (v1008 : Int) (v1009 : Int) (v1010 : List Int) : Int → Option ((Int) ⊕ ((Unit) ⊕ (Unit)))
  | v1004 =>
    if (v1010.length : Int) ≤ v1004 then
      some (.inr (.inl ()))
    else
      bind2 (geti v1010 v1004) fun j1012 x1013 =>
      (F27_0 x1013 v1008 v1009).bind fun r1017 =>
      if r1017 = true then
        some (.inl (aw .i64 (v1004 + 1)))
      else
        some (.inr (.inr ()))
noncomputable def L87l0_0 (v1005 : List DispatchMode) (v1006 : List DispatchHour) (v1007 : List Int) (v1008 : Int) (v1009 : Int) (v1010 : List Int) (s : Int) : Option ((Unit) ⊕ (Unit)) := iter (S87l0_0 v1005 v1006 v1007 v1008 v1009 v1010) 1000000 s
-- guidevaneref08.Possible
noncomputable def F87_0 (v956 : Int) (v957 : Int) (v958 : Int) (v959 : Int) (v960 : Int) (v961 : List DispatchMode) (v962 : List DispatchHour) (v963 : List Int) : Option (Bool) :=
  (F37_0 v956 v957 v958 v959 v960 v961 v962 v963).bind fun r1003 =>
  (L87l0_0 v961 v962 v963 v956 v957 r1003 0).bind fun g1019_ => match g1019_ with
  | .inl () =>
    some true
  | .inr () =>
    some false
-- guidevaneref08.PlanErr
noncomputable def F36_0 (v928 : Int) (v929 : Int) (v930 : Int) (v931 : Int) (v932 : Int) (v933 : List DispatchMode) (v934 : List DispatchHour) (v935 : List Int) : Option (Int) :=
  if (v935.length : Int) = (v934.length : Int) then
    (L36l0_0 v933 v934 v935 v928 v929 v930 v931 v932 0).bind fun g954_ => match g954_ with
    | .inl () =>
      (F87_0 v928 v929 v930 v931 v932 v933 v934 v935).bind fun r1024 =>
      if r1024 = true then
        some 0
      else
        some 22
    | .inr () =>
      some 6
  else
    some 10
-- guidevaneref08.ReserveErr
noncomputable def F21_0 (v919 : Int) (v920 : Int) (v921 : Int) (v922 : Int) (v923 : Int) (v924 : Int) (v925 : List DispatchMode) (v926 : List DispatchHour) (v927 : List Int) : Option (Int) :=
  (F36_0 v919 v920 v921 v922 v923 v925 v926 v927).bind fun r1029 =>
  if r1029 = 0 then
    (F27_0 v924 0 (aw .i64 ((v925.length : Int) - 1))).bind fun r1033 =>
    if r1033 = true then
      some 0
    else
      some 6
  else
    some r1029
noncomputable def S73l0_0 (v1080 : Int) (v1083 : List DispatchMode) (v1084 : List DispatchHour) (v1085 : Int) (v1086 : Int) (v1087 : Int) (v1088 : Int) (v1089 : Int) : (Int × Int × Int) → Option ((Int × Int × Int) ⊕ ((Int) ⊕ (Int × Int)))
  | (v1079, v1081, v1082) =>
    if (v1084.length : Int) ≤ v1082 then
      some (.inr (.inl (v1081)))
    else
      bind2 (geti v1084 v1082) fun j1091 x1092 =>
      bind2 (geti v1083 v1080) fun j1094 x1095 =>
      (F27_0 (aw .i64 ((aw .i64 (v1079 + x1092.fInflow)) + x1095.fChange)) v1085 v1086).bind fun r1099 =>
      if r1099 = true then
        some (.inl ((aw .i64 ((aw .i64 (v1079 + x1092.fInflow)) + x1095.fChange)), (aw .i64 (v1081 + 1)), (aw .i64 (v1082 + 1))))
      else
        some (.inr (.inr (v1081, v1081)))
noncomputable def L73l0_0 (v1080 : Int) (v1083 : List DispatchMode) (v1084 : List DispatchHour) (v1085 : Int) (v1086 : Int) (v1087 : Int) (v1088 : Int) (v1089 : Int) (s : Int × Int × Int) : Option ((Int) ⊕ (Int × Int)) := iter (S73l0_0 v1080 v1083 v1084 v1085 v1086 v1087 v1088 v1089) 1000000 s
-- guidevaneref08.given
noncomputable def F73_0 (v1069 : Int) (v1070 : Int) (v1071 : Int) (v1072 : Int) (v1073 : Int) (v1074 : Int) (v1075 : Int) (v1076 : Int) (v1077 : List DispatchMode) (v1078 : List DispatchHour) : Option (Int) :=
  (L73l0_0 v1076 v1077 v1078 v1069 v1070 v1071 v1072 v1073 (v1075, 0, v1074)).bind fun g1104_ => match g1104_ with
  | .inl (r1106) =>
    some r1106
  | .inr (r1107, r1108) =>
    some r1107
noncomputable def S23l0_0 (v1054 : List DispatchMode) (v1055 : List DispatchHour) (v1056 : List Int) (v1057 : Int) (v1058 : Int) (v1059 : Int) (v1060 : Int) (v1061 : Int) (v1062 : Int) (v1063 : List Int) : (Int × (List Int)) → Option ((Int × (List Int)) ⊕ ((List Int)))
  | (v1053, v1064) =>
    if (v1055.length : Int) ≤ v1053 then
      some (.inr v1064)
    else
      bind2 (geti v1063 v1053) fun j1066 x1067 =>
      (F73_0 v1057 v1058 v1059 v1060 v1061 v1053 x1067 v1062 v1054 v1055).bind fun r1112 =>
      room ((v1064.length + 1) * 8) (
        some (.inl ((aw .i64 (v1053 + 1)), (v1064 ++ [r1112])))
      )
noncomputable def L23l0_0 (v1054 : List DispatchMode) (v1055 : List DispatchHour) (v1056 : List Int) (v1057 : Int) (v1058 : Int) (v1059 : Int) (v1060 : Int) (v1061 : Int) (v1062 : Int) (v1063 : List Int) (s : Int × (List Int)) : Option ((List Int)) := iter (S23l0_0 v1054 v1055 v1056 v1057 v1058 v1059 v1060 v1061 v1062 v1063) 1000000 s
-- guidevaneref08.Reserve
noncomputable def F23_0 (v1041 : Int) (v1042 : Int) (v1043 : Int) (v1044 : Int) (v1045 : Int) (v1046 : Int) (v1047 : List DispatchMode) (v1048 : List DispatchHour) (v1049 : List Int) : Option ((List Int)) :=
  (F37_0 v1041 v1042 v1043 v1044 v1045 v1047 v1048 v1049).bind fun r1052 =>
  (L23l0_0 v1047 v1048 v1049 v1041 v1042 v1043 v1044 v1045 v1046 r1052 (0, ([] : List Int))).bind fun r1117 =>
  some r1117
noncomputable def S22l0_0 (v1126 : List Int) (v1127 : List Int) : Int → Option ((Int) ⊕ ((Unit) ⊕ (Unit)))
  | v1125 =>
    if (v1126.length : Int) ≤ v1125 then
      some (.inr (.inl ()))
    else
      bind2 (geti v1126 v1125) fun j1129 x1130 =>
      bind2 (geti v1127 v1125) fun j1132 x1133 =>
      if x1130 = x1133 then
        some (.inl (aw .i64 (v1125 + 1)))
      else
        some (.inr (.inr ()))
noncomputable def L22l0_0 (v1126 : List Int) (v1127 : List Int) (s : Int) : Option ((Unit) ⊕ (Unit)) := iter (S22l0_0 v1126 v1127) 1000000 s
-- guidevanebase.Ints
noncomputable def F22_0 (v1122 : List Int) (v1123 : List Int) : Option (Bool) :=
  if (v1122.length : Int) = (v1123.length : Int) then
    (L22l0_0 v1122 v1123 0).bind fun g1136_ => match g1136_ with
    | .inl () =>
      some true
    | .inr () =>
      some false
  else
    some false
noncomputable def S24l0_0 (v1158 : List DispatchMode) (v1159 : List DispatchHour) (v1160 : List Int) (v1161 : List Int) : (Int × Int) → Option ((Int × Int) ⊕ (Int))
  | (v1156, v1157) =>
    if (v1161.length : Int) ≤ v1157 then
      some (.inr v1156)
    else
      bind2 (geti v1161 v1157) fun j1163 x1164 =>
      if (aw .i64 ((v1161.length : Int) - v1157)) ≤ x1164 then
        some (.inl (v1156, (aw .i64 (v1157 + 1))))
      else
        some (.inl ((min v1156 x1164), (aw .i64 (v1157 + 1))))
noncomputable def L24l0_0 (v1158 : List DispatchMode) (v1159 : List DispatchHour) (v1160 : List Int) (v1161 : List Int) (s : Int × Int) : Option (Int) := iter (S24l0_0 v1158 v1159 v1160 v1161) 1000000 s
-- guidevaneref08.Promised
noncomputable def F24_0 (v1144 : Int) (v1145 : Int) (v1146 : Int) (v1147 : Int) (v1148 : Int) (v1149 : Int) (v1150 : List DispatchMode) (v1151 : List DispatchHour) (v1152 : List Int) : Option (Int) :=
  (F23_0 v1144 v1145 v1146 v1147 v1148 v1149 v1150 v1151 v1152).bind fun r1155 =>
  (L24l0_0 v1150 v1151 v1152 r1155 (10, 0)).bind fun r1170 =>
  some r1170
-- guidevanelaw08.DispatchReserves
noncomputable def F3_0 (v1 : Int) (v2 : Int) (v3 : Int) (v4 : Int) (v5 : Int) (v6 : Int) (v7 : List DispatchMode) (v8 : List DispatchHour) (v9 : List Int) : Option (Bool) :=
  (F13_0 v1 v2 v7).bind fun r29 =>
  if r29 = true then
    (F14_0 v3 v4 v5 v8).bind fun r38 =>
    if r38 = true then
      if (v9.length : Int) ≤ 12 then
        (F16_0 v1 v2 v7).bind fun _ =>
        (F17_0 v3 v4 v5 v8).bind fun _ =>
        (F18_0 v6 v9).bind fun _ =>
        bind2 (F15_0 v1 v2 v3 v4 v5 v6 v7 v8 v9) fun r675 r676 =>
        bind2 (F19_0 v1 v2 v3 v4 v5 v6 v7 v8 v9) fun r717 r718 =>
        (F20_0 v1 v2 v3 v4 v5 v7 v8).bind fun r917 =>
        if r917 = 0 then
          (F21_0 v1 v2 v3 v4 v5 v6 v7 v8 v9).bind fun r1038 =>
          if r1038 = 0 then
            if r675 = 0 then
              (F23_0 v1 v2 v3 v4 v5 v6 v7 v8 v9).bind fun r1121 =>
              (F22_0 r676 r1121).bind fun r1141 =>
              if r1141 = true then
                if r718 = 0 then
                  (F24_0 v1 v2 v3 v4 v5 v6 v7 v8 v9).bind fun r1174 =>
                  some (decide (r717 = r1174))
                else
                  some false
              else
                some false
            else
              some false
          else
          if r675 = r1038 then
            if r718 = r1038 then
              if (r676.length : Int) = 0 then
                some (decide (r717 = 0))
              else
                some false
            else
              some false
          else
            some false
        else
        if r675 = r917 then
          if r718 = r917 then
            if (r676.length : Int) = 0 then
              some (decide (r717 = 0))
            else
              some false
          else
            some false
        else
          some false
      else
        some true
    else
      some true
  else
    some true
-- dispatch.VolumesOf
end Go.AI
