/-
  What the functions compute.
-/
import Derived.Test.YtcghmpalmedkiaaKWnTy
set_option linter.unusedVariables false
set_option linter.unusedSimpArgs false
set_option maxRecDepth 100000
set_option maxHeartbeats 4000000
namespace Go.AI
-- guidevanelaw08.some
noncomputable def F6_0 (v6 : List Int) : Option (Bool) :=
  if (v6.length : Int) ≤ 80 then
    some true
  else
  if (v6.length : Int) ≤ 300 then
    some false
  else
    some (decide ((v6.length : Int) ≤ 302))
-- guidevanebase.CopyInts
noncomputable def F8_0 (v18 : List Int) : Option (Unit) :=
  room (v18.length * 8) (
    some ()
  )
-- dispatch.within
noncomputable def F27_0 (v28 : Int) (v29 : Int) (v30 : Int) : Option (Bool) :=
  if v29 ≤ v28 then
    some (decide (v28 ≤ v30))
  else
    some false
-- dispatch.isSized
noncomputable def F47_0 (v26 : Int) (v27 : Int) : Option (Bool) :=
  (F27_0 v26 (aw .i64 (0 - v27)) v27).bind fun r35 =>
  some r35
-- dispatch.isPower
noncomputable def F26_0 (v25 : Int) : Option (Bool) :=
  (F47_0 v25 1000000).bind fun r39 =>
  some r39
-- dispatch.unless
noncomputable def F25_0 (v48 : Bool) (v49 : Int) : Option (Int) :=
  if v48 = true then
    some 0
  else
    some v49
-- dispatch.powersErr$1
noncomputable def F49_0 (v65 : Int) : Option (Bool) :=
  (F26_0 v65).bind fun r68 =>
  some (!r68)
noncomputable def S62l0_0 (v58 : Int) (v60 : List Int) : Int → Option ((Int) ⊕ ((Unit) ⊕ (Int)))
  | v59 =>
    if v58 ≤ v59 then
      some (.inr (.inl ()))
    else
      bind2 (geti v60 v59) fun j62 x63 =>
      (F49_0 x63).bind fun r72 =>
      if r72 = true then
        some (.inr (.inr (v59)))
      else
        some (.inl (aw .i64 (v59 + 1)))
noncomputable def L62l0_0 (v58 : Int) (v60 : List Int) (s : Int) : Option ((Unit) ⊕ (Int)) := iter (S62l0_0 v58 v60) 1000000 s
-- slices.IndexFunc[[]int,int]
noncomputable def F62_0 (v57 : List Int) : Option (Int) :=
  (L62l0_0 (v57.length : Int) v57 0).bind fun g75_ => match g75_ with
  | .inl () =>
    some (-1)
  | .inr (r77) =>
    some r77
-- slices.ContainsFunc[[]int,int]
noncomputable def F48_0 (v56 : List Int) : Option (Bool) :=
  (F62_0 v56).bind fun r81 =>
  some (decide (0 ≤ r81))
noncomputable def S24l0_0 (v93 : Int) (v95 : List Int) : Int → Option ((Int) ⊕ ((Unit) ⊕ (Int)))
  | v94 =>
    if v93 ≤ v94 then
      some (.inr (.inl ()))
    else
      bind2 (geti v95 v94) fun j97 x98 =>
      if x98 = 0 then
        some (.inl (aw .i64 (v94 + 1)))
      else
        some (.inr (.inr (x98)))
noncomputable def L24l0_0 (v93 : Int) (v95 : List Int) (s : Int) : Option ((Unit) ⊕ (Int)) := iter (S24l0_0 v93 v95) 1000000 s
-- dispatch.first
noncomputable def F24_0 (v92 : List Int) : Option (Int) :=
  (L24l0_0 (v92.length : Int) v92 0).bind fun g102_ => match g102_ with
  | .inl () =>
    some 0
  | .inr (r104) =>
    some r104
-- dispatch.powersErr
noncomputable def F28_0 (v55 : List Int) : Option (Int) :=
  (F48_0 v55).bind fun r85 =>
  (F25_0 (decide ((v55.length : Int) ≤ 300)) 8).bind fun r88 =>
  (F25_0 (!r85) 2).bind fun r91 =>
  (F24_0 ([r88, r91] : List Int)).bind fun r108 =>
  some r108
noncomputable def S7l0_0 (v118 : Int) (v119 : Int) (v121 : List Int) : (Int × Int × (List Int)) → Option ((Int × Int × (List Int)) ⊕ ((List Int)))
  | (v117, v120, v122) =>
    if v119 ≤ v120 then
      some (.inr v122)
    else
      bind2 (geti v121 v120) fun j124 x125 =>
      room ((v122.length + 1) * 8) (
        some (.inl ((min (max x125 (aw .i64 (v117 - v118))) (aw .i64 (v117 + v118))), (aw .i64 (v120 + 1)), (v122 ++ [(min (max x125 (aw .i64 (v117 - v118))) (aw .i64 (v117 + v118)))])))
      )
noncomputable def L7l0_0 (v118 : Int) (v119 : Int) (v121 : List Int) (s : Int × Int × (List Int)) : Option ((List Int)) := iter (S7l0_0 v118 v119 v121) 1000000 s
-- dispatch.Followed
noncomputable def F7_0 (v22 : Int) (v23 : Int) (v24 : List Int) : Option (Int × (List Int)) :=
  (F26_0 v22).bind fun r43 =>
  if r43 = true then
    (F27_0 v23 0 1000000).bind fun r47 =>
    (F25_0 r47 2).bind fun r54 =>
    (F28_0 v24).bind fun r112 =>
    (F24_0 ([r54, r112] : List Int)).bind fun r115 =>
    if r115 = 0 then
      (L7l0_0 v23 (v24.length : Int) v24 (v22, 0, ([] : List Int))).bind fun r131 =>
      some (0, r131)
    else
      some (r115, ([] : List Int))
  else
    (F25_0 false 2).bind fun r134 =>
    (F28_0 v24).bind fun r137 =>
    (F24_0 ([r134, r137] : List Int)).bind fun r140 =>
    if r140 = 0 then
      (L7l0_0 v23 (v24.length : Int) v24 (v22, 0, ([] : List Int))).bind fun r144 =>
      some (0, r144)
    else
      some (r140, ([] : List Int))
-- dispatch.size
noncomputable def F29_0 (v189 : Int) : Option (Int) :=
  some (max v189 (aw .i64 (0 - v189)))
noncomputable def S9l0_0 (v249 : Int) (v251 : List Int) (v252 : List Int) : (Int × Int × Int × Int) → Option ((Int × Int × Int × Int) ⊕ (Int × Int × Int))
  | (v250, v256, v257, v258) =>
    if v249 ≤ v250 then
      some (.inr (v256, v257, v258))
    else
      bind2 (geti v251 v250) fun j260 x261 =>
      bind2 (geti v252 v250) fun j263 x264 =>
      if x261 ≤ 0 then
        if 0 ≤ x261 then
          (F29_0 x261).bind fun r270 =>
          (F29_0 x264).bind fun r273 =>
          some (.inl ((aw .i64 (v250 + 1)), (aw .i64 (v256 + 0)), (aw .i64 (v257 + (aw .i64 (r270 - 0)))), (aw .i64 (v258 + (aw .i64 (r273 - 0))))))
        else
        if 0 ≤ x264 then
          (F29_0 x261).bind fun r277 =>
          (F29_0 x264).bind fun r280 =>
          some (.inl ((aw .i64 (v250 + 1)), (aw .i64 (v256 + 0)), (aw .i64 (v257 + (aw .i64 (r277 - 0)))), (aw .i64 (v258 + (aw .i64 (r280 - 0))))))
        else
          (F29_0 x261).bind fun r283 =>
          (F29_0 x264).bind fun r286 =>
          some (.inl ((aw .i64 (v250 + 1)), (aw .i64 (v256 + (min r283 r286))), (aw .i64 (v257 + (aw .i64 (r283 - (min r283 r286))))), (aw .i64 (v258 + (aw .i64 (r286 - (min r283 r286)))))))
      else
      if x264 ≤ 0 then
        if 0 ≤ x261 then
          (F29_0 x261).bind fun r295 =>
          (F29_0 x264).bind fun r298 =>
          some (.inl ((aw .i64 (v250 + 1)), (aw .i64 (v256 + 0)), (aw .i64 (v257 + (aw .i64 (r295 - 0)))), (aw .i64 (v258 + (aw .i64 (r298 - 0))))))
        else
        if 0 ≤ x264 then
          (F29_0 x261).bind fun r302 =>
          (F29_0 x264).bind fun r305 =>
          some (.inl ((aw .i64 (v250 + 1)), (aw .i64 (v256 + 0)), (aw .i64 (v257 + (aw .i64 (r302 - 0)))), (aw .i64 (v258 + (aw .i64 (r305 - 0))))))
        else
          (F29_0 x261).bind fun r308 =>
          (F29_0 x264).bind fun r311 =>
          some (.inl ((aw .i64 (v250 + 1)), (aw .i64 (v256 + (min r308 r311))), (aw .i64 (v257 + (aw .i64 (r308 - (min r308 r311))))), (aw .i64 (v258 + (aw .i64 (r311 - (min r308 r311)))))))
      else
        (F29_0 x261).bind fun r318 =>
        (F29_0 x264).bind fun r321 =>
        some (.inl ((aw .i64 (v250 + 1)), (aw .i64 (v256 + (min r318 r321))), (aw .i64 (v257 + (aw .i64 (r318 - (min r318 r321))))), (aw .i64 (v258 + (aw .i64 (r321 - (min r318 r321)))))))
noncomputable def L9l0_0 (v249 : Int) (v251 : List Int) (v252 : List Int) (s : Int × Int × Int × Int) : Option (Int × Int × Int) := iter (S9l0_0 v249 v251 v252) 1000000 s
-- dispatch.SettledOf
noncomputable def F9_0 (v155 : List Int) (v156 : List Int) : Option (Int × Int × Int × Int) :=
  (F28_0 v155).bind fun r159 =>
  (F28_0 v156).bind fun r162 =>
  (F25_0 (decide ((v155.length : Int) = (v156.length : Int))) 10).bind fun r165 =>
  (F24_0 ([r159, r162, r165] : List Int)).bind fun r168 =>
  if r168 = 0 then
    bind3 (L9l0_0 (v155.length : Int) v155 v156 (0, 0, 0, 0)) fun r331 r332 r333 =>
    some (r331, r332, r333, 0)
  else
    some (0, 0, 0, r168)
-- guidevanebase.Within
noncomputable def F16_0 (v346 : Int) (v347 : Int) (v348 : Int) : Option (Bool) :=
  if v347 ≤ v346 then
    some (decide (v346 ≤ v348))
  else
    some false
-- guidevaneref08.RampErr
noncomputable def F10_0 (v344 : Int) (v345 : Int) : Option (Int) :=
  (F16_0 v344 (-1000000) 1000000).bind fun r353 =>
  if r353 = true then
    (F16_0 v345 0 1000000).bind fun r357 =>
    if r357 = true then
      some 0
    else
      some 2
  else
    some 2
noncomputable def S11l0_0 (v366 : List Int) : Int → Option ((Int) ⊕ ((Unit) ⊕ (Unit)))
  | v365 =>
    if (v366.length : Int) ≤ v365 then
      some (.inr (.inl ()))
    else
      bind2 (geti v366 v365) fun j368 x369 =>
      (F16_0 x369 (-1000000) 1000000).bind fun r373 =>
      if r373 = true then
        some (.inl (aw .i64 (v365 + 1)))
      else
        some (.inr (.inr ()))
noncomputable def L11l0_0 (v366 : List Int) (s : Int) : Option ((Unit) ⊕ (Unit)) := iter (S11l0_0 v366) 1000000 s
-- guidevaneref08.PowersErr
noncomputable def F11_0 (v363 : List Int) : Option (Int) :=
  if (v363.length : Int) ≤ 300 then
    (L11l0_0 v363 0).bind fun g375_ => match g375_ with
    | .inl () =>
      some 0
    | .inr () =>
      some 2
  else
    some 8
noncomputable def S13l0_0 (v387 : Int) (v390 : List Int) : (Int × Int × (List Int)) → Option ((Int × Int × (List Int)) ⊕ ((List Int)))
  | (v388, v389, v391) =>
    if (v390.length : Int) ≤ v389 then
      some (.inr v391)
    else
      bind2 (geti v390 v389) fun j393 x394 =>
      room ((v391.length + 1) * 8) (
        some (.inl ((max (aw .i64 (v388 - v387)) (min (aw .i64 (v388 + v387)) x394)), (aw .i64 (v389 + 1)), (v391 ++ [(max (aw .i64 (v388 - v387)) (min (aw .i64 (v388 + v387)) x394))])))
      )
noncomputable def L13l0_0 (v387 : Int) (v390 : List Int) (s : Int × Int × (List Int)) : Option ((List Int)) := iter (S13l0_0 v387 v390) 1000000 s
-- guidevaneref08.Followed
noncomputable def F13_0 (v384 : Int) (v385 : Int) (v386 : List Int) : Option ((List Int)) :=
  (L13l0_0 v385 v386 (v384, 0, ([] : List Int))).bind fun r400 =>
  some r400
noncomputable def S12l0_0 (v409 : List Int) (v410 : List Int) : Int → Option ((Int) ⊕ ((Unit) ⊕ (Unit)))
  | v408 =>
    if (v409.length : Int) ≤ v408 then
      some (.inr (.inl ()))
    else
      bind2 (geti v409 v408) fun j412 x413 =>
      bind2 (geti v410 v408) fun j415 x416 =>
      if x413 = x416 then
        some (.inl (aw .i64 (v408 + 1)))
      else
        some (.inr (.inr ()))
noncomputable def L12l0_0 (v409 : List Int) (v410 : List Int) (s : Int) : Option ((Unit) ⊕ (Unit)) := iter (S12l0_0 v409 v410) 1000000 s
-- guidevanebase.Ints
noncomputable def F12_0 (v405 : List Int) (v406 : List Int) : Option (Bool) :=
  if (v405.length : Int) = (v406.length : Int) then
    (L12l0_0 v405 v406 0).bind fun g419_ => match g419_ with
    | .inl () =>
      some true
    | .inr () =>
      some false
  else
    some false
-- guidevanebase.Size
noncomputable def F15_0 (v452 : Int) : Option (Int) :=
  some (max v452 (aw .i64 (0 - v452)))
noncomputable def S14l0_0 (v513 : List Int) (v514 : List Int) : (Int × Int × Int × Int) → Option ((Int × Int × Int × Int) ⊕ (Int × Int × Int))
  | (v512, v518, v519, v520) =>
    if (v513.length : Int) ≤ v512 then
      some (.inr (v518, v519, v520))
    else
      bind2 (geti v513 v512) fun j522 x523 =>
      bind2 (geti v514 v512) fun j525 x526 =>
      if x523 ≤ 0 then
        if 0 ≤ x523 then
          (F15_0 x523).bind fun r532 =>
          (F15_0 x526).bind fun r535 =>
          some (.inl ((aw .i64 (v512 + 1)), (aw .i64 (v518 + 0)), (aw .i64 ((aw .i64 (v519 + r532)) - 0)), (aw .i64 ((aw .i64 (v520 + r535)) - 0))))
        else
        if 0 ≤ x526 then
          (F15_0 x523).bind fun r539 =>
          (F15_0 x526).bind fun r542 =>
          some (.inl ((aw .i64 (v512 + 1)), (aw .i64 (v518 + 0)), (aw .i64 ((aw .i64 (v519 + r539)) - 0)), (aw .i64 ((aw .i64 (v520 + r542)) - 0))))
        else
          (F15_0 x523).bind fun r545 =>
          (F15_0 x526).bind fun r548 =>
          some (.inl ((aw .i64 (v512 + 1)), (aw .i64 (v518 + (min r545 r548))), (aw .i64 ((aw .i64 (v519 + r545)) - (min r545 r548))), (aw .i64 ((aw .i64 (v520 + r548)) - (min r545 r548)))))
      else
      if x526 ≤ 0 then
        if 0 ≤ x523 then
          (F15_0 x523).bind fun r557 =>
          (F15_0 x526).bind fun r560 =>
          some (.inl ((aw .i64 (v512 + 1)), (aw .i64 (v518 + 0)), (aw .i64 ((aw .i64 (v519 + r557)) - 0)), (aw .i64 ((aw .i64 (v520 + r560)) - 0))))
        else
        if 0 ≤ x526 then
          (F15_0 x523).bind fun r564 =>
          (F15_0 x526).bind fun r567 =>
          some (.inl ((aw .i64 (v512 + 1)), (aw .i64 (v518 + 0)), (aw .i64 ((aw .i64 (v519 + r564)) - 0)), (aw .i64 ((aw .i64 (v520 + r567)) - 0))))
        else
          (F15_0 x523).bind fun r570 =>
          (F15_0 x526).bind fun r573 =>
          some (.inl ((aw .i64 (v512 + 1)), (aw .i64 (v518 + (min r570 r573))), (aw .i64 ((aw .i64 (v519 + r570)) - (min r570 r573))), (aw .i64 ((aw .i64 (v520 + r573)) - (min r570 r573)))))
      else
        (F15_0 x523).bind fun r580 =>
        (F15_0 x526).bind fun r583 =>
        some (.inl ((aw .i64 (v512 + 1)), (aw .i64 (v518 + (min r580 r583))), (aw .i64 ((aw .i64 (v519 + r580)) - (min r580 r583))), (aw .i64 ((aw .i64 (v520 + r583)) - (min r580 r583)))))
noncomputable def L14l0_0 (v513 : List Int) (v514 : List Int) (s : Int × Int × Int × Int) : Option (Int × Int × Int) := iter (S14l0_0 v513 v514) 1000000 s
-- guidevaneref08.Settled
noncomputable def F14_0 (v432 : List Int) (v433 : List Int) : Option (Int × Int × Int) :=
  bind3 (L14l0_0 v432 v433 (0, 0, 0, 0)) fun r593 r594 r595 =>
  some (r593, r594, r595)
-- guidevanelaw08.DispatchActivations
noncomputable def F3_0 (v1 : Int) (v2 : Int) (v3 : List Int) (v4 : List Int) : Option (Bool) :=
  (F6_0 v3).bind fun r12 =>
  if r12 = true then
    (F6_0 v4).bind fun r16 =>
    if r16 = true then
      (F8_0 v3).bind fun _ =>
      bind2 (F7_0 v1 v2 v3) fun r149 r150 =>
      (F8_0 v4).bind fun _ =>
      bind4 (F9_0 v3 v4) fun r340 r341 r342 r343 =>
      (F10_0 v1 v2).bind fun r362 =>
      (F11_0 v3).bind fun r380 =>
      if r362 = 0 then
        if r380 = 0 then
          if r149 = 0 then
            (F13_0 v1 v2 v3).bind fun r404 =>
            (F12_0 r150 r404).bind fun r424 =>
            if r424 = true then
              (F11_0 v4).bind fun r428 =>
              if r428 = 0 then
                if (v3.length : Int) = (v4.length : Int) then
                  if r343 = 0 then
                    bind3 (F14_0 v3 v4) fun r601 r602 r603 =>
                    some ((decide (r340 = r601)) && ((decide (r341 = r602)) && (decide (r342 = r603))))
                  else
                    some false
                else
                  if r343 = 10 then
                    some ((decide (r340 = 0)) && ((decide (r341 = 0)) && (decide (r342 = 0))))
                  else
                    some false
              else
              if r343 = r428 then
                some ((decide (r340 = 0)) && ((decide (r341 = 0)) && (decide (r342 = 0))))
              else
                some false
            else
              some false
          else
            some false
        else
        if r149 = r380 then
          if (r150.length : Int) = 0 then
            if r343 = r380 then
              some ((decide (r340 = 0)) && ((decide (r341 = 0)) && (decide (r342 = 0))))
            else
              some false
          else
            some false
        else
          some false
      else
      if r149 = r362 then
        if (r150.length : Int) = 0 then
          if r380 = 0 then
            (F11_0 v4).bind fun r615 =>
            if r615 = 0 then
              if (v3.length : Int) = (v4.length : Int) then
                if r343 = 0 then
                  bind3 (F14_0 v3 v4) fun r621 r622 r623 =>
                  some ((decide (r340 = r621)) && ((decide (r341 = r622)) && (decide (r342 = r623))))
                else
                  some false
              else
                if r343 = 10 then
                  some ((decide (r340 = 0)) && ((decide (r341 = 0)) && (decide (r342 = 0))))
                else
                  some false
            else
            if r343 = r615 then
              some ((decide (r340 = 0)) && ((decide (r341 = 0)) && (decide (r342 = 0))))
            else
              some false
          else
          if r343 = r380 then
            some ((decide (r340 = 0)) && ((decide (r341 = 0)) && (decide (r342 = 0))))
          else
            some false
        else
          some false
      else
        some false
    else
      some true
  else
    some true
-- guidevanebase.CopyInts
end Go.AI
