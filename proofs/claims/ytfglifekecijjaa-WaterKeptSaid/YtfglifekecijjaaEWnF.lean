/-
  What the functions compute.
-/
import Derived.Test.YtfglifekecijjaaEWnTy
set_option linter.unusedVariables false
set_option linter.unusedSimpArgs false
set_option maxRecDepth 100000
set_option maxHeartbeats 4000000
namespace Go.AI
noncomputable def S15l0_0 (v11 : List WaterNode) (v12 : List WaterConduit) : Int → Option ((Int) ⊕ ((Unit) ⊕ (Unit)))
  | v10 =>
    if (v11.length : Int) ≤ v10 then
      some (.inr (.inl ()))
    else
      bind2 (geti v11 v10) fun j14 x15 =>
      if (x15.fName.size : Int) ≤ 20 then
        some (.inl (aw .i64 (v10 + 1)))
      else
        some (.inr (.inr ()))
noncomputable def L15l0_0 (v11 : List WaterNode) (v12 : List WaterConduit) (s : Int) : Option ((Unit) ⊕ (Unit)) := iter (S15l0_0 v11 v12) 1000000 s
noncomputable def S15l1_0 (v21 : List WaterNode) (v22 : List WaterConduit) : Int → Option ((Int) ⊕ ((Unit) ⊕ (Unit)))
  | v20 =>
    if (v22.length : Int) ≤ v20 then
      some (.inr (.inl ()))
    else
      bind2 (geti v22 v20) fun j24 x25 =>
      if (x25.fName.size : Int) ≤ 20 then
        some (.inl (aw .i64 (v20 + 1)))
      else
        some (.inr (.inr ()))
noncomputable def L15l1_0 (v21 : List WaterNode) (v22 : List WaterConduit) (s : Int) : Option ((Unit) ⊕ (Unit)) := iter (S15l1_0 v21 v22) 1000000 s
-- guidevanelaw02.Few
noncomputable def F15_0 (v6 : List WaterNode) (v7 : List WaterConduit) : Option (Bool) :=
  if (v6.length : Int) ≤ 12 then
    if (v7.length : Int) ≤ 16 then
      (L15l0_0 v6 v7 0).bind fun g18_ => match g18_ with
      | .inl () =>
        (L15l1_0 v6 v7 0).bind fun g28_ => match g28_ with
        | .inl () =>
          some true
        | .inr () =>
          some false
      | .inr () =>
        some false
    else
      some false
  else
    some false
-- guidevaneref02.Copy
noncomputable def F17_0 (v35 : List WaterNode) (v36 : List WaterConduit) : Option (Unit) :=
  room (v35.length * 40) (
    room (v36.length * 48) (
      some ()
    )
  )
-- water.unless
noncomputable def F72_0 (v45 : Bool) (v46 : Int) : Option (Int) :=
  if v45 = true then
    some 0
  else
    some v46
noncomputable def S71l0_0 (v56 : Int) (v58 : List Int) : Int → Option ((Int) ⊕ ((Unit) ⊕ (Int)))
  | v57 =>
    if v56 ≤ v57 then
      some (.inr (.inl ()))
    else
      bind2 (geti v58 v57) fun j60 x61 =>
      if x61 = 0 then
        some (.inl (aw .i64 (v57 + 1)))
      else
        some (.inr (.inr (x61)))
noncomputable def L71l0_0 (v56 : Int) (v58 : List Int) (s : Int) : Option ((Unit) ⊕ (Int)) := iter (S71l0_0 v56 v58) 1000000 s
-- water.first
noncomputable def F71_0 (v55 : List Int) : Option (Int) :=
  (L71l0_0 (v55.length : Int) v55 0).bind fun g65_ => match g65_ with
  | .inl () =>
    some 0
  | .inr (r67) =>
    some r67
-- water.within
noncomputable def F74_0 (v84 : Int) (v85 : Int) (v86 : Int) : Option (Bool) :=
  if v85 ≤ v84 then
    some (decide (v84 ≤ v86))
  else
    some false
-- water.isSized
noncomputable def F73_0 (v82 : Int) (v83 : Int) : Option (Bool) :=
  (F74_0 v82 (aw .i64 (0 - v83)) v83).bind fun r91 =>
  some r91
noncomputable def S75l0_0 (v102 : ByteArray) (v103 : Int) (v105 : List UInt8) : Int → Option ((Int) ⊕ ((Unit) ⊕ (Unit)))
  | v104 =>
    if v103 ≤ v104 then
      some (.inr (.inl ()))
    else
      bind2 (geti v105 v104) fun j107 x108 =>
      (F74_0 (aw .i64 (x108.toNat : Int)) 97 122).bind fun r112 =>
      if r112 = true then
        some (.inl (aw .i64 (v104 + 1)))
      else
        (F74_0 (aw .i64 (x108.toNat : Int)) 65 90).bind fun r116 =>
        if r116 = true then
          some (.inl (aw .i64 (v104 + 1)))
        else
        if v104 = 0 then
          some (.inr (.inr ()))
        else
        if (x108.toNat : Int) = 45 then
          some (.inl (aw .i64 (v104 + 1)))
        else
          (F74_0 (aw .i64 (x108.toNat : Int)) 48 57).bind fun r122 =>
          if r122 = true then
            some (.inl (aw .i64 (v104 + 1)))
          else
            some (.inr (.inr ()))
noncomputable def L75l0_0 (v102 : ByteArray) (v103 : Int) (v105 : List UInt8) (s : Int) : Option ((Unit) ⊕ (Unit)) := iter (S75l0_0 v102 v103 v105) 1000000 s
-- water.isName
noncomputable def F75_0 (v100 : ByteArray) : Option (Bool) :=
  roomS (v100.size) (
    (L75l0_0 v100 (v100.size : Int) (v100.data.toList) 0).bind fun g124_ => match g124_ with
    | .inl () =>
      (F74_0 (v100.size : Int) 1 12).bind fun r128 =>
      some r128
    | .inr () =>
      some false
  )
noncomputable def S16l0_0 (v73 : Int) (v75 : List WaterNode) (v76 : List WaterConduit) : (Int × (List (ByteArray × Bool))) → Option ((Int × (List (ByteArray × Bool))) ⊕ ((Unit) ⊕ (Int × Int)))
  | (v74, v77) =>
    if v73 ≤ v74 then
      some (.inr (.inl ()))
    else
      bind2 (geti v75 v74) fun j79 x80 =>
      (F73_0 x80.fDraw 10000).bind fun r95 =>
      if x80.fLake = true then
        (F74_0 x80.fHead 0 1000000).bind fun r99 =>
        (F75_0 x80.fName).bind fun r132 =>
        (F72_0 r132 4).bind fun r135 =>
        (F72_0 (!(getM x80.fName false v77)) 5).bind fun r138 =>
        (F72_0 r99 2).bind fun r141 =>
        (F72_0 (decide (x80.fDraw = 0)) 3).bind fun r144 =>
        (F71_0 ([r135, r138, r141, r144] : List Int)).bind fun r147 =>
        if r147 = 0 then
          some (.inl ((aw .i64 (v74 + 1)), (putM x80.fName true v77)))
        else
          some (.inr (.inr (v74, r147)))
      else
        (F75_0 x80.fName).bind fun r151 =>
        (F72_0 r151 4).bind fun r154 =>
        (F72_0 (!(getM x80.fName false v77)) 5).bind fun r157 =>
        (F72_0 r95 2).bind fun r160 =>
        (F72_0 (decide (x80.fHead = 0)) 3).bind fun r163 =>
        (F71_0 ([r154, r157, r160, r163] : List Int)).bind fun r166 =>
        if r166 = 0 then
          some (.inl ((aw .i64 (v74 + 1)), (putM x80.fName true v77)))
        else
          some (.inr (.inr (v74, r166)))
noncomputable def L16l0_0 (v73 : Int) (v75 : List WaterNode) (v76 : List WaterConduit) (s : Int × (List (ByteArray × Bool))) : Option ((Unit) ⊕ (Int × Int)) := iter (S16l0_0 v73 v75 v76) 1000000 s
-- water.CheckNet$1
noncomputable def F76_0 (v190 : Int) (v191 : List WaterNode) (v192 : List WaterConduit) : Option (Bool) :=
  (F74_0 v190 0 (aw .i64 ((v191.length : Int) - 1))).bind fun r195 =>
  some r195
noncomputable def S16l1_0 (v172 : Int) (v174 : List WaterNode) (v175 : List WaterConduit) : (Int × (List (ByteArray × Bool))) → Option ((Int × (List (ByteArray × Bool))) ⊕ ((Unit) ⊕ (Int × Int)))
  | (v173, v176) =>
    if v172 ≤ v173 then
      some (.inr (.inl ()))
    else
      bind2 (geti v175 v173) fun j178 x179 =>
      (F75_0 x179.fName).bind fun r183 =>
      (F72_0 r183 4).bind fun r186 =>
      (F72_0 (!(getM x179.fName false v176)) 5).bind fun r189 =>
      (F76_0 x179.fFrom v174 v175).bind fun r199 =>
      if r199 = true then
        (F76_0 x179.fTo v174 v175).bind fun r203 =>
        (F72_0 r203 6).bind fun r206 =>
        (F72_0 (!(decide (x179.fFrom = x179.fTo))) 13).bind fun r209 =>
        (F74_0 x179.fResist 0 1000).bind fun r212 =>
        (F72_0 r212 2).bind fun r215 =>
        if x179.fValve = true then
          (F72_0 true 3).bind fun r219 =>
          (F71_0 ([r186, r189, r206, r209, r215, r219] : List Int)).bind fun r222 =>
          if r222 = 0 then
            some (.inl ((aw .i64 (v173 + 1)), (putM x179.fName true v176)))
          else
            some (.inr (.inr (v173, r222)))
        else
          (F72_0 x179.fOpen 3).bind fun r226 =>
          (F71_0 ([r186, r189, r206, r209, r215, r226] : List Int)).bind fun r229 =>
          if r229 = 0 then
            some (.inl ((aw .i64 (v173 + 1)), (putM x179.fName true v176)))
          else
            some (.inr (.inr (v173, r229)))
      else
        (F72_0 false 6).bind fun r233 =>
        (F72_0 (!(decide (x179.fFrom = x179.fTo))) 13).bind fun r236 =>
        (F74_0 x179.fResist 0 1000).bind fun r239 =>
        (F72_0 r239 2).bind fun r242 =>
        if x179.fValve = true then
          (F72_0 true 3).bind fun r246 =>
          (F71_0 ([r186, r189, r233, r236, r242, r246] : List Int)).bind fun r249 =>
          if r249 = 0 then
            some (.inl ((aw .i64 (v173 + 1)), (putM x179.fName true v176)))
          else
            some (.inr (.inr (v173, r249)))
        else
          (F72_0 x179.fOpen 3).bind fun r253 =>
          (F71_0 ([r186, r189, r233, r236, r242, r253] : List Int)).bind fun r256 =>
          if r256 = 0 then
            some (.inl ((aw .i64 (v173 + 1)), (putM x179.fName true v176)))
          else
            some (.inr (.inr (v173, r256)))
noncomputable def L16l1_0 (v172 : Int) (v174 : List WaterNode) (v175 : List WaterConduit) (s : Int × (List (ByteArray × Bool))) : Option ((Unit) ⊕ (Int × Int)) := iter (S16l1_0 v172 v174 v175) 1000000 s
-- water.CheckNet
noncomputable def F16_0 (v41 : List WaterNode) (v42 : List WaterConduit) : Option (Int × Int) :=
  if (v41.length : Int) ≤ 0 then
    if (v41.length : Int) ≤ 10 then
      (F72_0 false 10).bind fun r51 =>
      (F72_0 (decide ((v42.length : Int) ≤ 14)) 8).bind fun r54 =>
      (F71_0 ([r51, r54] : List Int)).bind fun r71 =>
      if r71 = 0 then
        (L16l0_0 (v41.length : Int) v41 v42 (0, ([] : List (ByteArray × Bool)))).bind fun g170_ => match g170_ with
        | .inl () =>
          (L16l1_0 (v42.length : Int) v41 v42 (0, ([] : List (ByteArray × Bool)))).bind fun g260_ => match g260_ with
          | .inl () =>
            some (0, 0)
          | .inr (r262, r263) =>
            some (r262, r263)
        | .inr (r264, r265) =>
          some (r264, r265)
      else
        some (0, r71)
    else
      (F72_0 false 10).bind fun r268 =>
      (F72_0 false 8).bind fun r271 =>
      (F71_0 ([r268, r271] : List Int)).bind fun r274 =>
      if r274 = 0 then
        (L16l0_0 (v41.length : Int) v41 v42 (0, ([] : List (ByteArray × Bool)))).bind fun g276_ => match g276_ with
        | .inl () =>
          (L16l1_0 (v42.length : Int) v41 v42 (0, ([] : List (ByteArray × Bool)))).bind fun g278_ => match g278_ with
          | .inl () =>
            some (0, 0)
          | .inr (r280, r281) =>
            some (r280, r281)
        | .inr (r282, r283) =>
          some (r282, r283)
      else
        some (0, r274)
  else
  if (v41.length : Int) ≤ 10 then
    (F72_0 (!(decide ((v42.length : Int) ≤ 0))) 10).bind fun r287 =>
    (F72_0 (decide ((v42.length : Int) ≤ 14)) 8).bind fun r290 =>
    (F71_0 ([r287, r290] : List Int)).bind fun r293 =>
    if r293 = 0 then
      (L16l0_0 (v41.length : Int) v41 v42 (0, ([] : List (ByteArray × Bool)))).bind fun g295_ => match g295_ with
      | .inl () =>
        (L16l1_0 (v42.length : Int) v41 v42 (0, ([] : List (ByteArray × Bool)))).bind fun g297_ => match g297_ with
        | .inl () =>
          some (0, 0)
        | .inr (r299, r300) =>
          some (r299, r300)
      | .inr (r301, r302) =>
        some (r301, r302)
    else
      some (0, r293)
  else
    (F72_0 (!(decide ((v42.length : Int) ≤ 0))) 10).bind fun r305 =>
    (F72_0 false 8).bind fun r308 =>
    (F71_0 ([r305, r308] : List Int)).bind fun r311 =>
    if r311 = 0 then
      (L16l0_0 (v41.length : Int) v41 v42 (0, ([] : List (ByteArray × Bool)))).bind fun g313_ => match g313_ with
      | .inl () =>
        (L16l1_0 (v42.length : Int) v41 v42 (0, ([] : List (ByteArray × Bool)))).bind fun g315_ => match g315_ with
        | .inl () =>
          some (0, 0)
        | .inr (r317, r318) =>
          some (r317, r318)
      | .inr (r319, r320) =>
        some (r319, r320)
    else
      some (0, r311)
-- water.loss
noncomputable def F77_0 (v337 : Int) (v338 : Int) : Option (Int) :=
  some (aw .i64 ((aw .i64 (v337 * v338)) * (max v338 (aw .i64 (0 - v338)))))
-- water.LossOf
noncomputable def S131l0_0 (v371 : ByteArray) : Int → Option ((Int) ⊕ ((Unit) ⊕ (Unit)))
  | v372 =>
    if (v371.size : Int) ≤ v372 then
      some (.inr (.inl ()))
    else
      bind2 (geti (v371.data.toList) v372) fun j374 b375 =>
      if 97 ≤ (b375.toNat : Int) then
        if (b375.toNat : Int) ≤ 122 then
          some (.inl (aw .i64 (v372 + 1)))
        else
        if 65 ≤ (b375.toNat : Int) then
          if (b375.toNat : Int) ≤ 90 then
            some (.inl (aw .i64 (v372 + 1)))
          else
          if v372 = 0 then
            some (.inr (.inr ()))
          else
          if (b375.toNat : Int) = 45 then
            some (.inl (aw .i64 (v372 + 1)))
          else
          if 48 ≤ (b375.toNat : Int) then
            if (b375.toNat : Int) ≤ 57 then
              some (.inl (aw .i64 (v372 + 1)))
            else
              some (.inr (.inr ()))
          else
            some (.inr (.inr ()))
        else
        if v372 = 0 then
          some (.inr (.inr ()))
        else
        if (b375.toNat : Int) = 45 then
          some (.inl (aw .i64 (v372 + 1)))
        else
        if 48 ≤ (b375.toNat : Int) then
          if (b375.toNat : Int) ≤ 57 then
            some (.inl (aw .i64 (v372 + 1)))
          else
            some (.inr (.inr ()))
        else
          some (.inr (.inr ()))
      else
      if 65 ≤ (b375.toNat : Int) then
        if (b375.toNat : Int) ≤ 90 then
          some (.inl (aw .i64 (v372 + 1)))
        else
        if v372 = 0 then
          some (.inr (.inr ()))
        else
        if (b375.toNat : Int) = 45 then
          some (.inl (aw .i64 (v372 + 1)))
        else
        if 48 ≤ (b375.toNat : Int) then
          if (b375.toNat : Int) ≤ 57 then
            some (.inl (aw .i64 (v372 + 1)))
          else
            some (.inr (.inr ()))
        else
          some (.inr (.inr ()))
      else
      if v372 = 0 then
        some (.inr (.inr ()))
      else
      if (b375.toNat : Int) = 45 then
        some (.inl (aw .i64 (v372 + 1)))
      else
      if 48 ≤ (b375.toNat : Int) then
        if (b375.toNat : Int) ≤ 57 then
          some (.inl (aw .i64 (v372 + 1)))
        else
          some (.inr (.inr ()))
      else
        some (.inr (.inr ()))
noncomputable def L131l0_0 (v371 : ByteArray) (s : Int) : Option ((Unit) ⊕ (Unit)) := iter (S131l0_0 v371) 1000000 s
-- guidevanebase.IsName
noncomputable def F131_0 (v368 : ByteArray) : Option (Bool) :=
  if 1 ≤ (v368.size : Int) then
    if (v368.size : Int) ≤ 12 then
      (L131l0_0 v368 0).bind fun g399_ => match g399_ with
      | .inl () =>
        some true
      | .inr () =>
        some false
    else
      some false
  else
    some false
noncomputable def S132l0_0 (v408 : ByteArray) (v410 : List ByteArray) : Int → Option ((Int) ⊕ ((Unit) ⊕ (Unit)))
  | v409 =>
    if (v410.length : Int) ≤ v409 then
      some (.inr (.inl ()))
    else
      bind2 (geti v410 v409) fun j412 x413 =>
      if x413 = v408 then
        some (.inr (.inr ()))
      else
        some (.inl (aw .i64 (v409 + 1)))
noncomputable def L132l0_0 (v408 : ByteArray) (v410 : List ByteArray) (s : Int) : Option ((Unit) ⊕ (Unit)) := iter (S132l0_0 v408 v410) 1000000 s
-- guidevanebase.HasText
noncomputable def F132_0 (v406 : ByteArray) (v407 : List ByteArray) : Option (Bool) :=
  (L132l0_0 v406 v407 0).bind fun g416_ => match g416_ with
  | .inl () =>
    some false
  | .inr () =>
    some true
-- guidevanebase.Within
noncomputable def F20_0 (v424 : Int) (v425 : Int) (v426 : Int) : Option (Bool) :=
  if v425 ≤ v424 then
    some (decide (v424 ≤ v426))
  else
    some false
-- guidevaneref02.nodeErr
noncomputable def F78_0 (v363 : ByteArray) (v364 : Bool) (v365 : Int) (v366 : Int) (v367 : List ByteArray) : Option (Int) :=
  (F131_0 v363).bind fun r404 =>
  if r404 = true then
    (F132_0 v363 v367).bind fun r421 =>
    if r421 = true then
      some 5
    else
    if v364 = true then
      (F20_0 v365 0 1000000).bind fun r431 =>
      if r431 = true then
        if v366 = 0 then
          some 0
        else
          some 3
      else
        some 2
    else
      (F20_0 v366 (-10000) 10000).bind fun r436 =>
      if r436 = true then
        if v365 = 0 then
          some 0
        else
          some 3
      else
        some 2
  else
    some 4
noncomputable def S19l0_0 (v356 : List WaterNode) (v357 : List WaterConduit) : (Int × (List ByteArray)) → Option ((Int × (List ByteArray)) ⊕ ((Unit) ⊕ (Int × Int)))
  | (v355, v358) =>
    if (v356.length : Int) ≤ v355 then
      some (.inr (.inl ()))
    else
      bind2 (geti v356 v355) fun j360 x361 =>
      (F78_0 x361.fName x361.fLake x361.fHead x361.fDraw v358).bind fun r442 =>
      if r442 = 0 then
        room ((v358.length + 1) * 16) (
          some (.inl ((aw .i64 (v355 + 1)), (v358 ++ [x361.fName])))
        )
      else
        some (.inr (.inr (v355, r442)))
noncomputable def L19l0_0 (v356 : List WaterNode) (v357 : List WaterConduit) (s : Int × (List ByteArray)) : Option ((Unit) ⊕ (Int × Int)) := iter (S19l0_0 v356 v357) 1000000 s
-- guidevaneref02.conduitErr
noncomputable def F79_0 (v457 : ByteArray) (v458 : Int) (v459 : Int) (v460 : Int) (v461 : Bool) (v462 : Bool) (v463 : List WaterNode) (v464 : List WaterConduit) (v465 : List ByteArray) : Option (Int) :=
  (F131_0 v457).bind fun r468 =>
  if r468 = true then
    (F132_0 v457 v465).bind fun r472 =>
    if r472 = true then
      some 5
    else
      (F20_0 v458 0 (aw .i64 ((v463.length : Int) - 1))).bind fun r476 =>
      if r476 = true then
        (F20_0 v459 0 (aw .i64 ((v463.length : Int) - 1))).bind fun r480 =>
        if r480 = true then
          if v458 = v459 then
            some 13
          else
            (F20_0 v460 0 1000).bind fun r485 =>
            if r485 = true then
              if v461 = true then
                some 0
              else
              if v462 = true then
                some 0
              else
                some 3
            else
              some 2
        else
          some 6
      else
        some 6
  else
    some 4
noncomputable def S19l1_0 (v450 : List WaterNode) (v451 : List WaterConduit) : (Int × (List ByteArray)) → Option ((Int × (List ByteArray)) ⊕ ((Unit) ⊕ (Int × Int)))
  | (v449, v452) =>
    if (v451.length : Int) ≤ v449 then
      some (.inr (.inl ()))
    else
      bind2 (geti v451 v449) fun j454 x455 =>
      (F79_0 x455.fName x455.fFrom x455.fTo x455.fResist x455.fValve x455.fOpen v450 v451 v452).bind fun r492 =>
      if r492 = 0 then
        room ((v452.length + 1) * 16) (
          some (.inl ((aw .i64 (v449 + 1)), (v452 ++ [x455.fName])))
        )
      else
        some (.inr (.inr (v449, r492)))
noncomputable def L19l1_0 (v450 : List WaterNode) (v451 : List WaterConduit) (s : Int × (List ByteArray)) : Option ((Unit) ⊕ (Int × Int)) := iter (S19l1_0 v450 v451) 1000000 s
-- guidevaneref02.CheckNet
noncomputable def F19_0 (v349 : List WaterNode) (v350 : List WaterConduit) : Option (Int × Int) :=
  if (v349.length : Int) = 0 then
    some (0, 10)
  else
  if (v350.length : Int) = 0 then
    some (0, 10)
  else
  if (v349.length : Int) ≤ 10 then
    if (v350.length : Int) ≤ 14 then
      (L19l0_0 v349 v350 (0, ([] : List ByteArray))).bind fun g447_ => match g447_ with
      | .inl () =>
        (L19l1_0 v349 v350 (0, ([] : List ByteArray))).bind fun g497_ => match g497_ with
        | .inl () =>
          some (0, 0)
        | .inr (r499, r500) =>
          some (r499, r500)
      | .inr (r501, r502) =>
        some (r501, r502)
    else
      some (0, 8)
  else
    some (0, 8)
-- guidevaneref02.FlowErr
noncomputable def F21_0 (v515 : Int) : Option (Int) :=
  (F20_0 v515 (-200000) 200000).bind fun r518 =>
  if r518 = true then
    some 0
  else
    some 2
-- guidevanebase.Size
noncomputable def F41_0 (v528 : Int) : Option (Int) :=
  some (max v528 (aw .i64 (0 - v528)))
-- guidevaneref02.Loss
noncomputable def F87_0 (v961 : List WaterNode) (v962 : List WaterConduit) : Option (Int) :=
  bind2 (F16_0 v961 v962) fun r965 r966 =>
  some r966
-- water.net).nodeErr
noncomputable def S135l0_0 (v1099 : Int) (v1101 : List WaterNode) (v1102 : List WaterConduit) : (Int × (List Int)) → Option ((Int × (List Int)) ⊕ ((List Int)))
  | (v1100, v1103) =>
    if v1099 ≤ v1100 then
      some (.inr v1103)
    else
      bind2 (geti v1101 v1100) fun j1105 x1106 =>
      if x1106.fLake = true then
        room ((v1103.length + 1) * 8) (
          some (.inl ((aw .i64 (v1100 + 1)), (v1103 ++ [v1100])))
        )
      else
        some (.inl ((aw .i64 (v1100 + 1)), v1103))
noncomputable def L135l0_0 (v1099 : Int) (v1101 : List WaterNode) (v1102 : List WaterConduit) (s : Int × (List Int)) : Option ((List Int)) := iter (S135l0_0 v1099 v1101 v1102) 1000000 s
-- water.net).lakes
noncomputable def F135_0 (v1097 : List WaterNode) (v1098 : List WaterConduit) : Option ((List Int)) :=
  (L135l0_0 (v1097.length : Int) v1097 v1098 (0, ([] : List Int))).bind fun r1113 =>
  some r1113
noncomputable def F32_0 (v1233 : List WaterNode) (v1234 : List WaterConduit) : Option (Int) :=
  bind2 (F19_0 v1233 v1234) fun r1237 r1238 =>
  some r1238
-- guidevaneref02.NodeErr
noncomputable def S137l0_0 (v1538 : List WaterNode) (v1539 : List WaterConduit) : (Int × Int × (List Bool)) → Option ((Int × Int × (List Bool)) ⊕ (Int × (List Bool)))
  | (v1536, v1537, v1540) =>
    if (v1538.length : Int) ≤ v1537 then
      some (.inr (v1536, v1540))
    else
      bind2 (geti v1538 v1537) fun j1542 x1543 =>
      bind2 (geti v1540 v1537) fun j1545 x1546 =>
      ((v1540.set j1545 x1543.fLake)[j1545]?).bind fun x1548 =>
      if x1548 = true then
        some (.inl (v1536, (aw .i64 (v1537 + 1)), (v1540.set j1545 x1543.fLake)))
      else
        some (.inl ((aw .i64 (v1536 + 1)), (aw .i64 (v1537 + 1)), (v1540.set j1545 x1543.fLake)))
noncomputable def L137l0_0 (v1538 : List WaterNode) (v1539 : List WaterConduit) (s : Int × Int × (List Bool)) : Option (Int × (List Bool)) := iter (S137l0_0 v1538 v1539) 1000000 s
noncomputable def S137l1_0 (v1565 : Int) (v1568 : List WaterNode) (v1569 : List WaterConduit) : (Bool × Int × (List Bool) × (List Int) × (List Int)) → Option ((Bool × Int × (List Bool) × (List Int) × (List Int)) ⊕ (Bool × (List Bool) × (List Int) × (List Int)))
  | (v1566, v1567, v1570, v1571, v1572) =>
    if (v1569.length : Int) ≤ v1567 then
      some (.inr (v1566, v1570, v1571, v1572))
    else
    if v1566 = true then
      some (.inr (v1566, v1570, v1571, v1572))
    else
      bind2 (geti v1569 v1567) fun j1575 x1576 =>
      if x1576.fOpen = true then
        bind2 (geti v1570 x1576.fFrom) fun j1579 x1580 =>
        bind2 (geti v1570 x1576.fTo) fun j1582 x1583 =>
        if (x1580 == x1583) = true then
          some (.inl (v1566, (aw .i64 (v1567 + 1)), v1570, v1571, v1572))
        else
        if x1583 = true then
          room ((v1571.length + 1) * 8) (
            room ((v1572.length + 1) * 8) (
              some (.inl (true, (aw .i64 (v1567 + 1)), (v1570.set j1579 true), (v1571 ++ [v1567]), (v1572 ++ [x1576.fFrom])))
            )
          )
        else
          room ((v1571.length + 1) * 8) (
            room ((v1572.length + 1) * 8) (
              some (.inl (true, (aw .i64 (v1567 + 1)), (v1570.set j1582 true), (v1571 ++ [v1567]), (v1572 ++ [x1576.fTo])))
            )
          )
      else
        some (.inl (v1566, (aw .i64 (v1567 + 1)), v1570, v1571, v1572))
noncomputable def L137l1_0 (v1565 : Int) (v1568 : List WaterNode) (v1569 : List WaterConduit) (s : Bool × Int × (List Bool) × (List Int) × (List Int)) : Option (Bool × (List Bool) × (List Int) × (List Int)) := iter (S137l1_0 v1565 v1568 v1569) 1000000 s
noncomputable def S137l2_0 (v1557 : Int) (v1559 : List WaterNode) (v1560 : List WaterConduit) : (Bool × (List Bool) × (List Int) × (List Int)) → Option ((Bool × (List Bool) × (List Int) × (List Int)) ⊕ ((List Int) × (List Int)))
  | (v1558, v1561, v1562, v1563) =>
    if v1558 = true then
      bind4 (L137l1_0 v1557 v1559 v1560 (false, 0, v1561, v1562, v1563)) fun r1599 r1600 r1601 r1602 =>
      some (.inl (r1599, r1600, r1601, r1602))
    else
      some (.inr (v1562, v1563))
noncomputable def L137l2_0 (v1557 : Int) (v1559 : List WaterNode) (v1560 : List WaterConduit) (s : Bool × (List Bool) × (List Int) × (List Int)) : Option ((List Int) × (List Int)) := iter (S137l2_0 v1557 v1559 v1560) 1000000 s
-- guidevaneref02.Tree
noncomputable def F137_0 (v1531 : List WaterNode) (v1532 : List WaterConduit) : Option (Bool × (List Int) × (List Int)) :=
  (inx (v1531.length : Int) 140737488355329).bind fun n1533 =>
  room (n1533) (
    bind2 (L137l0_0 v1531 v1532 (0, 0, (List.replicate n1533 false))) fun r1555 r1556 =>
    bind2 (L137l2_0 r1555 v1531 v1532 (true, r1556, ([] : List Int), ([] : List Int))) fun r1607 r1608 =>
    some ((decide ((r1608.length : Int) = r1555)), r1607, r1608)
  )
noncomputable def S68l0_0 (v1630 : Int) (v1632 : List Int) : Int → Option ((Int) ⊕ ((Unit) ⊕ (Unit)))
  | v1631 =>
    if (v1632.length : Int) ≤ v1631 then
      some (.inr (.inl ()))
    else
      bind2 (geti v1632 v1631) fun j1634 x1635 =>
      if x1635 = v1630 then
        some (.inr (.inr ()))
      else
        some (.inl (aw .i64 (v1631 + 1)))
noncomputable def L68l0_0 (v1630 : Int) (v1632 : List Int) (s : Int) : Option ((Unit) ⊕ (Unit)) := iter (S68l0_0 v1630 v1632) 1000000 s
-- guidevanebase.Has
noncomputable def F68_0 (v1628 : Int) (v1629 : List Int) : Option (Bool) :=
  (L68l0_0 v1628 v1629 0).bind fun g1638_ => match g1638_ with
  | .inl () =>
    some false
  | .inr () =>
    some true
noncomputable def S97l0_0 (v1620 : List WaterNode) (v1621 : List WaterConduit) (v1622 : List Int) : (Int × Int) → Option ((Int × Int) ⊕ ((Int) ⊕ (Int)))
  | (v1618, v1619) =>
    if (v1621.length : Int) ≤ v1619 then
      some (.inr (.inl (v1618)))
    else
      bind2 (geti v1621 v1619) fun j1624 x1625 =>
      if x1625.fOpen = true then
        (F68_0 v1619 v1622).bind fun r1643 =>
        if r1643 = true then
          some (.inl (v1618, (aw .i64 (v1619 + 1))))
        else
        if 0 ≤ v1618 then
          some (.inr (.inr (v1618)))
        else
          some (.inl (v1619, (aw .i64 (v1619 + 1))))
      else
        some (.inl (v1618, (aw .i64 (v1619 + 1))))
noncomputable def L97l0_0 (v1620 : List WaterNode) (v1621 : List WaterConduit) (v1622 : List Int) (s : Int × Int) : Option ((Int) ⊕ (Int)) := iter (S97l0_0 v1620 v1621 v1622) 1000000 s
-- guidevaneref02.Closing
noncomputable def F97_0 (v1529 : List WaterNode) (v1530 : List WaterConduit) : Option (Int × Int) :=
  bind3 (F137_0 v1529 v1530) fun r1614 r1615 r1616 =>
  if r1614 = true then
    (L97l0_0 v1529 v1530 r1615 ((-1), 0)).bind fun g1648_ => match g1648_ with
    | .inl (r1650) =>
      some (r1650, 0)
    | .inr (r1651) =>
      some ((-1), 8)
  else
    some ((-1), 14)
-- guidevaneref02.FormErr
noncomputable def F38_0 (v1523 : List WaterNode) (v1524 : List WaterConduit) : Option (Int) :=
  (F32_0 v1523 v1524).bind fun r1527 =>
  if r1527 = 0 then
    bind2 (F97_0 v1523 v1524) fun r1656 r1657 =>
    some r1657
  else
    some r1527
noncomputable def S151l0_0 (v1717 : Int) (v1719 : List WaterNode) (v1720 : List WaterConduit) (v1722 : List WaterNode) (v1723 : List WaterConduit) (v1724 : List Branch) (v1726 : List Branch) (v1728 : List Int) : (Int × (List Bool)) → Option ((Int × (List Bool)) ⊕ ((List Bool)))
  | (v1718, v1727) =>
    if v1717 ≤ v1718 then
      some (.inr v1727)
    else
      bind2 (geti v1728 v1718) fun j1730 x1731 =>
      bind2 (geti v1727 x1731) fun j1733 x1734 =>
      some (.inl ((aw .i64 (v1718 + 1)), (v1727.set j1733 true)))
noncomputable def L151l0_0 (v1717 : Int) (v1719 : List WaterNode) (v1720 : List WaterConduit) (v1722 : List WaterNode) (v1723 : List WaterConduit) (v1724 : List Branch) (v1726 : List Branch) (v1728 : List Int) (s : Int × (List Bool)) : Option ((List Bool)) := iter (S151l0_0 v1717 v1719 v1720 v1722 v1723 v1724 v1726 v1728) 1000000 s
-- water.net).grow$1
noncomputable def F159_0 (v1759 : ByteArray) (v1760 : Int) (v1761 : Int) (v1762 : Int) (v1763 : Bool) (v1764 : Bool) (v1765 : List Bool) : Option (Bool) :=
  if v1764 = true then
    bind2 (geti v1765 v1760) fun j1767 x1768 =>
    bind2 (geti v1765 v1761) fun j1770 x1771 =>
    some (!(x1768 == x1771))
  else
    some false
noncomputable def S158l0_0 (v1751 : Int) (v1753 : List WaterConduit) (v1754 : List Bool) : Int → Option ((Int) ⊕ ((Unit) ⊕ (Int)))
  | v1752 =>
    if v1751 ≤ v1752 then
      some (.inr (.inl ()))
    else
      bind2 (geti v1753 v1752) fun j1756 x1757 =>
      (F159_0 x1757.fName x1757.fFrom x1757.fTo x1757.fResist x1757.fValve x1757.fOpen v1754).bind fun r1776 =>
      if r1776 = true then
        some (.inr (.inr (v1752)))
      else
        some (.inl (aw .i64 (v1752 + 1)))
noncomputable def L158l0_0 (v1751 : Int) (v1753 : List WaterConduit) (v1754 : List Bool) (s : Int) : Option ((Unit) ⊕ (Int)) := iter (S158l0_0 v1751 v1753 v1754) 1000000 s
-- api.WaterConduit]
noncomputable def F158_0 (v1749 : List WaterConduit) (v1750 : List Bool) : Option (Int) :=
  (L158l0_0 (v1749.length : Int) v1749 v1750 0).bind fun g1779_ => match g1779_ with
  | .inl () =>
    some (-1)
  | .inr (r1781) =>
    some r1781
noncomputable def S162l0_0 (v1803 : Bool) (v1804 : Int) (v1806 : List Bool) : Int → Option ((Int) ⊕ ((Unit) ⊕ (Int)))
  | v1805 =>
    if v1804 ≤ v1805 then
      some (.inr (.inl ()))
    else
      bind2 (geti v1806 v1805) fun j1808 x1809 =>
      if (v1803 == x1809) = true then
        some (.inr (.inr (v1805)))
      else
        some (.inl (aw .i64 (v1805 + 1)))
noncomputable def L162l0_0 (v1803 : Bool) (v1804 : Int) (v1806 : List Bool) (s : Int) : Option ((Unit) ⊕ (Int)) := iter (S162l0_0 v1803 v1804 v1806) 1000000 s
-- slices.Index[[]bool,bool]
noncomputable def F162_0 (v1801 : Bool) (v1802 : List Bool) : Option (Int) :=
  (L162l0_0 v1801 (v1802.length : Int) v1802 0).bind fun g1813_ => match g1813_ with
  | .inl () =>
    some (-1)
  | .inr (r1815) =>
    some r1815
-- slices.Contains[[]bool,bool]
noncomputable def F160_0 (v1799 : Bool) (v1800 : List Bool) : Option (Bool) :=
  (F162_0 v1799 v1800).bind fun r1819 =>
  some (decide (0 ≤ r1819))
noncomputable def S151l1_0 (v1827 : List WaterNode) (v1828 : List WaterConduit) (v1830 : List WaterNode) (v1831 : List WaterConduit) (v1832 : List Branch) : ((List Branch) × (List Bool)) → Option (((List Branch) × (List Bool)) ⊕ (Int × (List Branch)))
  | (v1834, v1835) =>
    (F158_0 v1828 v1835).bind fun r1838 =>
    if 0 ≤ r1838 then
      bind2 (geti v1828 r1838) fun j1840 x1841 =>
      bind2 (geti v1835 x1841.fTo) fun j1843 x1844 =>
      if x1844 = true then
        bind2 (geti v1835 x1841.fFrom) fun j1847 x1848 =>
        room ((v1834.length + 1) * 16) (
          some (.inl ((v1834 ++ [(⟨r1838, x1841.fFrom⟩ : Branch)]), (v1835.set j1847 true)))
        )
      else
        room ((v1834.length + 1) * 16) (
          some (.inl ((v1834 ++ [(⟨r1838, x1841.fTo⟩ : Branch)]), (v1835.set j1843 true)))
        )
    else
      (F160_0 false v1835).bind fun r1854 =>
      (F72_0 (!r1854) 14).bind fun r1857 =>
      some (.inr (r1857, v1834))
noncomputable def L151l1_0 (v1827 : List WaterNode) (v1828 : List WaterConduit) (v1830 : List WaterNode) (v1831 : List WaterConduit) (v1832 : List Branch) (s : (List Branch) × (List Bool)) : Option (Int × (List Branch)) := iter (S151l1_0 v1827 v1828 v1830 v1831 v1832) 1000000 s
-- water.net).grow
noncomputable def F151_0 (v1690 : List WaterNode) (v1691 : List WaterConduit) : Option (Int × (List Branch)) :=
  (inx (v1690.length : Int) 140737488355329).bind fun n1692 =>
  room (n1692) (
    (F135_0 v1690 v1691).bind fun r1697 =>
    (L151l0_0 (r1697.length : Int) v1690 v1691 ([] : List WaterNode) ([] : List WaterConduit) ([] : List Branch) ([] : List Branch) r1697 (0, (List.replicate n1692 false))).bind fun r1739 =>
    bind2 (L151l1_0 v1690 v1691 ([] : List WaterNode) ([] : List WaterConduit) ([] : List Branch) (([] : List Branch), r1739)) fun r1862 r1863 =>
    some (r1862, r1863)
  )
-- water.net).closed$1
noncomputable def F153_0 (v1897 : Int) (v1898 : Int) (v1899 : Int) : Option (Bool) :=
  some (decide (v1897 = v1899))
noncomputable def S161l0_0 (v1889 : Int) (v1891 : List Branch) (v1892 : Int) : Int → Option ((Int) ⊕ ((Unit) ⊕ (Int)))
  | v1890 =>
    if v1889 ≤ v1890 then
      some (.inr (.inl ()))
    else
      bind2 (geti v1891 v1890) fun j1894 x1895 =>
      (F153_0 x1895.fconduit x1895.fnode v1892).bind fun r1903 =>
      if r1903 = true then
        some (.inr (.inr (v1890)))
      else
        some (.inl (aw .i64 (v1890 + 1)))
noncomputable def L161l0_0 (v1889 : Int) (v1891 : List Branch) (v1892 : Int) (s : Int) : Option ((Unit) ⊕ (Int)) := iter (S161l0_0 v1889 v1891 v1892) 1000000 s
-- water.branch]
noncomputable def F161_0 (v1887 : List Branch) (v1888 : Int) : Option (Int) :=
  (L161l0_0 (v1887.length : Int) v1887 v1888 0).bind fun g1906_ => match g1906_ with
  | .inl () =>
    some (-1)
  | .inr (r1908) =>
    some r1908
-- water.branch]
noncomputable def F152_0 (v1885 : List Branch) (v1886 : Int) : Option (Bool) :=
  (F161_0 v1885 v1886).bind fun r1912 =>
  some (decide (0 ≤ r1912))
noncomputable def S138l0_0 (v1920 : Int) (v1922 : List WaterNode) (v1923 : List WaterConduit) (v1925 : List WaterNode) (v1926 : List WaterConduit) (v1927 : List Branch) (v1929 : List Branch) : (Int × Int) → Option ((Int × Int) ⊕ ((Int) ⊕ (Int × Int)))
  | (v1921, v1928) =>
    if v1920 ≤ v1921 then
      some (.inr (.inl (v1928)))
    else
      bind2 (geti v1923 v1921) fun j1931 x1932 =>
      (F152_0 v1929 v1921).bind fun r1936 =>
      if x1932.fOpen = true then
        if r1936 = true then
          some (.inl ((aw .i64 (v1921 + 1)), v1928))
        else
        if 0 ≤ v1928 then
          some (.inr (.inr (v1928, v1928)))
        else
          some (.inl ((aw .i64 (v1921 + 1)), v1921))
      else
        some (.inl ((aw .i64 (v1921 + 1)), v1928))
noncomputable def L138l0_0 (v1920 : Int) (v1922 : List WaterNode) (v1923 : List WaterConduit) (v1925 : List WaterNode) (v1926 : List WaterConduit) (v1927 : List Branch) (v1929 : List Branch) (s : Int × Int) : Option ((Int) ⊕ (Int × Int)) := iter (S138l0_0 v1920 v1922 v1923 v1925 v1926 v1927 v1929) 1000000 s
-- water.net).closed
noncomputable def F138_0 (v1688 : List WaterNode) (v1689 : List WaterConduit) : Option (Int × Int × (List Branch)) :=
  bind2 (F151_0 v1688 v1689) fun r1868 r1869 =>
  if r1868 = 0 then
    (L138l0_0 (v1689.length : Int) v1688 v1689 ([] : List WaterNode) ([] : List WaterConduit) ([] : List Branch) r1869 (0, (-1))).bind fun g1943_ => match g1943_ with
    | .inl (r1945) =>
      some (r1945, 0, r1869)
    | .inr (r1946, r1947) =>
      some (r1946, 8, r1869)
  else
    some ((-1), r1868, r1869)
-- water.openTree
noncomputable def F99_0 (v1682 : List WaterNode) (v1683 : List WaterConduit) : Option ((Int × Int × (List Branch)) ⊕ (Int)) :=
  (F87_0 v1682 v1683).bind fun r1686 =>
  if r1686 = 0 then
    bind3 (F138_0 v1682 v1683) fun r1953 r1954 r1955 =>
    some (.inl (r1953, r1954, r1955))
  else
    some (.inr (r1686))
-- water.openClosing
noncomputable def F98_0 (v1680 : List WaterNode) (v1681 : List WaterConduit) : Option ((Int × Int × (List Branch)) ⊕ (Int)) :=
  (F99_0 v1680 v1681).bind fun g1960_ => match g1960_ with
  | .inl (r1962, r1963, r1964) =>
    (F72_0 (decide (0 ≤ r1962)) 12).bind fun r1967 =>
    (F71_0 ([r1963, r1967] : List Int)).bind fun r1970 =>
    some (.inl (r1962, r1970, r1964))
  | .inr (r1971) =>
    (F72_0 (decide ((0 : Int) ≤ 0)) 12).bind fun r1974 =>
    (F71_0 ([r1971, r1974] : List Int)).bind fun r1977 =>
    some (.inr (r1977))
-- water.ClosingOf
noncomputable def F39_0 (v1678 : List WaterNode) (v1679 : List WaterConduit) : Option (Int × Int) :=
  (F98_0 v1678 v1679).bind fun g1982_ => match g1982_ with
  | .inl (r1984, r1985, r1986) =>
    if r1985 = 0 then
      some (r1984, 0)
    else
      some (0, r1985)
  | .inr (r1988) =>
    if r1988 = 0 then
      some (0, 0)
    else
      some (0, r1988)
-- water.circulationErr
noncomputable def F100_0 (v2008 : Int) : Option (Int) :=
  (F73_0 v2008 200000).bind fun r2011 =>
  (F72_0 r2011 2).bind fun r2014 =>
  some r2014
noncomputable def S101l0_0 (v2040 : Int) (v2041 : Int) (v2043 : List WaterNode) (v2044 : List WaterConduit) (v2045 : List Branch) (v2046 : Int) (v2047 : List Int) (v2048 : List Int) (v2049 : List Int) : (Int × (List Int) × (List Int)) → Option ((Int × (List Int) × (List Int)) ⊕ ((List Int) × (List Int)))
  | (v2042, v2050, v2051) =>
    if v2041 ≤ v2042 then
      some (.inr (v2050, v2051))
    else
      bind2 (geti v2043 v2042) fun j2053 x2054 =>
      bind2 (geti v2051 v2042) fun j2056 x2057 =>
      bind2 (geti v2050 v2042) fun j2059 x2060 =>
      some (.inl ((aw .i64 (v2042 + 1)), (v2050.set j2059 (aw .i64 (1000 * x2054.fHead))), (v2051.set j2056 x2054.fDraw)))
noncomputable def L101l0_0 (v2040 : Int) (v2041 : Int) (v2043 : List WaterNode) (v2044 : List WaterConduit) (v2045 : List Branch) (v2046 : Int) (v2047 : List Int) (v2048 : List Int) (v2049 : List Int) (s : Int × (List Int) × (List Int)) : Option ((List Int) × (List Int)) := iter (S101l0_0 v2040 v2041 v2043 v2044 v2045 v2046 v2047 v2048 v2049) 1000000 s
-- water.branch]
noncomputable def F139_0 (v2081 : List Branch) : Option (Unit) :=
  some ()
-- water.tree).other
noncomputable def F140_0 (v2107 : Int) (v2108 : Int) (v2109 : Int) (v2110 : List WaterNode) (v2111 : List WaterConduit) (v2112 : List Branch) : Option (Int × Int) :=
  bind2 (geti v2111 v2108) fun j2113 x2114 =>
  if x2114.fTo = v2109 then
    some (x2114.fFrom, 1)
  else
    some (x2114.fTo, (-1))
noncomputable def S154l0_0 (v2175 : Int) (v2176 : List WaterNode) (v2177 : List WaterConduit) (v2178 : List Branch) (v2179 : List Int) (v2180 : List Int) (v2182 : List Int) : (Int × (List Int) × (List Int)) → Option ((Int × (List Int) × (List Int)) ⊕ ((List Int) × (List Int)))
  | (v2174, v2181, v2183) =>
    if 0 ≤ v2174 then
      bind2 (geti v2178 v2174) fun j2185 x2186 =>
      bind2 (F140_0 v2175 x2186.fconduit x2186.fnode v2176 v2177 v2178) fun r2190 r2191 =>
      bind2 (geti v2183 x2186.fnode) fun j2192 x2193 =>
      bind2 (geti v2181 x2186.fconduit) fun j2195 x2196 =>
      bind2 (geti v2183 r2190) fun j2198 x2199 =>
      some (.inl ((aw .i64 (v2174 - 1)), (v2181.set j2195 (aw .i64 (r2191 * x2193))), (v2183.set j2198 (aw .i64 (x2199 + x2193)))))
    else
      some (.inr (v2181, v2183))
noncomputable def L154l0_0 (v2175 : Int) (v2176 : List WaterNode) (v2177 : List WaterConduit) (v2178 : List Branch) (v2179 : List Int) (v2180 : List Int) (v2182 : List Int) (s : Int × (List Int) × (List Int)) : Option ((List Int) × (List Int)) := iter (S154l0_0 v2175 v2176 v2177 v2178 v2179 v2180 v2182) 1000000 s
-- water.branch]$1
noncomputable def F154_2 (v2165 : Int) (v2166 : List WaterNode) (v2167 : List WaterConduit) (v2168 : List Branch) (v2169 : List Int) (v2170 : List Int) (v2171 : List Int) (v2172 : List Int) (v2173 : List Int) : Option ((List Int) × (List Int)) :=
  bind2 (L154l0_0 v2165 v2166 v2167 v2168 v2169 v2170 v2172 ((aw .i64 ((v2168.length : Int) - 1)), v2171, v2173)) fun r2205 r2206 =>
  some (r2205, r2206)
noncomputable def S101l2_0 (v2213 : Int) (v2215 : List WaterNode) (v2216 : List WaterConduit) (v2217 : List Branch) (v2218 : Int) (v2219 : List Int) (v2220 : List Int) (v2221 : List Int) : (Int × (List Int)) → Option ((Int × (List Int)) ⊕ ((List Int)))
  | (v2214, v2222) =>
    if v2213 ≤ v2214 then
      some (.inr v2222)
    else
      bind2 (geti v2217 v2214) fun j2224 x2225 =>
      bind2 (F140_0 v2218 x2225.fconduit x2225.fnode v2215 v2216 v2217) fun r2229 r2230 =>
      bind2 (geti v2222 r2229) fun j2231 x2232 =>
      bind2 (geti v2216 x2225.fconduit) fun j2234 x2235 =>
      bind2 (geti v2221 x2225.fconduit) fun j2237 x2238 =>
      (F77_0 x2235.fResist (aw .i64 (r2230 * x2238))).bind fun r2242 =>
      bind2 (geti v2222 x2225.fnode) fun j2243 x2244 =>
      some (.inl ((aw .i64 (v2214 + 1)), (v2222.set j2243 (aw .i64 (x2232 - r2242)))))
noncomputable def L101l2_0 (v2213 : Int) (v2215 : List WaterNode) (v2216 : List WaterConduit) (v2217 : List Branch) (v2218 : Int) (v2219 : List Int) (v2220 : List Int) (v2221 : List Int) (s : Int × (List Int)) : Option ((List Int)) := iter (S101l2_0 v2213 v2215 v2216 v2217 v2218 v2219 v2220 v2221) 1000000 s
-- water.tree).state
noncomputable def F101_0 (v2027 : Int) (v2028 : Int) (v2029 : List WaterNode) (v2030 : List WaterConduit) (v2031 : List Branch) : Option ((List Int) × (List Int)) :=
  (inx (v2030.length : Int) 140737488355329).bind fun n2032 =>
  room (n2032 * 8) (
    (inx (v2029.length : Int) 140737488355329).bind fun n2035 =>
    room (n2035 * 8) (
      room (n2035 * 8) (
        bind2 (L101l0_0 v2028 (v2029.length : Int) v2029 v2030 v2031 v2027 ([] : List Int) ([] : List Int) (List.replicate n2032 (0 : Int)) (0, (List.replicate n2035 (0 : Int)), (List.replicate n2035 (0 : Int)))) fun r2066 r2067 =>
        if 0 ≤ v2027 then
          bind2 (geti v2030 v2027) fun j2069 x2070 =>
          bind2 (geti (List.replicate n2032 (0 : Int)) v2027) fun j2072 x2073 =>
          bind2 (geti r2067 x2070.fFrom) fun j2075 x2076 =>
          bind2 (geti (r2067.set j2075 (aw .i64 (x2076 + v2028))) x2070.fTo) fun j2078 x2079 =>
          (F139_0 v2031).bind fun _ =>
          bind2 (F154_2 v2027 v2029 v2030 v2031 ([] : List Int) ([] : List Int) ((List.replicate n2032 (0 : Int)).set j2072 v2028) r2066 ((r2067.set j2075 (aw .i64 (x2076 + v2028))).set j2078 (aw .i64 (x2079 - v2028)))) fun r2211 r2212 =>
          (L101l2_0 (v2031.length : Int) v2029 v2030 v2031 v2027 ([] : List Int) ([] : List Int) r2211 (0, r2066)).bind fun r2249 =>
          some (r2211, r2249)
        else
          (F139_0 v2031).bind fun _ =>
          bind2 (F154_2 v2027 v2029 v2030 v2031 ([] : List Int) ([] : List Int) (List.replicate n2032 (0 : Int)) r2066 r2067) fun r2254 r2255 =>
          (L101l2_0 (v2031.length : Int) v2029 v2030 v2031 v2027 ([] : List Int) ([] : List Int) r2254 (0, r2066)).bind fun r2258 =>
          some (r2254, r2258)
      )
    )
  )
-- water.StateAt
noncomputable def F40_0 (v2000 : Int) (v2001 : List WaterNode) (v2002 : List WaterConduit) : Option (((List Int) × (List Int)) ⊕ (Int)) :=
  (F99_0 v2001 v2002).bind fun g2003_ => match g2003_ with
  | .inl (r2005, r2006, r2007) =>
    (F100_0 v2000).bind fun r2018 =>
    if v2000 = 0 then
      (F72_0 true 3).bind fun r2022 =>
      (F71_0 ([r2006, r2018, r2022] : List Int)).bind fun r2025 =>
      if r2025 = 0 then
        bind2 (F101_0 r2005 v2000 v2001 v2002 r2007) fun r2263 r2264 =>
        some (.inl (r2263, r2264))
      else
        some (.inr (r2025))
    else
      (F72_0 (decide (0 ≤ r2005)) 3).bind fun r2267 =>
      (F71_0 ([r2006, r2018, r2267] : List Int)).bind fun r2270 =>
      if r2270 = 0 then
        bind2 (F101_0 r2005 v2000 v2001 v2002 r2007) fun r2274 r2275 =>
        some (.inl (r2274, r2275))
      else
        some (.inr (r2270))
  | .inr (r2276) =>
    (F100_0 v2000).bind fun r2279 =>
    if v2000 = 0 then
      (F72_0 true 3).bind fun r2283 =>
      (F71_0 ([r2276, r2279, r2283] : List Int)).bind fun r2286 =>
      if r2286 = 0 then
        bind2 (F101_0 0 v2000 ([] : List WaterNode) ([] : List WaterConduit) ([] : List Branch)) fun r2290 r2291 =>
        some (.inl (r2290, r2291))
      else
        some (.inr (r2286))
    else
      (F72_0 (decide ((0 : Int) ≤ 0)) 3).bind fun r2294 =>
      (F71_0 ([r2276, r2279, r2294] : List Int)).bind fun r2297 =>
      if r2297 = 0 then
        bind2 (F101_0 0 v2000 ([] : List WaterNode) ([] : List WaterConduit) ([] : List Branch)) fun r2301 r2302 =>
        some (.inl (r2301, r2302))
      else
        some (.inr (r2297))
noncomputable def S6l0_0 (v2323 : Int) (v2324 : Int) (v2326 : List WaterNode) (v2327 : List WaterConduit) (v2328 : Int) (v2329 : Int) (v2330 : List Int) (v2331 : List Int) : (Int × (List Int)) → Option ((Int × (List Int)) ⊕ (((List Int)) ⊕ ((List Int))))
  | (v2325, v2332) =>
    if (v2327.length : Int) ≤ v2325 then
      some (.inr (.inl (v2332)))
    else
      bind2 (geti v2327 v2325) fun j2334 x2335 =>
      bind2 (geti v2330 v2325) fun j2337 x2338 =>
      (F20_0 x2338 (-1000000) 1000000).bind fun r2342 =>
      if r2342 = true then
        if x2335.fOpen = true then
          if v2325 = v2323 then
            if x2338 = v2324 then
              bind2 (geti v2332 x2335.fFrom) fun j2347 x2348 =>
              bind2 (geti v2332 x2335.fTo) fun j2350 x2351 =>
              ((v2332.set j2347 (aw .i64 (x2348 - x2338)))[j2350]?).bind fun x2353 =>
              bind2 (geti v2331 x2335.fFrom) fun j2355 x2356 =>
              (F20_0 x2356 (-1152921504606846976) 1152921504606846976).bind fun r2360 =>
              if r2360 = true then
                bind2 (geti v2331 x2335.fTo) fun j2362 x2363 =>
                (F20_0 x2363 (-1152921504606846976) 1152921504606846976).bind fun r2367 =>
                if r2367 = true then
                  some (.inl ((aw .i64 (v2325 + 1)), ((v2332.set j2347 (aw .i64 (x2348 - x2338))).set j2350 (aw .i64 (x2351 + x2338)))))
                else
                  some (.inr (.inr ((v2332.set j2347 (aw .i64 (x2348 - x2338))).set j2350 (aw .i64 (x2351 + x2338)))))
              else
                some (.inr (.inr ((v2332.set j2347 (aw .i64 (x2348 - x2338))).set j2350 (aw .i64 (x2351 + x2338)))))
            else
              some (.inr (.inr (v2332)))
          else
            bind2 (geti v2332 x2335.fFrom) fun j2369 x2370 =>
            bind2 (geti v2332 x2335.fTo) fun j2372 x2373 =>
            ((v2332.set j2369 (aw .i64 (x2370 - x2338)))[j2372]?).bind fun x2375 =>
            bind2 (geti v2331 x2335.fFrom) fun j2377 x2378 =>
            (F20_0 x2378 (-1152921504606846976) 1152921504606846976).bind fun r2382 =>
            if r2382 = true then
              bind2 (geti v2331 x2335.fTo) fun j2384 x2385 =>
              (F20_0 x2385 (-1152921504606846976) 1152921504606846976).bind fun r2389 =>
              if r2389 = true then
                (F41_0 x2338).bind fun r2393 =>
                if (aw .i64 (x2378 - x2385)) = (aw .i64 ((aw .i64 (x2335.fResist * x2338)) * r2393)) then
                  some (.inl ((aw .i64 (v2325 + 1)), ((v2332.set j2369 (aw .i64 (x2370 - x2338))).set j2372 (aw .i64 (x2373 + x2338)))))
                else
                  some (.inr (.inr ((v2332.set j2369 (aw .i64 (x2370 - x2338))).set j2372 (aw .i64 (x2373 + x2338)))))
              else
                some (.inr (.inr ((v2332.set j2369 (aw .i64 (x2370 - x2338))).set j2372 (aw .i64 (x2373 + x2338)))))
            else
              some (.inr (.inr ((v2332.set j2369 (aw .i64 (x2370 - x2338))).set j2372 (aw .i64 (x2373 + x2338)))))
        else
        if x2338 = 0 then
          if v2325 = v2323 then
            if x2338 = v2324 then
              bind2 (geti v2332 x2335.fFrom) fun j2398 x2399 =>
              bind2 (geti v2332 x2335.fTo) fun j2401 x2402 =>
              ((v2332.set j2398 (aw .i64 (x2399 - x2338)))[j2401]?).bind fun x2404 =>
              bind2 (geti v2331 x2335.fFrom) fun j2406 x2407 =>
              (F20_0 x2407 (-1152921504606846976) 1152921504606846976).bind fun r2411 =>
              if r2411 = true then
                bind2 (geti v2331 x2335.fTo) fun j2413 x2414 =>
                (F20_0 x2414 (-1152921504606846976) 1152921504606846976).bind fun r2418 =>
                if r2418 = true then
                  some (.inl ((aw .i64 (v2325 + 1)), ((v2332.set j2398 (aw .i64 (x2399 - x2338))).set j2401 (aw .i64 (x2402 + x2338)))))
                else
                  some (.inr (.inr ((v2332.set j2398 (aw .i64 (x2399 - x2338))).set j2401 (aw .i64 (x2402 + x2338)))))
              else
                some (.inr (.inr ((v2332.set j2398 (aw .i64 (x2399 - x2338))).set j2401 (aw .i64 (x2402 + x2338)))))
            else
              some (.inr (.inr (v2332)))
          else
            bind2 (geti v2332 x2335.fFrom) fun j2420 x2421 =>
            bind2 (geti v2332 x2335.fTo) fun j2423 x2424 =>
            ((v2332.set j2420 (aw .i64 (x2421 - x2338)))[j2423]?).bind fun x2426 =>
            bind2 (geti v2331 x2335.fFrom) fun j2428 x2429 =>
            (F20_0 x2429 (-1152921504606846976) 1152921504606846976).bind fun r2433 =>
            if r2433 = true then
              bind2 (geti v2331 x2335.fTo) fun j2435 x2436 =>
              (F20_0 x2436 (-1152921504606846976) 1152921504606846976).bind fun r2440 =>
              if r2440 = true then
                some (.inl ((aw .i64 (v2325 + 1)), ((v2332.set j2420 (aw .i64 (x2421 - x2338))).set j2423 (aw .i64 (x2424 + x2338)))))
              else
                some (.inr (.inr ((v2332.set j2420 (aw .i64 (x2421 - x2338))).set j2423 (aw .i64 (x2424 + x2338)))))
            else
              some (.inr (.inr ((v2332.set j2420 (aw .i64 (x2421 - x2338))).set j2423 (aw .i64 (x2424 + x2338)))))
        else
          some (.inr (.inr (v2332)))
      else
        some (.inr (.inr (v2332)))
noncomputable def L6l0_0 (v2323 : Int) (v2324 : Int) (v2326 : List WaterNode) (v2327 : List WaterConduit) (v2328 : Int) (v2329 : Int) (v2330 : List Int) (v2331 : List Int) (s : Int × (List Int)) : Option (((List Int)) ⊕ ((List Int))) := iter (S6l0_0 v2323 v2324 v2326 v2327 v2328 v2329 v2330 v2331) 1000000 s
noncomputable def S6l1_0 (v2447 : Int) (v2448 : Int) (v2450 : List WaterNode) (v2451 : List WaterConduit) (v2452 : Int) (v2453 : Int) (v2454 : List Int) (v2455 : List Int) (v2456 : List Int) : Int → Option ((Int) ⊕ ((Unit) ⊕ (Unit)))
  | v2449 =>
    if (v2450.length : Int) ≤ v2449 then
      some (.inr (.inl ()))
    else
      bind2 (geti v2450 v2449) fun j2458 x2459 =>
      if x2459.fLake = true then
        bind2 (geti v2455 v2449) fun j2462 x2463 =>
        if x2463 = (aw .i64 (1000 * x2459.fHead)) then
          some (.inl (aw .i64 (v2449 + 1)))
        else
          some (.inr (.inr ()))
      else
        bind2 (geti v2456 v2449) fun j2466 x2467 =>
        if x2467 = x2459.fDraw then
          some (.inl (aw .i64 (v2449 + 1)))
        else
          some (.inr (.inr ()))
noncomputable def L6l1_0 (v2447 : Int) (v2448 : Int) (v2450 : List WaterNode) (v2451 : List WaterConduit) (v2452 : Int) (v2453 : Int) (v2454 : List Int) (v2455 : List Int) (v2456 : List Int) (s : Int) : Option ((Unit) ⊕ (Unit)) := iter (S6l1_0 v2447 v2448 v2450 v2451 v2452 v2453 v2454 v2455 v2456) 1000000 s
-- water.tree).gap
noncomputable def F102_0 (v2490 : Int) (v2491 : Int) (v2492 : List WaterNode) (v2493 : List WaterConduit) (v2494 : List Branch) : Option (Int) :=
  bind2 (geti v2493 v2490) fun j2495 x2496 =>
  bind2 (F101_0 v2490 v2491 v2492 v2493 v2494) fun r2500 r2501 =>
  (F77_0 x2496.fResist v2491).bind fun r2504 =>
  bind2 (geti r2501 x2496.fFrom) fun j2505 x2506 =>
  bind2 (geti r2501 x2496.fTo) fun j2508 x2509 =>
  some (aw .i64 (r2504 - (aw .i64 (x2506 - x2509))))
-- water.GapAt
noncomputable def F42_0 (v2475 : Int) (v2476 : List WaterNode) (v2477 : List WaterConduit) : Option (Int × Int) :=
  (F98_0 v2476 v2477).bind fun g2478_ => match g2478_ with
  | .inl (r2480, r2481, r2482) =>
    (F100_0 v2475).bind fun r2485 =>
    (F71_0 ([r2481, r2485] : List Int)).bind fun r2488 =>
    if r2488 = 0 then
      (F102_0 r2480 v2475 v2476 v2477 r2482).bind fun r2514 =>
      some (r2514, 0)
    else
      some (0, r2488)
  | .inr (r2515) =>
    (F100_0 v2475).bind fun r2518 =>
    (F71_0 ([r2515, r2518] : List Int)).bind fun r2521 =>
    if r2521 = 0 then
      (F102_0 0 v2475 ([] : List WaterNode) ([] : List WaterConduit) ([] : List Branch)).bind fun r2525 =>
      some (r2525, 0)
    else
      some (0, r2521)
noncomputable def S6l0_1 (v2566 : Int) (v2567 : Int) (v2569 : List WaterNode) (v2570 : List WaterConduit) (v2571 : Int) (v2572 : Int) (v2573 : List Int) (v2574 : List Int) : (Int × (List Int)) → Option ((Int × (List Int)) ⊕ (((List Int)) ⊕ ((List Int))))
  | (v2568, v2575) =>
    if (v2570.length : Int) ≤ v2568 then
      some (.inr (.inl (v2575)))
    else
      bind2 (geti v2570 v2568) fun j2577 x2578 =>
      bind2 (geti v2573 v2568) fun j2580 x2581 =>
      (F20_0 x2581 (-1000000) 1000000).bind fun r2585 =>
      if r2585 = true then
        if x2578.fOpen = true then
          if v2568 = v2566 then
            if x2581 = v2567 then
              bind2 (geti v2575 x2578.fFrom) fun j2590 x2591 =>
              bind2 (geti v2575 x2578.fTo) fun j2593 x2594 =>
              ((v2575.set j2590 (aw .i64 (x2591 - x2581)))[j2593]?).bind fun x2596 =>
              bind2 (geti v2574 x2578.fFrom) fun j2598 x2599 =>
              (F20_0 x2599 (-1152921504606846976) 1152921504606846976).bind fun r2603 =>
              if r2603 = true then
                bind2 (geti v2574 x2578.fTo) fun j2605 x2606 =>
                (F20_0 x2606 (-1152921504606846976) 1152921504606846976).bind fun r2610 =>
                if r2610 = true then
                  some (.inl ((aw .i64 (v2568 + 1)), ((v2575.set j2590 (aw .i64 (x2591 - x2581))).set j2593 (aw .i64 (x2594 + x2581)))))
                else
                  some (.inr (.inr ((v2575.set j2590 (aw .i64 (x2591 - x2581))).set j2593 (aw .i64 (x2594 + x2581)))))
              else
                some (.inr (.inr ((v2575.set j2590 (aw .i64 (x2591 - x2581))).set j2593 (aw .i64 (x2594 + x2581)))))
            else
              some (.inr (.inr (v2575)))
          else
            bind2 (geti v2575 x2578.fFrom) fun j2612 x2613 =>
            bind2 (geti v2575 x2578.fTo) fun j2615 x2616 =>
            ((v2575.set j2612 (aw .i64 (x2613 - x2581)))[j2615]?).bind fun x2618 =>
            bind2 (geti v2574 x2578.fFrom) fun j2620 x2621 =>
            (F20_0 x2621 (-1152921504606846976) 1152921504606846976).bind fun r2625 =>
            if r2625 = true then
              bind2 (geti v2574 x2578.fTo) fun j2627 x2628 =>
              (F20_0 x2628 (-1152921504606846976) 1152921504606846976).bind fun r2632 =>
              if r2632 = true then
                (F41_0 x2581).bind fun r2636 =>
                if (aw .i64 (x2621 - x2628)) = (aw .i64 ((aw .i64 (x2578.fResist * x2581)) * r2636)) then
                  some (.inl ((aw .i64 (v2568 + 1)), ((v2575.set j2612 (aw .i64 (x2613 - x2581))).set j2615 (aw .i64 (x2616 + x2581)))))
                else
                  some (.inr (.inr ((v2575.set j2612 (aw .i64 (x2613 - x2581))).set j2615 (aw .i64 (x2616 + x2581)))))
              else
                some (.inr (.inr ((v2575.set j2612 (aw .i64 (x2613 - x2581))).set j2615 (aw .i64 (x2616 + x2581)))))
            else
              some (.inr (.inr ((v2575.set j2612 (aw .i64 (x2613 - x2581))).set j2615 (aw .i64 (x2616 + x2581)))))
        else
        if x2581 = 0 then
          if v2568 = v2566 then
            if x2581 = v2567 then
              bind2 (geti v2575 x2578.fFrom) fun j2641 x2642 =>
              bind2 (geti v2575 x2578.fTo) fun j2644 x2645 =>
              ((v2575.set j2641 (aw .i64 (x2642 - x2581)))[j2644]?).bind fun x2647 =>
              bind2 (geti v2574 x2578.fFrom) fun j2649 x2650 =>
              (F20_0 x2650 (-1152921504606846976) 1152921504606846976).bind fun r2654 =>
              if r2654 = true then
                bind2 (geti v2574 x2578.fTo) fun j2656 x2657 =>
                (F20_0 x2657 (-1152921504606846976) 1152921504606846976).bind fun r2661 =>
                if r2661 = true then
                  some (.inl ((aw .i64 (v2568 + 1)), ((v2575.set j2641 (aw .i64 (x2642 - x2581))).set j2644 (aw .i64 (x2645 + x2581)))))
                else
                  some (.inr (.inr ((v2575.set j2641 (aw .i64 (x2642 - x2581))).set j2644 (aw .i64 (x2645 + x2581)))))
              else
                some (.inr (.inr ((v2575.set j2641 (aw .i64 (x2642 - x2581))).set j2644 (aw .i64 (x2645 + x2581)))))
            else
              some (.inr (.inr (v2575)))
          else
            bind2 (geti v2575 x2578.fFrom) fun j2663 x2664 =>
            bind2 (geti v2575 x2578.fTo) fun j2666 x2667 =>
            ((v2575.set j2663 (aw .i64 (x2664 - x2581)))[j2666]?).bind fun x2669 =>
            bind2 (geti v2574 x2578.fFrom) fun j2671 x2672 =>
            (F20_0 x2672 (-1152921504606846976) 1152921504606846976).bind fun r2676 =>
            if r2676 = true then
              bind2 (geti v2574 x2578.fTo) fun j2678 x2679 =>
              (F20_0 x2679 (-1152921504606846976) 1152921504606846976).bind fun r2683 =>
              if r2683 = true then
                some (.inl ((aw .i64 (v2568 + 1)), ((v2575.set j2663 (aw .i64 (x2664 - x2581))).set j2666 (aw .i64 (x2667 + x2581)))))
              else
                some (.inr (.inr ((v2575.set j2663 (aw .i64 (x2664 - x2581))).set j2666 (aw .i64 (x2667 + x2581)))))
            else
              some (.inr (.inr ((v2575.set j2663 (aw .i64 (x2664 - x2581))).set j2666 (aw .i64 (x2667 + x2581)))))
        else
          some (.inr (.inr (v2575)))
      else
        some (.inr (.inr (v2575)))
noncomputable def L6l0_1 (v2566 : Int) (v2567 : Int) (v2569 : List WaterNode) (v2570 : List WaterConduit) (v2571 : Int) (v2572 : Int) (v2573 : List Int) (v2574 : List Int) (s : Int × (List Int)) : Option (((List Int)) ⊕ ((List Int))) := iter (S6l0_1 v2566 v2567 v2569 v2570 v2571 v2572 v2573 v2574) 1000000 s
noncomputable def S6l1_1 (v2690 : Int) (v2691 : Int) (v2693 : List WaterNode) (v2694 : List WaterConduit) (v2695 : Int) (v2696 : Int) (v2697 : List Int) (v2698 : List Int) (v2699 : List Int) : Int → Option ((Int) ⊕ ((Unit) ⊕ (Unit)))
  | v2692 =>
    if (v2693.length : Int) ≤ v2692 then
      some (.inr (.inl ()))
    else
      bind2 (geti v2693 v2692) fun j2701 x2702 =>
      if x2702.fLake = true then
        bind2 (geti v2698 v2692) fun j2705 x2706 =>
        if x2706 = (aw .i64 (1000 * x2702.fHead)) then
          some (.inl (aw .i64 (v2692 + 1)))
        else
          some (.inr (.inr ()))
      else
        bind2 (geti v2699 v2692) fun j2709 x2710 =>
        if x2710 = x2702.fDraw then
          some (.inl (aw .i64 (v2692 + 1)))
        else
          some (.inr (.inr ()))
noncomputable def L6l1_1 (v2690 : Int) (v2691 : Int) (v2693 : List WaterNode) (v2694 : List WaterConduit) (v2695 : Int) (v2696 : Int) (v2697 : List Int) (v2698 : List Int) (v2699 : List Int) (s : Int) : Option ((Unit) ⊕ (Unit)) := iter (S6l1_1 v2690 v2691 v2693 v2694 v2695 v2696 v2697 v2698 v2699) 1000000 s
-- guidevanelaw02.WaterKept
noncomputable def F6_0 (v1514 : Int) (v1515 : Int) (v1516 : List WaterNode) (v1517 : List WaterConduit) : Option (Bool) :=
  (F15_0 v1516 v1517).bind fun r1521 =>
  if r1521 = true then
    (F38_0 v1516 v1517).bind fun r1661 =>
    if r1661 = 0 then
      (F21_0 v1514).bind fun r1666 =>
      if r1666 = 0 then
        (F21_0 v1515).bind fun r1671 =>
        if r1671 = 0 then
          if v1514 ≤ v1515 then
            (F17_0 v1516 v1517).bind fun _ =>
            bind2 (F39_0 v1516 v1517) fun r1994 r1995 =>
            if r1995 = 0 then
              (F17_0 v1516 v1517).bind fun _ =>
              (F40_0 v1514 v1516 v1517).bind fun g2306_ => match g2306_ with
              | .inl (r2308, r2309) =>
                if (r2308.length : Int) = (v1517.length : Int) then
                  if (r2309.length : Int) = (v1516.length : Int) then
                    (inx (v1516.length : Int) 140737488355329).bind fun n2320 =>
                    room (n2320 * 8) (
                      (L6l0_0 r1994 v1514 v1516 v1517 v1514 v1515 r2308 r2309 (0, (List.replicate n2320 (0 : Int)))).bind fun g2444_ => match g2444_ with
                      | .inl (r2446) =>
                        (L6l1_0 r1994 v1514 v1516 v1517 v1514 v1515 r2308 r2309 r2446 0).bind fun g2470_ => match g2470_ with
                        | .inl () =>
                          if 0 ≤ r1994 then
                            (F17_0 v1516 v1517).bind fun _ =>
                            bind2 (F42_0 v1514 v1516 v1517) fun r2530 r2531 =>
                            (F17_0 v1516 v1517).bind fun _ =>
                            bind2 (F42_0 v1515 v1516 v1517) fun r2537 r2538 =>
                            if r2531 = 0 then
                              if r2538 = 0 then
                                if r2530 ≤ r2537 then
                                  (F20_0 r1994 0 (aw .i64 ((v1517.length : Int) - 1))).bind fun r2544 =>
                                  if r2544 = true then
                                    bind2 (geti v1517 r1994) fun j2546 x2547 =>
                                    (F41_0 v1514).bind fun r2551 =>
                                    bind2 (geti r2309 x2547.fFrom) fun j2552 x2553 =>
                                    bind2 (geti r2309 x2547.fTo) fun j2555 x2556 =>
                                    some (decide (r2530 = (aw .i64 ((aw .i64 ((aw .i64 (x2547.fResist * v1514)) * r2551)) - (aw .i64 (x2553 - x2556))))))
                                  else
                                    some false
                                else
                                  some false
                              else
                                some false
                            else
                              some false
                          else
                            some true
                        | .inr () =>
                          some false
                      | .inr (r2558) =>
                        some false
                    )
                  else
                    some false
                else
                  some false
              | .inr (r2559) =>
                if r2559 = 0 then
                  if 0 = (v1517.length : Int) then
                    if 0 = (v1516.length : Int) then
                      (inx (v1516.length : Int) 140737488355329).bind fun n2563 =>
                      room (n2563 * 8) (
                        (L6l0_1 r1994 v1514 v1516 v1517 v1514 v1515 ([] : List Int) ([] : List Int) (0, (List.replicate n2563 (0 : Int)))).bind fun g2687_ => match g2687_ with
                        | .inl (r2689) =>
                          (L6l1_1 r1994 v1514 v1516 v1517 v1514 v1515 ([] : List Int) ([] : List Int) r2689 0).bind fun g2713_ => match g2713_ with
                          | .inl () =>
                            if 0 ≤ r1994 then
                              (F17_0 v1516 v1517).bind fun _ =>
                              bind2 (F42_0 v1514 v1516 v1517) fun r2720 r2721 =>
                              (F17_0 v1516 v1517).bind fun _ =>
                              bind2 (F42_0 v1515 v1516 v1517) fun r2727 r2728 =>
                              if r2721 = 0 then
                                if r2728 = 0 then
                                  if r2720 ≤ r2727 then
                                    (F20_0 r1994 0 (aw .i64 ((v1517.length : Int) - 1))).bind fun r2734 =>
                                    if r2734 = true then
                                      bind2 (geti v1517 r1994) fun j2736 x2737 =>
                                      (F41_0 v1514).bind fun r2741 =>
                                      none
                                    else
                                      some false
                                  else
                                    some false
                                else
                                  some false
                              else
                                some false
                            else
                              some true
                          | .inr () =>
                            some false
                        | .inr (r2742) =>
                          some false
                      )
                    else
                      some false
                  else
                    some false
                else
                  some false
            else
              (F17_0 v1516 v1517).bind fun _ =>
              (F40_0 0 v1516 v1517).bind fun g2745_ => match g2745_ with
              | .inl (r2747, r2748) =>
                if r1995 = 12 then
                  if (r2747.length : Int) = (v1517.length : Int) then
                    if (r2748.length : Int) = (v1516.length : Int) then
                      (inx (v1516.length : Int) 140737488355329).bind fun n2760 =>
                      room (n2760 * 8) (
                        (L6l0_0 (-1) 0 v1516 v1517 v1514 v1515 r2747 r2748 (0, (List.replicate n2760 (0 : Int)))).bind fun g2763_ => match g2763_ with
                        | .inl (r2765) =>
                          (L6l1_0 (-1) 0 v1516 v1517 v1514 v1515 r2747 r2748 r2765 0).bind fun g2766_ => match g2766_ with
                          | .inl () =>
                            some true
                          | .inr () =>
                            some false
                        | .inr (r2769) =>
                          some false
                      )
                    else
                      some false
                  else
                    some false
                else
                  some false
              | .inr (r2770) =>
                if r1995 = 12 then
                  if r2770 = 0 then
                    if 0 = (v1517.length : Int) then
                      if 0 = (v1516.length : Int) then
                        (inx (v1516.length : Int) 140737488355329).bind fun n2775 =>
                        room (n2775 * 8) (
                          (L6l0_1 (-1) 0 v1516 v1517 v1514 v1515 ([] : List Int) ([] : List Int) (0, (List.replicate n2775 (0 : Int)))).bind fun g2778_ => match g2778_ with
                          | .inl (r2780) =>
                            (L6l1_1 (-1) 0 v1516 v1517 v1514 v1515 ([] : List Int) ([] : List Int) r2780 0).bind fun g2781_ => match g2781_ with
                            | .inl () =>
                              some true
                            | .inr () =>
                              some false
                          | .inr (r2784) =>
                            some false
                        )
                      else
                        some false
                    else
                      some false
                  else
                    some false
                else
                  some false
          else
            some true
        else
          some true
      else
        some true
    else
      some true
  else
    some true
end Go.AI
