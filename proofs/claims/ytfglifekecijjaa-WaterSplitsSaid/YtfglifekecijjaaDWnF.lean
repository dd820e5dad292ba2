/-
  What the functions compute.
-/
import Derived.Test.YtfglifekecijjaaDWnTy
set_option linter.unusedVariables false
set_option linter.unusedSimpArgs false
set_option maxRecDepth 100000
set_option maxHeartbeats 4000000
namespace Go.AI
noncomputable def S15l0_0 (v11 : List WaterNode) (v12 : List WaterConduit) : Int → Option ((Int) ⊕ ((Unit) ⊕ (Unit)))
  | v10 =>
    if (v11.length : Int) ≤ v10 then
      some (.inr (.inl ()))
    else
      bind2 (geti v11 v10) fun j14 x15 =>
      if (x15.fName.size : Int) ≤ 20 then
        some (.inl (aw .i64 (v10 + 1)))
      else
        some (.inr (.inr ()))
noncomputable def L15l0_0 (v11 : List WaterNode) (v12 : List WaterConduit) (s : Int) : Option ((Unit) ⊕ (Unit)) := iter (S15l0_0 v11 v12) 1000000 s
noncomputable def S15l1_0 (v21 : List WaterNode) (v22 : List WaterConduit) : Int → Option ((Int) ⊕ ((Unit) ⊕ (Unit)))
  | v20 =>
    if (v22.length : Int) ≤ v20 then
      some (.inr (.inl ()))
    else
      bind2 (geti v22 v20) fun j24 x25 =>
      if (x25.fName.size : Int) ≤ 20 then
        some (.inl (aw .i64 (v20 + 1)))
      else
        some (.inr (.inr ()))
noncomputable def L15l1_0 (v21 : List WaterNode) (v22 : List WaterConduit) (s : Int) : Option ((Unit) ⊕ (Unit)) := iter (S15l1_0 v21 v22) 1000000 s
-- guidevanelaw02.Few
noncomputable def F15_0 (v6 : List WaterNode) (v7 : List WaterConduit) : Option (Bool) :=
  if (v6.length : Int) ≤ 12 then
    if (v7.length : Int) ≤ 16 then
      (L15l0_0 v6 v7 0).bind fun g18_ => match g18_ with
      | .inl () =>
        (L15l1_0 v6 v7 0).bind fun g28_ => match g28_ with
        | .inl () =>
          some true
        | .inr () =>
          some false
      | .inr () =>
        some false
    else
      some false
  else
    some false
-- guidevaneref02.Copy
noncomputable def F17_0 (v35 : List WaterNode) (v36 : List WaterConduit) : Option (Unit) :=
  room (v35.length * 40) (
    room (v36.length * 48) (
      some ()
    )
  )
-- water.unless
noncomputable def F72_0 (v45 : Bool) (v46 : Int) : Option (Int) :=
  if v45 = true then
    some 0
  else
    some v46
noncomputable def S71l0_0 (v56 : Int) (v58 : List Int) : Int → Option ((Int) ⊕ ((Unit) ⊕ (Int)))
  | v57 =>
    if v56 ≤ v57 then
      some (.inr (.inl ()))
    else
      bind2 (geti v58 v57) fun j60 x61 =>
      if x61 = 0 then
        some (.inl (aw .i64 (v57 + 1)))
      else
        some (.inr (.inr (x61)))
noncomputable def L71l0_0 (v56 : Int) (v58 : List Int) (s : Int) : Option ((Unit) ⊕ (Int)) := iter (S71l0_0 v56 v58) 1000000 s
-- water.first
noncomputable def F71_0 (v55 : List Int) : Option (Int) :=
  (L71l0_0 (v55.length : Int) v55 0).bind fun g65_ => match g65_ with
  | .inl () =>
    some 0
  | .inr (r67) =>
    some r67
-- water.within
noncomputable def F74_0 (v84 : Int) (v85 : Int) (v86 : Int) : Option (Bool) :=
  if v85 ≤ v84 then
    some (decide (v84 ≤ v86))
  else
    some false
-- water.isSized
noncomputable def F73_0 (v82 : Int) (v83 : Int) : Option (Bool) :=
  (F74_0 v82 (aw .i64 (0 - v83)) v83).bind fun r91 =>
  some r91
noncomputable def S75l0_0 (v102 : ByteArray) (v103 : Int) (v105 : List UInt8) : Int → Option ((Int) ⊕ ((Unit) ⊕ (Unit)))
  | v104 =>
    if v103 ≤ v104 then
      some (.inr (.inl ()))
    else
      bind2 (geti v105 v104) fun j107 x108 =>
      (F74_0 (aw .i64 (x108.toNat : Int)) 97 122).bind fun r112 =>
      if r112 = true then
        some (.inl (aw .i64 (v104 + 1)))
      else
        (F74_0 (aw .i64 (x108.toNat : Int)) 65 90).bind fun r116 =>
        if r116 = true then
          some (.inl (aw .i64 (v104 + 1)))
        else
        if v104 = 0 then
          some (.inr (.inr ()))
        else
        if (x108.toNat : Int) = 45 then
          some (.inl (aw .i64 (v104 + 1)))
        else
          (F74_0 (aw .i64 (x108.toNat : Int)) 48 57).bind fun r122 =>
          if r122 = true then
            some (.inl (aw .i64 (v104 + 1)))
          else
            some (.inr (.inr ()))
noncomputable def L75l0_0 (v102 : ByteArray) (v103 : Int) (v105 : List UInt8) (s : Int) : Option ((Unit) ⊕ (Unit)) := iter (S75l0_0 v102 v103 v105) 1000000 s
-- water.isName
noncomputable def F75_0 (v100 : ByteArray) : Option (Bool) :=
  roomS (v100.size) (
    (L75l0_0 v100 (v100.size : Int) (v100.data.toList) 0).bind fun g124_ => match g124_ with
    | .inl () =>
      (F74_0 (v100.size : Int) 1 12).bind fun r128 =>
      some r128
    | .inr () =>
      some false
  )
noncomputable def S16l0_0 (v73 : Int) (v75 : List WaterNode) (v76 : List WaterConduit) : (Int × (List (ByteArray × Bool))) → Option ((Int × (List (ByteArray × Bool))) ⊕ ((Unit) ⊕ (Int × Int)))
  | (v74, v77) =>
    if v73 ≤ v74 then
      some (.inr (.inl ()))
    else
      bind2 (geti v75 v74) fun j79 x80 =>
      (F73_0 x80.fDraw 10000).bind fun r95 =>
      if x80.fLake = true then
        (F74_0 x80.fHead 0 1000000).bind fun r99 =>
        (F75_0 x80.fName).bind fun r132 =>
        (F72_0 r132 4).bind fun r135 =>
        (F72_0 (!(getM x80.fName false v77)) 5).bind fun r138 =>
        (F72_0 r99 2).bind fun r141 =>
        (F72_0 (decide (x80.fDraw = 0)) 3).bind fun r144 =>
        (F71_0 ([r135, r138, r141, r144] : List Int)).bind fun r147 =>
        if r147 = 0 then
          some (.inl ((aw .i64 (v74 + 1)), (putM x80.fName true v77)))
        else
          some (.inr (.inr (v74, r147)))
      else
        (F75_0 x80.fName).bind fun r151 =>
        (F72_0 r151 4).bind fun r154 =>
        (F72_0 (!(getM x80.fName false v77)) 5).bind fun r157 =>
        (F72_0 r95 2).bind fun r160 =>
        (F72_0 (decide (x80.fHead = 0)) 3).bind fun r163 =>
        (F71_0 ([r154, r157, r160, r163] : List Int)).bind fun r166 =>
        if r166 = 0 then
          some (.inl ((aw .i64 (v74 + 1)), (putM x80.fName true v77)))
        else
          some (.inr (.inr (v74, r166)))
noncomputable def L16l0_0 (v73 : Int) (v75 : List WaterNode) (v76 : List WaterConduit) (s : Int × (List (ByteArray × Bool))) : Option ((Unit) ⊕ (Int × Int)) := iter (S16l0_0 v73 v75 v76) 1000000 s
-- water.CheckNet$1
noncomputable def F76_0 (v190 : Int) (v191 : List WaterNode) (v192 : List WaterConduit) : Option (Bool) :=
  (F74_0 v190 0 (aw .i64 ((v191.length : Int) - 1))).bind fun r195 =>
  some r195
noncomputable def S16l1_0 (v172 : Int) (v174 : List WaterNode) (v175 : List WaterConduit) : (Int × (List (ByteArray × Bool))) → Option ((Int × (List (ByteArray × Bool))) ⊕ ((Unit) ⊕ (Int × Int)))
  | (v173, v176) =>
    if v172 ≤ v173 then
      some (.inr (.inl ()))
    else
      bind2 (geti v175 v173) fun j178 x179 =>
      (F75_0 x179.fName).bind fun r183 =>
      (F72_0 r183 4).bind fun r186 =>
      (F72_0 (!(getM x179.fName false v176)) 5).bind fun r189 =>
      (F76_0 x179.fFrom v174 v175).bind fun r199 =>
      if r199 = true then
        (F76_0 x179.fTo v174 v175).bind fun r203 =>
        (F72_0 r203 6).bind fun r206 =>
        (F72_0 (!(decide (x179.fFrom = x179.fTo))) 13).bind fun r209 =>
        (F74_0 x179.fResist 0 1000).bind fun r212 =>
        (F72_0 r212 2).bind fun r215 =>
        if x179.fValve = true then
          (F72_0 true 3).bind fun r219 =>
          (F71_0 ([r186, r189, r206, r209, r215, r219] : List Int)).bind fun r222 =>
          if r222 = 0 then
            some (.inl ((aw .i64 (v173 + 1)), (putM x179.fName true v176)))
          else
            some (.inr (.inr (v173, r222)))
        else
          (F72_0 x179.fOpen 3).bind fun r226 =>
          (F71_0 ([r186, r189, r206, r209, r215, r226] : List Int)).bind fun r229 =>
          if r229 = 0 then
            some (.inl ((aw .i64 (v173 + 1)), (putM x179.fName true v176)))
          else
            some (.inr (.inr (v173, r229)))
      else
        (F72_0 false 6).bind fun r233 =>
        (F72_0 (!(decide (x179.fFrom = x179.fTo))) 13).bind fun r236 =>
        (F74_0 x179.fResist 0 1000).bind fun r239 =>
        (F72_0 r239 2).bind fun r242 =>
        if x179.fValve = true then
          (F72_0 true 3).bind fun r246 =>
          (F71_0 ([r186, r189, r233, r236, r242, r246] : List Int)).bind fun r249 =>
          if r249 = 0 then
            some (.inl ((aw .i64 (v173 + 1)), (putM x179.fName true v176)))
          else
            some (.inr (.inr (v173, r249)))
        else
          (F72_0 x179.fOpen 3).bind fun r253 =>
          (F71_0 ([r186, r189, r233, r236, r242, r253] : List Int)).bind fun r256 =>
          if r256 = 0 then
            some (.inl ((aw .i64 (v173 + 1)), (putM x179.fName true v176)))
          else
            some (.inr (.inr (v173, r256)))
noncomputable def L16l1_0 (v172 : Int) (v174 : List WaterNode) (v175 : List WaterConduit) (s : Int × (List (ByteArray × Bool))) : Option ((Unit) ⊕ (Int × Int)) := iter (S16l1_0 v172 v174 v175) 1000000 s
-- water.CheckNet
noncomputable def F16_0 (v41 : List WaterNode) (v42 : List WaterConduit) : Option (Int × Int) :=
  if (v41.length : Int) ≤ 0 then
    if (v41.length : Int) ≤ 10 then
      (F72_0 false 10).bind fun r51 =>
      (F72_0 (decide ((v42.length : Int) ≤ 14)) 8).bind fun r54 =>
      (F71_0 ([r51, r54] : List Int)).bind fun r71 =>
      if r71 = 0 then
        (L16l0_0 (v41.length : Int) v41 v42 (0, ([] : List (ByteArray × Bool)))).bind fun g170_ => match g170_ with
        | .inl () =>
          (L16l1_0 (v42.length : Int) v41 v42 (0, ([] : List (ByteArray × Bool)))).bind fun g260_ => match g260_ with
          | .inl () =>
            some (0, 0)
          | .inr (r262, r263) =>
            some (r262, r263)
        | .inr (r264, r265) =>
          some (r264, r265)
      else
        some (0, r71)
    else
      (F72_0 false 10).bind fun r268 =>
      (F72_0 false 8).bind fun r271 =>
      (F71_0 ([r268, r271] : List Int)).bind fun r274 =>
      if r274 = 0 then
        (L16l0_0 (v41.length : Int) v41 v42 (0, ([] : List (ByteArray × Bool)))).bind fun g276_ => match g276_ with
        | .inl () =>
          (L16l1_0 (v42.length : Int) v41 v42 (0, ([] : List (ByteArray × Bool)))).bind fun g278_ => match g278_ with
          | .inl () =>
            some (0, 0)
          | .inr (r280, r281) =>
            some (r280, r281)
        | .inr (r282, r283) =>
          some (r282, r283)
      else
        some (0, r274)
  else
  if (v41.length : Int) ≤ 10 then
    (F72_0 (!(decide ((v42.length : Int) ≤ 0))) 10).bind fun r287 =>
    (F72_0 (decide ((v42.length : Int) ≤ 14)) 8).bind fun r290 =>
    (F71_0 ([r287, r290] : List Int)).bind fun r293 =>
    if r293 = 0 then
      (L16l0_0 (v41.length : Int) v41 v42 (0, ([] : List (ByteArray × Bool)))).bind fun g295_ => match g295_ with
      | .inl () =>
        (L16l1_0 (v42.length : Int) v41 v42 (0, ([] : List (ByteArray × Bool)))).bind fun g297_ => match g297_ with
        | .inl () =>
          some (0, 0)
        | .inr (r299, r300) =>
          some (r299, r300)
      | .inr (r301, r302) =>
        some (r301, r302)
    else
      some (0, r293)
  else
    (F72_0 (!(decide ((v42.length : Int) ≤ 0))) 10).bind fun r305 =>
    (F72_0 false 8).bind fun r308 =>
    (F71_0 ([r305, r308] : List Int)).bind fun r311 =>
    if r311 = 0 then
      (L16l0_0 (v41.length : Int) v41 v42 (0, ([] : List (ByteArray × Bool)))).bind fun g313_ => match g313_ with
      | .inl () =>
        (L16l1_0 (v42.length : Int) v41 v42 (0, ([] : List (ByteArray × Bool)))).bind fun g315_ => match g315_ with
        | .inl () =>
          some (0, 0)
        | .inr (r317, r318) =>
          some (r317, r318)
      | .inr (r319, r320) =>
        some (r319, r320)
    else
      some (0, r311)
-- water.loss
noncomputable def F77_0 (v337 : Int) (v338 : Int) : Option (Int) :=
  some (aw .i64 ((aw .i64 (v337 * v338)) * (max v338 (aw .i64 (0 - v338)))))
-- water.LossOf
noncomputable def F18_0 (v327 : Int) (v328 : Int) : Option (Int × Int) :=
  (F74_0 v327 0 1000).bind fun r331 =>
  if r331 = true then
    (F73_0 v328 200000).bind fun r335 =>
    if r335 = true then
      (F77_0 v327 v328).bind fun r342 =>
      some (r342, 0)
    else
      some (0, 2)
  else
    some (0, 2)
noncomputable def S131l0_0 (v371 : ByteArray) : Int → Option ((Int) ⊕ ((Unit) ⊕ (Unit)))
  | v372 =>
    if (v371.size : Int) ≤ v372 then
      some (.inr (.inl ()))
    else
      bind2 (geti (v371.data.toList) v372) fun j374 b375 =>
      if 97 ≤ (b375.toNat : Int) then
        if (b375.toNat : Int) ≤ 122 then
          some (.inl (aw .i64 (v372 + 1)))
        else
        if 65 ≤ (b375.toNat : Int) then
          if (b375.toNat : Int) ≤ 90 then
            some (.inl (aw .i64 (v372 + 1)))
          else
          if v372 = 0 then
            some (.inr (.inr ()))
          else
          if (b375.toNat : Int) = 45 then
            some (.inl (aw .i64 (v372 + 1)))
          else
          if 48 ≤ (b375.toNat : Int) then
            if (b375.toNat : Int) ≤ 57 then
              some (.inl (aw .i64 (v372 + 1)))
            else
              some (.inr (.inr ()))
          else
            some (.inr (.inr ()))
        else
        if v372 = 0 then
          some (.inr (.inr ()))
        else
        if (b375.toNat : Int) = 45 then
          some (.inl (aw .i64 (v372 + 1)))
        else
        if 48 ≤ (b375.toNat : Int) then
          if (b375.toNat : Int) ≤ 57 then
            some (.inl (aw .i64 (v372 + 1)))
          else
            some (.inr (.inr ()))
        else
          some (.inr (.inr ()))
      else
      if 65 ≤ (b375.toNat : Int) then
        if (b375.toNat : Int) ≤ 90 then
          some (.inl (aw .i64 (v372 + 1)))
        else
        if v372 = 0 then
          some (.inr (.inr ()))
        else
        if (b375.toNat : Int) = 45 then
          some (.inl (aw .i64 (v372 + 1)))
        else
        if 48 ≤ (b375.toNat : Int) then
          if (b375.toNat : Int) ≤ 57 then
            some (.inl (aw .i64 (v372 + 1)))
          else
            some (.inr (.inr ()))
        else
          some (.inr (.inr ()))
      else
      if v372 = 0 then
        some (.inr (.inr ()))
      else
      if (b375.toNat : Int) = 45 then
        some (.inl (aw .i64 (v372 + 1)))
      else
      if 48 ≤ (b375.toNat : Int) then
        if (b375.toNat : Int) ≤ 57 then
          some (.inl (aw .i64 (v372 + 1)))
        else
          some (.inr (.inr ()))
      else
        some (.inr (.inr ()))
noncomputable def L131l0_0 (v371 : ByteArray) (s : Int) : Option ((Unit) ⊕ (Unit)) := iter (S131l0_0 v371) 1000000 s
-- guidevanebase.IsName
noncomputable def F131_0 (v368 : ByteArray) : Option (Bool) :=
  if 1 ≤ (v368.size : Int) then
    if (v368.size : Int) ≤ 12 then
      (L131l0_0 v368 0).bind fun g399_ => match g399_ with
      | .inl () =>
        some true
      | .inr () =>
        some false
    else
      some false
  else
    some false
noncomputable def S132l0_0 (v408 : ByteArray) (v410 : List ByteArray) : Int → Option ((Int) ⊕ ((Unit) ⊕ (Unit)))
  | v409 =>
    if (v410.length : Int) ≤ v409 then
      some (.inr (.inl ()))
    else
      bind2 (geti v410 v409) fun j412 x413 =>
      if x413 = v408 then
        some (.inr (.inr ()))
      else
        some (.inl (aw .i64 (v409 + 1)))
noncomputable def L132l0_0 (v408 : ByteArray) (v410 : List ByteArray) (s : Int) : Option ((Unit) ⊕ (Unit)) := iter (S132l0_0 v408 v410) 1000000 s
-- guidevanebase.HasText
noncomputable def F132_0 (v406 : ByteArray) (v407 : List ByteArray) : Option (Bool) :=
  (L132l0_0 v406 v407 0).bind fun g416_ => match g416_ with
  | .inl () =>
    some false
  | .inr () =>
    some true
-- guidevanebase.Within
noncomputable def F20_0 (v424 : Int) (v425 : Int) (v426 : Int) : Option (Bool) :=
  if v425 ≤ v424 then
    some (decide (v424 ≤ v426))
  else
    some false
-- guidevaneref02.nodeErr
noncomputable def F78_0 (v363 : ByteArray) (v364 : Bool) (v365 : Int) (v366 : Int) (v367 : List ByteArray) : Option (Int) :=
  (F131_0 v363).bind fun r404 =>
  if r404 = true then
    (F132_0 v363 v367).bind fun r421 =>
    if r421 = true then
      some 5
    else
    if v364 = true then
      (F20_0 v365 0 1000000).bind fun r431 =>
      if r431 = true then
        if v366 = 0 then
          some 0
        else
          some 3
      else
        some 2
    else
      (F20_0 v366 (-10000) 10000).bind fun r436 =>
      if r436 = true then
        if v365 = 0 then
          some 0
        else
          some 3
      else
        some 2
  else
    some 4
noncomputable def S19l0_0 (v356 : List WaterNode) (v357 : List WaterConduit) : (Int × (List ByteArray)) → Option ((Int × (List ByteArray)) ⊕ ((Unit) ⊕ (Int × Int)))
  | (v355, v358) =>
    if (v356.length : Int) ≤ v355 then
      some (.inr (.inl ()))
    else
      bind2 (geti v356 v355) fun j360 x361 =>
      (F78_0 x361.fName x361.fLake x361.fHead x361.fDraw v358).bind fun r442 =>
      if r442 = 0 then
        room ((v358.length + 1) * 16) (
          some (.inl ((aw .i64 (v355 + 1)), (v358 ++ [x361.fName])))
        )
      else
        some (.inr (.inr (v355, r442)))
noncomputable def L19l0_0 (v356 : List WaterNode) (v357 : List WaterConduit) (s : Int × (List ByteArray)) : Option ((Unit) ⊕ (Int × Int)) := iter (S19l0_0 v356 v357) 1000000 s
-- guidevaneref02.conduitErr
noncomputable def F79_0 (v457 : ByteArray) (v458 : Int) (v459 : Int) (v460 : Int) (v461 : Bool) (v462 : Bool) (v463 : List WaterNode) (v464 : List WaterConduit) (v465 : List ByteArray) : Option (Int) :=
  (F131_0 v457).bind fun r468 =>
  if r468 = true then
    (F132_0 v457 v465).bind fun r472 =>
    if r472 = true then
      some 5
    else
      (F20_0 v458 0 (aw .i64 ((v463.length : Int) - 1))).bind fun r476 =>
      if r476 = true then
        (F20_0 v459 0 (aw .i64 ((v463.length : Int) - 1))).bind fun r480 =>
        if r480 = true then
          if v458 = v459 then
            some 13
          else
            (F20_0 v460 0 1000).bind fun r485 =>
            if r485 = true then
              if v461 = true then
                some 0
              else
              if v462 = true then
                some 0
              else
                some 3
            else
              some 2
        else
          some 6
      else
        some 6
  else
    some 4
noncomputable def S19l1_0 (v450 : List WaterNode) (v451 : List WaterConduit) : (Int × (List ByteArray)) → Option ((Int × (List ByteArray)) ⊕ ((Unit) ⊕ (Int × Int)))
  | (v449, v452) =>
    if (v451.length : Int) ≤ v449 then
      some (.inr (.inl ()))
    else
      bind2 (geti v451 v449) fun j454 x455 =>
      (F79_0 x455.fName x455.fFrom x455.fTo x455.fResist x455.fValve x455.fOpen v450 v451 v452).bind fun r492 =>
      if r492 = 0 then
        room ((v452.length + 1) * 16) (
          some (.inl ((aw .i64 (v449 + 1)), (v452 ++ [x455.fName])))
        )
      else
        some (.inr (.inr (v449, r492)))
noncomputable def L19l1_0 (v450 : List WaterNode) (v451 : List WaterConduit) (s : Int × (List ByteArray)) : Option ((Unit) ⊕ (Int × Int)) := iter (S19l1_0 v450 v451) 1000000 s
-- guidevaneref02.CheckNet
noncomputable def F19_0 (v349 : List WaterNode) (v350 : List WaterConduit) : Option (Int × Int) :=
  if (v349.length : Int) = 0 then
    some (0, 10)
  else
  if (v350.length : Int) = 0 then
    some (0, 10)
  else
  if (v349.length : Int) ≤ 10 then
    if (v350.length : Int) ≤ 14 then
      (L19l0_0 v349 v350 (0, ([] : List ByteArray))).bind fun g447_ => match g447_ with
      | .inl () =>
        (L19l1_0 v349 v350 (0, ([] : List ByteArray))).bind fun g497_ => match g497_ with
        | .inl () =>
          some (0, 0)
        | .inr (r499, r500) =>
          some (r499, r500)
      | .inr (r501, r502) =>
        some (r501, r502)
    else
      some (0, 8)
  else
    some (0, 8)
-- guidevaneref02.FlowErr
noncomputable def F21_0 (v515 : Int) : Option (Int) :=
  (F20_0 v515 (-200000) 200000).bind fun r518 =>
  if r518 = true then
    some 0
  else
    some 2
-- guidevanebase.Size
noncomputable def F41_0 (v528 : Int) : Option (Int) :=
  some (max v528 (aw .i64 (0 - v528)))
-- guidevaneref02.Loss
noncomputable def F22_0 (v526 : Int) (v527 : Int) : Option (Int) :=
  (F41_0 v527).bind fun r532 =>
  some (aw .i64 ((aw .i64 (v526 * v527)) * r532))
-- guidevanelaw02.WaterNets
noncomputable def F3_0 (v1 : Int) (v2 : Int) (v3 : List WaterNode) (v4 : List WaterConduit) : Option (Bool) :=
  (F15_0 v3 v4).bind fun r33 =>
  if r33 = true then
    (F17_0 v3 v4).bind fun _ =>
    bind2 (F16_0 v3 v4) fun r325 r326 =>
    bind2 (F18_0 v1 v2) fun r347 r348 =>
    bind2 (F19_0 v3 v4) fun r507 r508 =>
    if r326 = r508 then
      if r325 = r507 then
        (F20_0 v1 0 1000).bind fun r513 =>
        if r513 = true then
          (F21_0 v2).bind fun r523 =>
          if r523 = 0 then
            if r348 = 0 then
              (F22_0 v1 v2).bind fun r536 =>
              some (decide (r347 = r536))
            else
              some false
          else
          if r348 = 2 then
            some (decide (r347 = 0))
          else
            some false
        else
        if r348 = 2 then
          some (decide (r347 = 0))
        else
          some false
      else
        some false
    else
      some false
  else
    some true
-- guidevaneref02.ResistErr
noncomputable def F44_0 (v554 : Int) : Option (Int) :=
  (F20_0 v554 1 1000).bind fun r557 =>
  if r557 = true then
    some 0
  else
    some 2
noncomputable def S23l0_0 (v549 : List Int) : Int → Option ((Int) ⊕ ((Unit) ⊕ (Int)))
  | v548 =>
    if (v549.length : Int) ≤ v548 then
      some (.inr (.inl ()))
    else
      bind2 (geti v549 v548) fun j551 x552 =>
      (F44_0 x552).bind fun r562 =>
      if r562 = 0 then
        some (.inl (aw .i64 (v548 + 1)))
      else
        some (.inr (.inr (r562)))
noncomputable def L23l0_0 (v549 : List Int) (s : Int) : Option ((Unit) ⊕ (Int)) := iter (S23l0_0 v549) 1000000 s
-- guidevaneref02.ResistsErr
noncomputable def F23_0 (v545 : List Int) : Option (Int) :=
  if (v545.length : Int) = 0 then
    some 10
  else
  if (v545.length : Int) ≤ 8 then
    (L23l0_0 v545 0).bind fun g565_ => match g565_ with
    | .inl () =>
      some 0
    | .inr (r567) =>
      some r567
  else
    some 8
-- guidevaneref02.DropErr
noncomputable def F24_0 (v574 : Int) : Option (Int) :=
  (F20_0 v574 0 1000000000).bind fun r577 =>
  if r577 = true then
    some 0
  else
    some 2
-- guidevanebase.CopyInts
noncomputable def F26_0 (v596 : List Int) : Option (Unit) :=
  room (v596.length * 8) (
    some ()
  )
-- water.resistsErr$1
noncomputable def F133_0 (v613 : Int) : Option (Bool) :=
  (F74_0 v613 1 1000).bind fun r616 =>
  some (!r616)
noncomputable def S149l0_0 (v606 : Int) (v608 : List Int) : Int → Option ((Int) ⊕ ((Unit) ⊕ (Int)))
  | v607 =>
    if v606 ≤ v607 then
      some (.inr (.inl ()))
    else
      bind2 (geti v608 v607) fun j610 x611 =>
      (F133_0 x611).bind fun r620 =>
      if r620 = true then
        some (.inr (.inr (v607)))
      else
        some (.inl (aw .i64 (v607 + 1)))
noncomputable def L149l0_0 (v606 : Int) (v608 : List Int) (s : Int) : Option ((Unit) ⊕ (Int)) := iter (S149l0_0 v606 v608) 1000000 s
-- slices.IndexFunc[[]int,int]
noncomputable def F149_0 (v605 : List Int) : Option (Int) :=
  (L149l0_0 (v605.length : Int) v605 0).bind fun g623_ => match g623_ with
  | .inl () =>
    some (-1)
  | .inr (r625) =>
    some r625
-- slices.ContainsFunc[[]int,int]
noncomputable def F119_0 (v604 : List Int) : Option (Bool) :=
  (F149_0 v604).bind fun r629 =>
  some (decide (0 ≤ r629))
-- water.resistsErr
noncomputable def F80_0 (v603 : List Int) : Option (Int) :=
  (F119_0 v603).bind fun r633 =>
  (F72_0 (!(decide ((v603.length : Int) ≤ 0))) 10).bind fun r636 =>
  (F72_0 (decide ((v603.length : Int) ≤ 8)) 8).bind fun r639 =>
  (F72_0 (!r633) 2).bind fun r642 =>
  (F71_0 ([r636, r639, r642] : List Int)).bind fun r645 =>
  some r645
-- water.dropErr
noncomputable def F81_0 (v650 : Int) : Option (Int) :=
  (F74_0 v650 0 1000000000).bind fun r653 =>
  (F72_0 r653 2).bind fun r656 =>
  some r656
-- water.through$1
noncomputable def F134_0 (v691 : Int) (v692 : Int) (v693 : Int) : Option (Bool) :=
  some (decide (v693 ≤ (aw .i64 ((aw .i64 (v692 * v691)) * v691))))
noncomputable def S84l0_0 (v687 : Int) (v688 : Int) : (Int × Int) → Option ((Int × Int) ⊕ (Int))
  | (v685, v686) =>
    if v686 ≤ v685 then
      some (.inr v685)
    else
      (F134_0 (aw .i64 (v685 + (aw .i64 (Int.tdiv (aw .i64 (v686 - v685)) 2)))) v687 v688).bind fun r697 =>
      if r697 = true then
        some (.inl (v685, (aw .i64 (v685 + (aw .i64 (Int.tdiv (aw .i64 (v686 - v685)) 2))))))
      else
        some (.inl ((aw .i64 ((aw .i64 (v685 + (aw .i64 (Int.tdiv (aw .i64 (v686 - v685)) 2)))) + 1)), v686))
noncomputable def L84l0_0 (v687 : Int) (v688 : Int) (s : Int × Int) : Option (Int) := iter (S84l0_0 v687 v688) 1000000 s
-- water.least
noncomputable def F84_0 (v681 : Int) (v682 : Int) (v683 : Int) (v684 : Int) : Option (Int) :=
  (L84l0_0 v683 v684 (v681, v682)).bind fun r702 =>
  some r702
-- water.through
noncomputable def F83_0 (v679 : Int) (v680 : Int) : Option (Int × Int) :=
  (F84_0 0 31623 v679 v680).bind fun r706 =>
  if (aw .i64 ((aw .i64 (v679 * r706)) * r706)) ≤ v680 then
    some (r706, r706)
  else
    some ((aw .i64 (r706 - 1)), r706)
noncomputable def S82l0_0 (v714 : Int) (v715 : Int) (v717 : List Int) : (Int × Int × Int) → Option ((Int × Int × Int) ⊕ (Int × Int))
  | (v716, v720, v721) =>
    if v715 ≤ v716 then
      some (.inr (v720, v721))
    else
      bind2 (geti v717 v716) fun j723 x724 =>
      bind2 (F83_0 x724 v714) fun r728 r729 =>
      some (.inl ((aw .i64 (v716 + 1)), (aw .i64 (v720 + r728)), (aw .i64 (v721 + r729))))
noncomputable def L82l0_0 (v714 : Int) (v715 : Int) (v717 : List Int) (s : Int × Int × Int) : Option (Int × Int) := iter (S82l0_0 v714 v715 v717) 1000000 s
-- water.parallel
noncomputable def F82_0 (v665 : Int) (v666 : List Int) : Option (Int × Int) :=
  bind2 (L82l0_0 v665 (v666.length : Int) v666 (0, 0, 0)) fun r734 r735 =>
  some (r734, r735)
-- water.ParallelOf
noncomputable def F25_0 (v601 : Int) (v602 : List Int) : Option (Int × Int × Int) :=
  (F80_0 v602).bind fun r649 =>
  (F81_0 v601).bind fun r660 =>
  (F71_0 ([r649, r660] : List Int)).bind fun r663 =>
  if r663 = 0 then
    bind2 (F82_0 v601 v602) fun r740 r741 =>
    some (r740, r741, 0)
  else
    some (0, 0, r663)
-- guidevanebase.CopyInts
noncomputable def F26_1 (v760 : Nat) (v761 : Nat) (v762 : List Int) : Option ((List Int)) :=
  (partL v762 0 v760).bind fun l764 =>
  room (v760 * 8) (
    some l764
  )
-- water.FlowThrough
noncomputable def F27_0 (v801 : Int) (v802 : Int) : Option (Int × Int × Int) :=
  (F80_0 ([v801] : List Int)).bind fun r805 =>
  (F81_0 v802).bind fun r808 =>
  (F71_0 ([r805, r808] : List Int)).bind fun r811 =>
  if r811 = 0 then
    bind2 (F83_0 v801 v802) fun r815 r816 =>
    some (r815, r816, 0)
  else
    some (0, 0, r811)
noncomputable def S4l0_0 (v791 : Int) (v793 : List Int) (v794 : Int) (v795 : Int) : Int → Option ((Int) ⊕ ((Unit) ⊕ (Unit)))
  | v792 =>
    if (v793.length : Int) ≤ v792 then
      some (.inr (.inl ()))
    else
      bind2 (geti v793 v792) fun j797 x798 =>
      bind3 (F27_0 x798 v794) fun r822 r823 r824 =>
      if r824 = 0 then
        (F20_0 r822 0 r823).bind fun r828 =>
        if r828 = true then
          if r823 ≤ 40000 then
            if (aw .i64 ((aw .i64 (x798 * r822)) * r822)) ≤ v794 then
              if v794 ≤ (aw .i64 ((aw .i64 (x798 * r823)) * r823)) then
                some (.inl (aw .i64 (v792 + 1)))
              else
                some (.inr (.inr ()))
            else
              some (.inr (.inr ()))
          else
            some (.inr (.inr ()))
        else
          some (.inr (.inr ()))
      else
        some (.inr (.inr ()))
noncomputable def L4l0_0 (v791 : Int) (v793 : List Int) (v794 : Int) (v795 : Int) (s : Int) : Option ((Unit) ⊕ (Unit)) := iter (S4l0_0 v791 v793 v794 v795) 1000000 s
-- water.DropFor$1
noncomputable def F85_0 (v864 : Int) (v865 : List Int) (v866 : Int) : Option (Bool) :=
  bind2 (F82_0 v864 v865) fun r869 r870 =>
  some (decide (v866 ≤ r870))
noncomputable def S84l0_1 (v860 : List Int) (v861 : Int) : (Int × Int) → Option ((Int × Int) ⊕ (Int))
  | (v858, v859) =>
    if v859 ≤ v858 then
      some (.inr v858)
    else
      (F85_0 (aw .i64 (v858 + (aw .i64 (Int.tdiv (aw .i64 (v859 - v858)) 2)))) v860 v861).bind fun r874 =>
      if r874 = true then
        some (.inl (v858, (aw .i64 (v858 + (aw .i64 (Int.tdiv (aw .i64 (v859 - v858)) 2))))))
      else
        some (.inl ((aw .i64 ((aw .i64 (v858 + (aw .i64 (Int.tdiv (aw .i64 (v859 - v858)) 2)))) + 1)), v859))
noncomputable def L84l0_1 (v860 : List Int) (v861 : Int) (s : Int × Int) : Option (Int) := iter (S84l0_1 v860 v861) 1000000 s
-- water.least
noncomputable def F84_1 (v854 : Int) (v855 : Int) (v856 : List Int) (v857 : Int) : Option (Int) :=
  (L84l0_1 v856 v857 (v854, v855)).bind fun r879 =>
  some r879
-- water.DropFor$2
noncomputable def F86_0 (v894 : Int) (v895 : List Int) (v896 : Int) : Option (Bool) :=
  bind2 (F82_0 v894 v895) fun r899 r900 =>
  some (decide (v896 ≤ r899))
noncomputable def S84l0_2 (v890 : List Int) (v891 : Int) : (Int × Int) → Option ((Int × Int) ⊕ (Int))
  | (v888, v889) =>
    if v889 ≤ v888 then
      some (.inr v888)
    else
      (F86_0 (aw .i64 (v888 + (aw .i64 (Int.tdiv (aw .i64 (v889 - v888)) 2)))) v890 v891).bind fun r904 =>
      if r904 = true then
        some (.inl (v888, (aw .i64 (v888 + (aw .i64 (Int.tdiv (aw .i64 (v889 - v888)) 2))))))
      else
        some (.inl ((aw .i64 ((aw .i64 (v888 + (aw .i64 (Int.tdiv (aw .i64 (v889 - v888)) 2)))) + 1)), v889))
noncomputable def L84l0_2 (v890 : List Int) (v891 : Int) (s : Int × Int) : Option (Int) := iter (S84l0_2 v890 v891) 1000000 s
-- water.least
noncomputable def F84_2 (v884 : Int) (v885 : Int) (v886 : List Int) (v887 : Int) : Option (Int) :=
  (L84l0_2 v886 v887 (v884, v885)).bind fun r909 =>
  some r909
-- water.DropFor
noncomputable def F28_0 (v839 : Int) (v840 : List Int) : Option (Int × Int × Int) :=
  (F80_0 v840).bind fun r843 =>
  (F74_0 v839 0 10000).bind fun r846 =>
  (F72_0 r846 2).bind fun r849 =>
  (F71_0 ([r843, r849] : List Int)).bind fun r852 =>
  if r852 = 0 then
    (F84_1 0 1000000001 v840 v839).bind fun r883 =>
    (F84_2 r883 1000000001 v840 v839).bind fun r913 =>
    if r913 ≤ 1000000000 then
      some (r883, r913, 0)
    else
      some (0, 0, 12)
  else
    some (0, 0, r852)
-- guidevanelaw02.WaterMonotone
noncomputable def F4_0 (v540 : Int) (v541 : Int) (v542 : Int) (v543 : List Int) : Option (Bool) :=
  (F23_0 v543).bind fun r571 =>
  if r571 = 0 then
    (F24_0 v540).bind fun r582 =>
    if r582 = 0 then
      (F24_0 v541).bind fun r587 =>
      if r587 = 0 then
        if v540 ≤ v541 then
          (F20_0 v542 0 10000).bind fun r594 =>
          if r594 = true then
            (F26_0 v543).bind fun _ =>
            bind3 (F25_0 v540 v543) fun r747 r748 r749 =>
            (F26_0 v543).bind fun _ =>
            bind3 (F25_0 v541 v543) fun r755 r756 r757 =>
            (inx 1 (v543.length + 1)).bind fun j758 =>
            (F26_1 j758 v543.length v543).bind fun r769 =>
            bind3 (F25_0 v540 r769) fun r773 r774 r775 =>
            if r749 = 0 then
              if r757 = 0 then
                if r775 = 0 then
                  (F20_0 r747 0 r748).bind fun r781 =>
                  if r781 = true then
                    if r747 ≤ r755 then
                      if r748 ≤ r756 then
                        if r773 ≤ r747 then
                          if r774 ≤ r748 then
                            (F20_0 (aw .i64 (r748 - r747)) 0 (v543.length : Int)).bind fun r789 =>
                            if r789 = true then
                              (L4l0_0 v542 v543 v540 v541 0).bind fun g835_ => match g835_ with
                              | .inl () =>
                                (F26_0 v543).bind fun _ =>
                                bind3 (F28_0 v542 v543) fun r920 r921 r922 =>
                                if r922 = 0 then
                                  (F20_0 r920 0 r921).bind fun r926 =>
                                  if r926 = true then
                                    if r921 ≤ 1000000000 then
                                      (F26_0 v543).bind fun _ =>
                                      bind3 (F25_0 r920 v543) fun r933 r934 r935 =>
                                      (F26_0 v543).bind fun _ =>
                                      bind3 (F25_0 r921 v543) fun r940 r941 r942 =>
                                      if r935 = 0 then
                                        if r942 = 0 then
                                          if v542 ≤ r934 then
                                            some (decide (v542 ≤ r940))
                                          else
                                            some false
                                        else
                                          some false
                                      else
                                        some false
                                    else
                                      some false
                                  else
                                    some false
                                else
                                  some (decide (r922 = 12))
                              | .inr () =>
                                some false
                            else
                              some false
                          else
                            some false
                        else
                          some false
                      else
                        some false
                    else
                      some false
                  else
                    some false
                else
                  some false
              else
                some false
            else
              some false
          else
            some true
        else
          some true
      else
        some true
    else
      some true
  else
    some true
-- water.open
noncomputable def F87_0 (v961 : List WaterNode) (v962 : List WaterConduit) : Option (Int) :=
  bind2 (F16_0 v961 v962) fun r965 r966 =>
  some r966
-- water.net).nodeErr
noncomputable def F88_0 (v971 : Int) (v972 : List WaterNode) (v973 : List WaterConduit) : Option (Int) :=
  (F74_0 v971 0 (aw .i64 ((v972.length : Int) - 1))).bind fun r976 =>
  (F72_0 r976 6).bind fun r979 =>
  some r979
noncomputable def S90l0_0 (v994 : Int) (v996 : List WaterNode) (v997 : List WaterConduit) (v998 : List Int) : (Int × (List Bool)) → Option ((Int × (List Bool)) ⊕ ((List Bool)))
  | (v995, v999) =>
    if v994 ≤ v995 then
      some (.inr v999)
    else
      bind2 (geti v998 v995) fun j1001 x1002 =>
      bind2 (geti v999 x1002) fun j1004 x1005 =>
      some (.inl ((aw .i64 (v995 + 1)), (v999.set j1004 true)))
noncomputable def L90l0_0 (v994 : Int) (v996 : List WaterNode) (v997 : List WaterConduit) (v998 : List Int) (s : Int × (List Bool)) : Option ((List Bool)) := iter (S90l0_0 v994 v996 v997 v998) 1000000 s
-- water.net).isOpen
noncomputable def F91_0 (v1028 : Int) (v1029 : List WaterNode) (v1030 : List WaterConduit) : Option (Bool) :=
  bind2 (geti v1030 v1028) fun j1031 x1032 =>
  some x1032.fOpen
noncomputable def S90l1_0 (v1018 : Int) (v1020 : List WaterNode) (v1021 : List WaterConduit) (v1022 : List Int) : (Bool × Int × (List Bool)) → Option ((Bool × Int × (List Bool)) ⊕ (Bool × (List Bool)))
  | (v1017, v1019, v1023) =>
    if v1018 ≤ v1019 then
      some (.inr (v1017, v1023))
    else
      bind2 (geti v1021 v1019) fun j1025 x1026 =>
      (F91_0 v1019 v1020 v1021).bind fun r1037 =>
      if r1037 = true then
        bind2 (geti v1023 x1026.fFrom) fun j1039 x1040 =>
        bind2 (geti v1023 x1026.fTo) fun j1042 x1043 =>
        if (x1040 == x1043) = true then
          some (.inl (v1017, (aw .i64 (v1019 + 1)), v1023))
        else
          ((v1023.set j1039 true)[j1042]?).bind fun x1046 =>
          some (.inl (true, (aw .i64 (v1019 + 1)), ((v1023.set j1039 true).set j1042 true)))
      else
        some (.inl (v1017, (aw .i64 (v1019 + 1)), v1023))
noncomputable def L90l1_0 (v1018 : Int) (v1020 : List WaterNode) (v1021 : List WaterConduit) (v1022 : List Int) (s : Bool × Int × (List Bool)) : Option (Bool × (List Bool)) := iter (S90l1_0 v1018 v1020 v1021 v1022) 1000000 s
noncomputable def S90l2_0 (v1012 : List WaterNode) (v1013 : List WaterConduit) (v1014 : List Int) : (Bool × (List Bool)) → Option ((Bool × (List Bool)) ⊕ ((List Bool)))
  | (v1011, v1015) =>
    if v1011 = true then
      bind2 (L90l1_0 (v1013.length : Int) v1012 v1013 v1014 (false, 0, v1015)) fun r1052 r1053 =>
      some (.inl (r1052, r1053))
    else
      some (.inr v1015)
noncomputable def L90l2_0 (v1012 : List WaterNode) (v1013 : List WaterConduit) (v1014 : List Int) (s : Bool × (List Bool)) : Option ((List Bool)) := iter (S90l2_0 v1012 v1013 v1014) 1000000 s
-- water.net).reached
noncomputable def F90_0 (v988 : List WaterNode) (v989 : List WaterConduit) (v990 : List Int) : Option ((List Bool)) :=
  (inx (v988.length : Int) 140737488355329).bind fun n991 =>
  room (n991) (
    (L90l0_0 (v990.length : Int) v988 v989 v990 (0, (List.replicate n991 false))).bind fun r1010 =>
    (L90l2_0 v988 v989 v990 (true, r1010)).bind fun r1057 =>
    some r1057
  )
noncomputable def S89l0_0 (v1063 : Int) (v1065 : List Bool) : (Int × (List Int)) → Option ((Int × (List Int)) ⊕ ((List Int)))
  | (v1064, v1066) =>
    if v1063 ≤ v1064 then
      some (.inr v1066)
    else
      bind2 (geti v1065 v1064) fun j1068 x1069 =>
      if x1069 = true then
        room ((v1066.length + 1) * 8) (
          some (.inl ((aw .i64 (v1064 + 1)), (v1066 ++ [v1064])))
        )
      else
        some (.inl ((aw .i64 (v1064 + 1)), v1066))
noncomputable def L89l0_0 (v1063 : Int) (v1065 : List Bool) (s : Int × (List Int)) : Option ((List Int)) := iter (S89l0_0 v1063 v1065) 1000000 s
-- water.where
noncomputable def F89_0 (v1062 : List Bool) : Option ((List Int)) :=
  (L89l0_0 (v1062.length : Int) v1062 (0, ([] : List Int))).bind fun r1076 =>
  some r1076
-- water.ReachedFrom
noncomputable def F29_0 (v958 : Int) (v959 : List WaterNode) (v960 : List WaterConduit) : Option (Int × (List Int)) :=
  (F87_0 v959 v960).bind fun r970 =>
  (F88_0 v958 v959 v960).bind fun r983 =>
  (F71_0 ([r970, r983] : List Int)).bind fun r986 =>
  if r986 = 0 then
    (F90_0 v959 v960 ([v958] : List Int)).bind fun r1061 =>
    (F89_0 r1061).bind fun r1080 =>
    some (0, r1080)
  else
    some (r986, ([] : List Int))
noncomputable def S135l0_0 (v1099 : Int) (v1101 : List WaterNode) (v1102 : List WaterConduit) : (Int × (List Int)) → Option ((Int × (List Int)) ⊕ ((List Int)))
  | (v1100, v1103) =>
    if v1099 ≤ v1100 then
      some (.inr v1103)
    else
      bind2 (geti v1101 v1100) fun j1105 x1106 =>
      if x1106.fLake = true then
        room ((v1103.length + 1) * 8) (
          some (.inl ((aw .i64 (v1100 + 1)), (v1103 ++ [v1100])))
        )
      else
        some (.inl ((aw .i64 (v1100 + 1)), v1103))
noncomputable def L135l0_0 (v1099 : Int) (v1101 : List WaterNode) (v1102 : List WaterConduit) (s : Int × (List Int)) : Option ((List Int)) := iter (S135l0_0 v1099 v1101 v1102) 1000000 s
-- water.net).lakes
noncomputable def F135_0 (v1097 : List WaterNode) (v1098 : List WaterConduit) : Option ((List Int)) :=
  (L135l0_0 (v1097.length : Int) v1097 v1098 (0, ([] : List Int))).bind fun r1113 =>
  some r1113
noncomputable def S92l0_0 (v1121 : Int) (v1123 : List WaterNode) (v1124 : List WaterConduit) (v1125 : List Bool) : (Int × (List Bool)) → Option ((Int × (List Bool)) ⊕ ((List Bool)))
  | (v1122, v1126) =>
    if v1121 ≤ v1122 then
      some (.inr v1126)
    else
      bind2 (geti v1124 v1122) fun j1128 x1129 =>
      bind2 (geti v1125 x1129.fTo) fun j1131 x1132 =>
      if x1132 = true then
        room ((v1126.length + 1)) (
          some (.inl ((aw .i64 (v1122 + 1)), (v1126 ++ [true])))
        )
      else
      if x1129.fOpen = true then
        bind2 (geti v1125 x1129.fFrom) fun j1137 x1138 =>
        room ((v1126.length + 1)) (
          some (.inl ((aw .i64 (v1122 + 1)), (v1126 ++ [x1138])))
        )
      else
        room ((v1126.length + 1)) (
          some (.inl ((aw .i64 (v1122 + 1)), (v1126 ++ [false])))
        )
noncomputable def L92l0_0 (v1121 : Int) (v1123 : List WaterNode) (v1124 : List WaterConduit) (v1125 : List Bool) (s : Int × (List Bool)) : Option ((List Bool)) := iter (S92l0_0 v1121 v1123 v1124 v1125) 1000000 s
-- water.net).wet
noncomputable def F92_0 (v1095 : List WaterNode) (v1096 : List WaterConduit) : Option ((List Bool)) :=
  (F135_0 v1095 v1096).bind fun r1117 =>
  (F90_0 v1095 v1096 r1117).bind fun r1120 =>
  (L92l0_0 (v1096.length : Int) v1095 v1096 r1120 (0, ([] : List Bool))).bind fun r1145 =>
  some r1145
-- water.WetIn
noncomputable def F30_0 (v1089 : List WaterNode) (v1090 : List WaterConduit) : Option (Int × (List Int)) :=
  (F87_0 v1089 v1090).bind fun r1093 =>
  if r1093 = 0 then
    (F92_0 v1089 v1090).bind fun r1149 =>
    (F89_0 r1149).bind fun r1152 =>
    some (0, r1152)
  else
    some (r1093, ([] : List Int))
-- api.WaterConduit]
noncomputable def F136_0 (v1185 : List WaterConduit) : Option (Unit) :=
  if v1185.length = 0 then
    none
  else
    room (v1185.length * 48) (
      some ()
    )
-- water.net).turned
noncomputable def F93_0 (v1181 : Int) (v1182 : Bool) (v1183 : List WaterNode) (v1184 : List WaterConduit) : Option ((List WaterConduit)) :=
  (F136_0 v1184).bind fun _ =>
  bind2 (geti v1184 v1181) fun j1190 x1191 =>
  some (v1184.set j1190 ({ x1191 with fOpen := v1182 } : WaterConduit))
noncomputable def S31l0_0 (v1206 : Int) (v1208 : List WaterNode) (v1209 : List WaterConduit) (v1210 : List Bool) : (Int × (List Bool)) → Option ((Int × (List Bool)) ⊕ ((List Bool)))
  | (v1207, v1211) =>
    if v1206 ≤ v1207 then
      some (.inr v1211)
    else
      bind2 (geti v1211 v1207) fun j1213 x1214 =>
      if x1214 = true then
        bind2 (geti v1210 v1207) fun j1217 x1218 =>
        some (.inl ((aw .i64 (v1207 + 1)), (v1211.set j1213 (!x1218))))
      else
        some (.inl ((aw .i64 (v1207 + 1)), (v1211.set j1213 false)))
noncomputable def L31l0_0 (v1206 : Int) (v1208 : List WaterNode) (v1209 : List WaterConduit) (v1210 : List Bool) (s : Int × (List Bool)) : Option ((List Bool)) := iter (S31l0_0 v1206 v1208 v1209 v1210) 1000000 s
-- water.FilledBy
noncomputable def F31_0 (v1161 : Int) (v1162 : List WaterNode) (v1163 : List WaterConduit) : Option (Int × (List Int)) :=
  (F87_0 v1162 v1163).bind fun r1166 =>
  (F74_0 v1161 0 (aw .i64 ((v1163.length : Int) - 1))).bind fun r1169 =>
  (F72_0 r1169 6).bind fun r1172 =>
  (F71_0 ([r1166, r1172] : List Int)).bind fun r1175 =>
  if r1175 = 0 then
    bind2 (geti v1163 v1161) fun j1177 x1178 =>
    if x1178.fValve = true then
      (F93_0 v1161 false v1162 v1163).bind fun r1196 =>
      (F92_0 v1162 r1196).bind fun r1199 =>
      (F93_0 v1161 true v1162 v1163).bind fun r1202 =>
      (F92_0 v1162 r1202).bind fun r1205 =>
      (L31l0_0 (r1205.length : Int) v1162 v1163 r1199 (0, r1205)).bind fun r1223 =>
      (F89_0 r1223).bind fun r1226 =>
      some (0, r1226)
    else
      some (12, ([] : List Int))
  else
    some (r1175, ([] : List Int))
-- guidevaneref02.NetErr
noncomputable def F32_0 (v1233 : List WaterNode) (v1234 : List WaterConduit) : Option (Int) :=
  bind2 (F19_0 v1233 v1234) fun r1237 r1238 =>
  some r1238
-- guidevaneref02.NodeErr
noncomputable def F33_0 (v1244 : Int) (v1245 : List WaterNode) (v1246 : List WaterConduit) : Option (Int) :=
  (F20_0 v1244 0 (aw .i64 ((v1245.length : Int) - 1))).bind fun r1249 =>
  if r1249 = true then
    some 0
  else
    some 6
noncomputable def S95l0_0 (v1276 : Int) (v1278 : List WaterNode) (v1279 : List WaterConduit) (v1280 : List Bool) : (Int × (List Bool)) → Option ((Int × (List Bool)) ⊕ ((List Bool)))
  | (v1277, v1281) =>
    if (v1279.length : Int) ≤ v1277 then
      some (.inr v1281)
    else
      bind2 (geti v1279 v1277) fun j1283 x1284 =>
      if x1284.fOpen = true then
        bind2 (geti v1281 x1284.fFrom) fun j1287 x1288 =>
        if x1288 = true then
          bind2 (geti (v1281.set j1287 true) x1284.fTo) fun j1291 x1292 =>
          some (.inl ((aw .i64 (v1277 + 1)), ((v1281.set j1287 true).set j1291 true)))
        else
          bind2 (geti v1281 x1284.fTo) fun j1294 x1295 =>
          if x1295 = true then
            ((v1281.set j1287 true)[j1294]?).bind fun x1298 =>
            some (.inl ((aw .i64 (v1277 + 1)), ((v1281.set j1287 true).set j1294 true)))
          else
            some (.inl ((aw .i64 (v1277 + 1)), v1281))
      else
        some (.inl ((aw .i64 (v1277 + 1)), v1281))
noncomputable def L95l0_0 (v1276 : Int) (v1278 : List WaterNode) (v1279 : List WaterConduit) (v1280 : List Bool) (s : Int × (List Bool)) : Option ((List Bool)) := iter (S95l0_0 v1276 v1278 v1279 v1280) 1000000 s
noncomputable def S95l1_0 (v1271 : List WaterNode) (v1272 : List WaterConduit) (v1273 : List Bool) : (Int × (List Bool)) → Option ((Int × (List Bool)) ⊕ ((List Bool)))
  | (v1270, v1274) =>
    if (v1271.length : Int) ≤ v1270 then
      some (.inr v1274)
    else
      (L95l0_0 v1270 v1271 v1272 v1273 (0, v1274)).bind fun r1303 =>
      some (.inl ((aw .i64 (v1270 + 1)), r1303))
noncomputable def L95l1_0 (v1271 : List WaterNode) (v1272 : List WaterConduit) (v1273 : List Bool) (s : Int × (List Bool)) : Option ((List Bool)) := iter (S95l1_0 v1271 v1272 v1273) 1000000 s
-- guidevaneref02.reach
noncomputable def F95_0 (v1266 : List WaterNode) (v1267 : List WaterConduit) (v1268 : List Bool) : Option ((List Bool)) :=
  room (v1268.length) (
    (L95l1_0 v1266 v1267 v1268 (0, v1268)).bind fun r1307 =>
    some r1307
  )
noncomputable def S94l0_0 (v1314 : List Bool) : (Int × (List Int)) → Option ((Int × (List Int)) ⊕ ((List Int)))
  | (v1313, v1315) =>
    if (v1314.length : Int) ≤ v1313 then
      some (.inr v1315)
    else
      bind2 (geti v1314 v1313) fun j1317 x1318 =>
      if x1318 = true then
        room ((v1315.length + 1) * 8) (
          some (.inl ((aw .i64 (v1313 + 1)), (v1315 ++ [v1313])))
        )
      else
        some (.inl ((aw .i64 (v1313 + 1)), v1315))
noncomputable def L94l0_0 (v1314 : List Bool) (s : Int × (List Int)) : Option ((List Int)) := iter (S94l0_0 v1314) 1000000 s
-- guidevaneref02.indexes
noncomputable def F94_0 (v1312 : List Bool) : Option ((List Int)) :=
  (L94l0_0 v1312 (0, ([] : List Int))).bind fun r1325 =>
  some r1325
-- guidevaneref02.Reached
noncomputable def F35_0 (v1257 : Int) (v1258 : List WaterNode) (v1259 : List WaterConduit) : Option ((List Int)) :=
  (inx (v1258.length : Int) 140737488355329).bind fun n1260 =>
  room (n1260) (
    bind2 (geti (List.replicate n1260 false) v1257) fun j1263 x1264 =>
    (F95_0 v1258 v1259 ((List.replicate n1260 false).set j1263 true)).bind fun r1311 =>
    (F94_0 r1311).bind fun r1329 =>
    some r1329
  )
noncomputable def S34l0_0 (v1338 : List Int) (v1339 : List Int) : Int → Option ((Int) ⊕ ((Unit) ⊕ (Unit)))
  | v1337 =>
    if (v1338.length : Int) ≤ v1337 then
      some (.inr (.inl ()))
    else
      bind2 (geti v1338 v1337) fun j1341 x1342 =>
      bind2 (geti v1339 v1337) fun j1344 x1345 =>
      if x1342 = x1345 then
        some (.inl (aw .i64 (v1337 + 1)))
      else
        some (.inr (.inr ()))
noncomputable def L34l0_0 (v1338 : List Int) (v1339 : List Int) (s : Int) : Option ((Unit) ⊕ (Unit)) := iter (S34l0_0 v1338 v1339) 1000000 s
-- guidevanebase.Ints
noncomputable def F34_0 (v1334 : List Int) (v1335 : List Int) : Option (Bool) :=
  if (v1334.length : Int) = (v1335.length : Int) then
    (L34l0_0 v1334 v1335 0).bind fun g1348_ => match g1348_ with
    | .inl () =>
      some true
    | .inr () =>
      some false
  else
    some false
noncomputable def S96l0_0 (v1364 : List WaterNode) (v1365 : List WaterConduit) : (Int × (List Bool)) → Option ((Int × (List Bool)) ⊕ ((List Bool)))
  | (v1363, v1366) =>
    if (v1364.length : Int) ≤ v1363 then
      some (.inr v1366)
    else
      bind2 (geti v1364 v1363) fun j1368 x1369 =>
      bind2 (geti v1366 v1363) fun j1371 x1372 =>
      some (.inl ((aw .i64 (v1363 + 1)), (v1366.set j1371 x1369.fLake)))
noncomputable def L96l0_0 (v1364 : List WaterNode) (v1365 : List WaterConduit) (s : Int × (List Bool)) : Option ((List Bool)) := iter (S96l0_0 v1364 v1365) 1000000 s
noncomputable def S96l1_0 (v1385 : List WaterNode) (v1386 : List WaterConduit) (v1387 : List Bool) : (Int × (List Bool)) → Option ((Int × (List Bool)) ⊕ ((List Bool)))
  | (v1384, v1388) =>
    if (v1386.length : Int) ≤ v1384 then
      some (.inr v1388)
    else
      bind2 (geti v1386 v1384) fun j1390 x1391 =>
      bind2 (geti v1387 x1391.fTo) fun j1393 x1394 =>
      if x1394 = true then
        bind2 (geti v1388 v1384) fun j1397 x1398 =>
        some (.inl ((aw .i64 (v1384 + 1)), (v1388.set j1397 true)))
      else
      if x1391.fOpen = true then
        bind2 (geti v1387 x1391.fFrom) fun j1401 x1402 =>
        bind2 (geti v1388 v1384) fun j1404 x1405 =>
        some (.inl ((aw .i64 (v1384 + 1)), (v1388.set j1404 x1402)))
      else
        bind2 (geti v1388 v1384) fun j1407 x1408 =>
        some (.inl ((aw .i64 (v1384 + 1)), (v1388.set j1407 false)))
noncomputable def L96l1_0 (v1385 : List WaterNode) (v1386 : List WaterConduit) (v1387 : List Bool) (s : Int × (List Bool)) : Option ((List Bool)) := iter (S96l1_0 v1385 v1386 v1387) 1000000 s
-- guidevaneref02.wet
noncomputable def F96_0 (v1358 : List WaterNode) (v1359 : List WaterConduit) : Option ((List Bool)) :=
  (inx (v1358.length : Int) 140737488355329).bind fun n1360 =>
  room (n1360) (
    (L96l0_0 v1358 v1359 (0, (List.replicate n1360 false))).bind fun r1377 =>
    (F95_0 v1358 v1359 r1377).bind fun r1380 =>
    (inx (v1359.length : Int) 140737488355329).bind fun n1381 =>
    room (n1381) (
      (L96l1_0 v1358 v1359 r1380 (0, (List.replicate n1381 false))).bind fun r1413 =>
      some r1413
    )
  )
-- guidevaneref02.Wet
noncomputable def F36_0 (v1356 : List WaterNode) (v1357 : List WaterConduit) : Option ((List Int)) :=
  (F96_0 v1356 v1357).bind fun r1417 =>
  (F94_0 r1417).bind fun r1420 =>
  some r1420
noncomputable def S37l0_0 (v1455 : List WaterNode) (v1456 : List WaterConduit) (v1458 : List Bool) : (Int × (List Bool)) → Option ((Int × (List Bool)) ⊕ ((List Bool)))
  | (v1454, v1457) =>
    if (v1457.length : Int) ≤ v1454 then
      some (.inr v1457)
    else
      bind2 (geti v1457 v1454) fun j1460 x1461 =>
      if x1461 = true then
        bind2 (geti v1458 v1454) fun j1464 x1465 =>
        some (.inl ((aw .i64 (v1454 + 1)), (v1457.set j1460 (!x1465))))
      else
        some (.inl ((aw .i64 (v1454 + 1)), (v1457.set j1460 false)))
noncomputable def L37l0_0 (v1455 : List WaterNode) (v1456 : List WaterConduit) (v1458 : List Bool) (s : Int × (List Bool)) : Option ((List Bool)) := iter (S37l0_0 v1455 v1456 v1458) 1000000 s
-- guidevaneref02.Filled
noncomputable def F37_0 (v1438 : Int) (v1439 : List WaterNode) (v1440 : List WaterConduit) : Option ((List Int)) :=
  (F17_0 v1439 v1440).bind fun _ =>
  (F17_0 v1439 v1440).bind fun _ =>
  bind2 (geti v1440 v1438) fun j1445 x1446 =>
  (F96_0 v1439 (v1440.set j1445 ({ x1446 with fOpen := true } : WaterConduit))).bind fun r1450 =>
  (F96_0 v1439 (v1440.set j1445 ({ x1446 with fOpen := false } : WaterConduit))).bind fun r1453 =>
  (L37l0_0 v1439 v1440 r1453 (0, r1450)).bind fun r1470 =>
  (F94_0 r1470).bind fun r1473 =>
  some r1473
-- guidevanelaw02.WaterReaches
noncomputable def F5_0 (v947 : Int) (v948 : Int) (v949 : List WaterNode) (v950 : List WaterConduit) : Option (Bool) :=
  (F15_0 v949 v950).bind fun r954 =>
  if r954 = true then
    (F17_0 v949 v950).bind fun _ =>
    bind2 (F29_0 v947 v949 v950) fun r1085 r1086 =>
    (F17_0 v949 v950).bind fun _ =>
    bind2 (F30_0 v949 v950) fun r1157 r1158 =>
    (F17_0 v949 v950).bind fun _ =>
    bind2 (F31_0 v948 v949 v950) fun r1231 r1232 =>
    (F32_0 v949 v950).bind fun r1242 =>
    if r1242 = 0 then
      (F33_0 v947 v949 v950).bind fun r1254 =>
      if r1254 = 0 then
        if r1085 = 0 then
          (F35_0 v947 v949 v950).bind fun r1333 =>
          (F34_0 r1086 r1333).bind fun r1353 =>
          if r1353 = true then
            if r1157 = 0 then
              (F36_0 v949 v950).bind fun r1424 =>
              (F34_0 r1158 r1424).bind fun r1427 =>
              if r1427 = true then
                (F20_0 v948 0 (aw .i64 ((v950.length : Int) - 1))).bind fun r1431 =>
                if r1431 = true then
                  bind2 (geti v950 v948) fun j1433 x1434 =>
                  if x1434.fValve = true then
                    if r1231 = 0 then
                      (F37_0 v948 v949 v950).bind fun r1477 =>
                      (F34_0 r1232 r1477).bind fun r1480 =>
                      some r1480
                    else
                      some false
                  else
                  if r1231 = 12 then
                    some (decide ((r1232.length : Int) = 0))
                  else
                    some false
                else
                if r1231 = 6 then
                  some (decide ((r1232.length : Int) = 0))
                else
                  some false
              else
                some false
            else
              some false
          else
            some false
        else
          some false
      else
      if r1085 = r1254 then
        if (r1086.length : Int) = 0 then
          if r1157 = 0 then
            (F36_0 v949 v950).bind fun r1488 =>
            (F34_0 r1158 r1488).bind fun r1491 =>
            if r1491 = true then
              (F20_0 v948 0 (aw .i64 ((v950.length : Int) - 1))).bind fun r1495 =>
              if r1495 = true then
                bind2 (geti v950 v948) fun j1497 x1498 =>
                if x1498.fValve = true then
                  if r1231 = 0 then
                    (F37_0 v948 v949 v950).bind fun r1504 =>
                    (F34_0 r1232 r1504).bind fun r1507 =>
                    some r1507
                  else
                    some false
                else
                if r1231 = 12 then
                  some (decide ((r1232.length : Int) = 0))
                else
                  some false
              else
              if r1231 = 6 then
                some (decide ((r1232.length : Int) = 0))
              else
                some false
            else
              some false
          else
            some false
        else
          some false
      else
        some false
    else
    if r1085 = r1242 then
      if r1157 = r1242 then
        if r1231 = r1242 then
          some (decide ((aw .i64 ((aw .i64 ((r1086.length : Int) + (r1158.length : Int))) + (r1232.length : Int))) = 0))
        else
          some false
      else
        some false
    else
      some false
  else
    some true
noncomputable def S137l0_0 (v1538 : List WaterNode) (v1539 : List WaterConduit) : (Int × Int × (List Bool)) → Option ((Int × Int × (List Bool)) ⊕ (Int × (List Bool)))
  | (v1536, v1537, v1540) =>
    if (v1538.length : Int) ≤ v1537 then
      some (.inr (v1536, v1540))
    else
      bind2 (geti v1538 v1537) fun j1542 x1543 =>
      bind2 (geti v1540 v1537) fun j1545 x1546 =>
      ((v1540.set j1545 x1543.fLake)[j1545]?).bind fun x1548 =>
      if x1548 = true then
        some (.inl (v1536, (aw .i64 (v1537 + 1)), (v1540.set j1545 x1543.fLake)))
      else
        some (.inl ((aw .i64 (v1536 + 1)), (aw .i64 (v1537 + 1)), (v1540.set j1545 x1543.fLake)))
noncomputable def L137l0_0 (v1538 : List WaterNode) (v1539 : List WaterConduit) (s : Int × Int × (List Bool)) : Option (Int × (List Bool)) := iter (S137l0_0 v1538 v1539) 1000000 s
noncomputable def S137l1_0 (v1565 : Int) (v1568 : List WaterNode) (v1569 : List WaterConduit) : (Bool × Int × (List Bool) × (List Int) × (List Int)) → Option ((Bool × Int × (List Bool) × (List Int) × (List Int)) ⊕ (Bool × (List Bool) × (List Int) × (List Int)))
  | (v1566, v1567, v1570, v1571, v1572) =>
    if (v1569.length : Int) ≤ v1567 then
      some (.inr (v1566, v1570, v1571, v1572))
    else
    if v1566 = true then
      some (.inr (v1566, v1570, v1571, v1572))
    else
      bind2 (geti v1569 v1567) fun j1575 x1576 =>
      if x1576.fOpen = true then
        bind2 (geti v1570 x1576.fFrom) fun j1579 x1580 =>
        bind2 (geti v1570 x1576.fTo) fun j1582 x1583 =>
        if (x1580 == x1583) = true then
          some (.inl (v1566, (aw .i64 (v1567 + 1)), v1570, v1571, v1572))
        else
        if x1583 = true then
          room ((v1571.length + 1) * 8) (
            room ((v1572.length + 1) * 8) (
              some (.inl (true, (aw .i64 (v1567 + 1)), (v1570.set j1579 true), (v1571 ++ [v1567]), (v1572 ++ [x1576.fFrom])))
            )
          )
        else
          room ((v1571.length + 1) * 8) (
            room ((v1572.length + 1) * 8) (
              some (.inl (true, (aw .i64 (v1567 + 1)), (v1570.set j1582 true), (v1571 ++ [v1567]), (v1572 ++ [x1576.fTo])))
            )
          )
      else
        some (.inl (v1566, (aw .i64 (v1567 + 1)), v1570, v1571, v1572))
noncomputable def L137l1_0 (v1565 : Int) (v1568 : List WaterNode) (v1569 : List WaterConduit) (s : Bool × Int × (List Bool) × (List Int) × (List Int)) : Option (Bool × (List Bool) × (List Int) × (List Int)) := iter (S137l1_0 v1565 v1568 v1569) 1000000 s
noncomputable def S137l2_0 (v1557 : Int) (v1559 : List WaterNode) (v1560 : List WaterConduit) : (Bool × (List Bool) × (List Int) × (List Int)) → Option ((Bool × (List Bool) × (List Int) × (List Int)) ⊕ ((List Int) × (List Int)))
  | (v1558, v1561, v1562, v1563) =>
    if v1558 = true then
      bind4 (L137l1_0 v1557 v1559 v1560 (false, 0, v1561, v1562, v1563)) fun r1599 r1600 r1601 r1602 =>
      some (.inl (r1599, r1600, r1601, r1602))
    else
      some (.inr (v1562, v1563))
noncomputable def L137l2_0 (v1557 : Int) (v1559 : List WaterNode) (v1560 : List WaterConduit) (s : Bool × (List Bool) × (List Int) × (List Int)) : Option ((List Int) × (List Int)) := iter (S137l2_0 v1557 v1559 v1560) 1000000 s
-- guidevaneref02.Tree
noncomputable def F137_0 (v1531 : List WaterNode) (v1532 : List WaterConduit) : Option (Bool × (List Int) × (List Int)) :=
  (inx (v1531.length : Int) 140737488355329).bind fun n1533 =>
  room (n1533) (
    bind2 (L137l0_0 v1531 v1532 (0, 0, (List.replicate n1533 false))) fun r1555 r1556 =>
    bind2 (L137l2_0 r1555 v1531 v1532 (true, r1556, ([] : List Int), ([] : List Int))) fun r1607 r1608 =>
    some ((decide ((r1608.length : Int) = r1555)), r1607, r1608)
  )
noncomputable def S68l0_0 (v1630 : Int) (v1632 : List Int) : Int → Option ((Int) ⊕ ((Unit) ⊕ (Unit)))
  | v1631 =>
    if (v1632.length : Int) ≤ v1631 then
      some (.inr (.inl ()))
    else
      bind2 (geti v1632 v1631) fun j1634 x1635 =>
      if x1635 = v1630 then
        some (.inr (.inr ()))
      else
        some (.inl (aw .i64 (v1631 + 1)))
noncomputable def L68l0_0 (v1630 : Int) (v1632 : List Int) (s : Int) : Option ((Unit) ⊕ (Unit)) := iter (S68l0_0 v1630 v1632) 1000000 s
-- guidevanebase.Has
noncomputable def F68_0 (v1628 : Int) (v1629 : List Int) : Option (Bool) :=
  (L68l0_0 v1628 v1629 0).bind fun g1638_ => match g1638_ with
  | .inl () =>
    some false
  | .inr () =>
    some true
noncomputable def S97l0_0 (v1620 : List WaterNode) (v1621 : List WaterConduit) (v1622 : List Int) : (Int × Int) → Option ((Int × Int) ⊕ ((Int) ⊕ (Int)))
  | (v1618, v1619) =>
    if (v1621.length : Int) ≤ v1619 then
      some (.inr (.inl (v1618)))
    else
      bind2 (geti v1621 v1619) fun j1624 x1625 =>
      if x1625.fOpen = true then
        (F68_0 v1619 v1622).bind fun r1643 =>
        if r1643 = true then
          some (.inl (v1618, (aw .i64 (v1619 + 1))))
        else
        if 0 ≤ v1618 then
          some (.inr (.inr (v1618)))
        else
          some (.inl (v1619, (aw .i64 (v1619 + 1))))
      else
        some (.inl (v1618, (aw .i64 (v1619 + 1))))
noncomputable def L97l0_0 (v1620 : List WaterNode) (v1621 : List WaterConduit) (v1622 : List Int) (s : Int × Int) : Option ((Int) ⊕ (Int)) := iter (S97l0_0 v1620 v1621 v1622) 1000000 s
-- guidevaneref02.Closing
noncomputable def F97_0 (v1529 : List WaterNode) (v1530 : List WaterConduit) : Option (Int × Int) :=
  bind3 (F137_0 v1529 v1530) fun r1614 r1615 r1616 =>
  if r1614 = true then
    (L97l0_0 v1529 v1530 r1615 ((-1), 0)).bind fun g1648_ => match g1648_ with
    | .inl (r1650) =>
      some (r1650, 0)
    | .inr (r1651) =>
      some ((-1), 8)
  else
    some ((-1), 14)
-- guidevaneref02.FormErr
noncomputable def F38_0 (v1523 : List WaterNode) (v1524 : List WaterConduit) : Option (Int) :=
  (F32_0 v1523 v1524).bind fun r1527 =>
  if r1527 = 0 then
    bind2 (F97_0 v1523 v1524) fun r1656 r1657 =>
    some r1657
  else
    some r1527
noncomputable def S151l0_0 (v1717 : Int) (v1719 : List WaterNode) (v1720 : List WaterConduit) (v1722 : List WaterNode) (v1723 : List WaterConduit) (v1724 : List Branch) (v1726 : List Branch) (v1728 : List Int) : (Int × (List Bool)) → Option ((Int × (List Bool)) ⊕ ((List Bool)))
  | (v1718, v1727) =>
    if v1717 ≤ v1718 then
      some (.inr v1727)
    else
      bind2 (geti v1728 v1718) fun j1730 x1731 =>
      bind2 (geti v1727 x1731) fun j1733 x1734 =>
      some (.inl ((aw .i64 (v1718 + 1)), (v1727.set j1733 true)))
noncomputable def L151l0_0 (v1717 : Int) (v1719 : List WaterNode) (v1720 : List WaterConduit) (v1722 : List WaterNode) (v1723 : List WaterConduit) (v1724 : List Branch) (v1726 : List Branch) (v1728 : List Int) (s : Int × (List Bool)) : Option ((List Bool)) := iter (S151l0_0 v1717 v1719 v1720 v1722 v1723 v1724 v1726 v1728) 1000000 s
-- water.net).grow$1
noncomputable def F159_0 (v1759 : ByteArray) (v1760 : Int) (v1761 : Int) (v1762 : Int) (v1763 : Bool) (v1764 : Bool) (v1765 : List Bool) : Option (Bool) :=
  if v1764 = true then
    bind2 (geti v1765 v1760) fun j1767 x1768 =>
    bind2 (geti v1765 v1761) fun j1770 x1771 =>
    some (!(x1768 == x1771))
  else
    some false
noncomputable def S158l0_0 (v1751 : Int) (v1753 : List WaterConduit) (v1754 : List Bool) : Int → Option ((Int) ⊕ ((Unit) ⊕ (Int)))
  | v1752 =>
    if v1751 ≤ v1752 then
      some (.inr (.inl ()))
    else
      bind2 (geti v1753 v1752) fun j1756 x1757 =>
      (F159_0 x1757.fName x1757.fFrom x1757.fTo x1757.fResist x1757.fValve x1757.fOpen v1754).bind fun r1776 =>
      if r1776 = true then
        some (.inr (.inr (v1752)))
      else
        some (.inl (aw .i64 (v1752 + 1)))
noncomputable def L158l0_0 (v1751 : Int) (v1753 : List WaterConduit) (v1754 : List Bool) (s : Int) : Option ((Unit) ⊕ (Int)) := iter (S158l0_0 v1751 v1753 v1754) 1000000 s
-- api.WaterConduit]
noncomputable def F158_0 (v1749 : List WaterConduit) (v1750 : List Bool) : Option (Int) :=
  (L158l0_0 (v1749.length : Int) v1749 v1750 0).bind fun g1779_ => match g1779_ with
  | .inl () =>
    some (-1)
  | .inr (r1781) =>
    some r1781
noncomputable def S162l0_0 (v1803 : Bool) (v1804 : Int) (v1806 : List Bool) : Int → Option ((Int) ⊕ ((Unit) ⊕ (Int)))
  | v1805 =>
    if v1804 ≤ v1805 then
      some (.inr (.inl ()))
    else
      bind2 (geti v1806 v1805) fun j1808 x1809 =>
      if (v1803 == x1809) = true then
        some (.inr (.inr (v1805)))
      else
        some (.inl (aw .i64 (v1805 + 1)))
noncomputable def L162l0_0 (v1803 : Bool) (v1804 : Int) (v1806 : List Bool) (s : Int) : Option ((Unit) ⊕ (Int)) := iter (S162l0_0 v1803 v1804 v1806) 1000000 s
-- slices.Index[[]bool,bool]
noncomputable def F162_0 (v1801 : Bool) (v1802 : List Bool) : Option (Int) :=
  (L162l0_0 v1801 (v1802.length : Int) v1802 0).bind fun g1813_ => match g1813_ with
  | .inl () =>
    some (-1)
  | .inr (r1815) =>
    some r1815
-- slices.Contains[[]bool,bool]
noncomputable def F160_0 (v1799 : Bool) (v1800 : List Bool) : Option (Bool) :=
  (F162_0 v1799 v1800).bind fun r1819 =>
  some (decide (0 ≤ r1819))
noncomputable def S151l1_0 (v1827 : List WaterNode) (v1828 : List WaterConduit) (v1830 : List WaterNode) (v1831 : List WaterConduit) (v1832 : List Branch) : ((List Branch) × (List Bool)) → Option (((List Branch) × (List Bool)) ⊕ (Int × (List Branch)))
  | (v1834, v1835) =>
    (F158_0 v1828 v1835).bind fun r1838 =>
    if 0 ≤ r1838 then
      bind2 (geti v1828 r1838) fun j1840 x1841 =>
      bind2 (geti v1835 x1841.fTo) fun j1843 x1844 =>
      if x1844 = true then
        bind2 (geti v1835 x1841.fFrom) fun j1847 x1848 =>
        room ((v1834.length + 1) * 16) (
          some (.inl ((v1834 ++ [(⟨r1838, x1841.fFrom⟩ : Branch)]), (v1835.set j1847 true)))
        )
      else
        room ((v1834.length + 1) * 16) (
          some (.inl ((v1834 ++ [(⟨r1838, x1841.fTo⟩ : Branch)]), (v1835.set j1843 true)))
        )
    else
      (F160_0 false v1835).bind fun r1854 =>
      (F72_0 (!r1854) 14).bind fun r1857 =>
      some (.inr (r1857, v1834))
noncomputable def L151l1_0 (v1827 : List WaterNode) (v1828 : List WaterConduit) (v1830 : List WaterNode) (v1831 : List WaterConduit) (v1832 : List Branch) (s : (List Branch) × (List Bool)) : Option (Int × (List Branch)) := iter (S151l1_0 v1827 v1828 v1830 v1831 v1832) 1000000 s
-- water.net).grow
noncomputable def F151_0 (v1690 : List WaterNode) (v1691 : List WaterConduit) : Option (Int × (List Branch)) :=
  (inx (v1690.length : Int) 140737488355329).bind fun n1692 =>
  room (n1692) (
    (F135_0 v1690 v1691).bind fun r1697 =>
    (L151l0_0 (r1697.length : Int) v1690 v1691 ([] : List WaterNode) ([] : List WaterConduit) ([] : List Branch) ([] : List Branch) r1697 (0, (List.replicate n1692 false))).bind fun r1739 =>
    bind2 (L151l1_0 v1690 v1691 ([] : List WaterNode) ([] : List WaterConduit) ([] : List Branch) (([] : List Branch), r1739)) fun r1862 r1863 =>
    some (r1862, r1863)
  )
-- water.net).closed$1
noncomputable def F153_0 (v1897 : Int) (v1898 : Int) (v1899 : Int) : Option (Bool) :=
  some (decide (v1897 = v1899))
noncomputable def S161l0_0 (v1889 : Int) (v1891 : List Branch) (v1892 : Int) : Int → Option ((Int) ⊕ ((Unit) ⊕ (Int)))
  | v1890 =>
    if v1889 ≤ v1890 then
      some (.inr (.inl ()))
    else
      bind2 (geti v1891 v1890) fun j1894 x1895 =>
      (F153_0 x1895.fconduit x1895.fnode v1892).bind fun r1903 =>
      if r1903 = true then
        some (.inr (.inr (v1890)))
      else
        some (.inl (aw .i64 (v1890 + 1)))
noncomputable def L161l0_0 (v1889 : Int) (v1891 : List Branch) (v1892 : Int) (s : Int) : Option ((Unit) ⊕ (Int)) := iter (S161l0_0 v1889 v1891 v1892) 1000000 s
-- water.branch]
noncomputable def F161_0 (v1887 : List Branch) (v1888 : Int) : Option (Int) :=
  (L161l0_0 (v1887.length : Int) v1887 v1888 0).bind fun g1906_ => match g1906_ with
  | .inl () =>
    some (-1)
  | .inr (r1908) =>
    some r1908
-- water.branch]
noncomputable def F152_0 (v1885 : List Branch) (v1886 : Int) : Option (Bool) :=
  (F161_0 v1885 v1886).bind fun r1912 =>
  some (decide (0 ≤ r1912))
noncomputable def S138l0_0 (v1920 : Int) (v1922 : List WaterNode) (v1923 : List WaterConduit) (v1925 : List WaterNode) (v1926 : List WaterConduit) (v1927 : List Branch) (v1929 : List Branch) : (Int × Int) → Option ((Int × Int) ⊕ ((Int) ⊕ (Int × Int)))
  | (v1921, v1928) =>
    if v1920 ≤ v1921 then
      some (.inr (.inl (v1928)))
    else
      bind2 (geti v1923 v1921) fun j1931 x1932 =>
      (F152_0 v1929 v1921).bind fun r1936 =>
      if x1932.fOpen = true then
        if r1936 = true then
          some (.inl ((aw .i64 (v1921 + 1)), v1928))
        else
        if 0 ≤ v1928 then
          some (.inr (.inr (v1928, v1928)))
        else
          some (.inl ((aw .i64 (v1921 + 1)), v1921))
      else
        some (.inl ((aw .i64 (v1921 + 1)), v1928))
noncomputable def L138l0_0 (v1920 : Int) (v1922 : List WaterNode) (v1923 : List WaterConduit) (v1925 : List WaterNode) (v1926 : List WaterConduit) (v1927 : List Branch) (v1929 : List Branch) (s : Int × Int) : Option ((Int) ⊕ (Int × Int)) := iter (S138l0_0 v1920 v1922 v1923 v1925 v1926 v1927 v1929) 1000000 s
-- water.net).closed
noncomputable def F138_0 (v1688 : List WaterNode) (v1689 : List WaterConduit) : Option (Int × Int × (List Branch)) :=
  bind2 (F151_0 v1688 v1689) fun r1868 r1869 =>
  if r1868 = 0 then
    (L138l0_0 (v1689.length : Int) v1688 v1689 ([] : List WaterNode) ([] : List WaterConduit) ([] : List Branch) r1869 (0, (-1))).bind fun g1943_ => match g1943_ with
    | .inl (r1945) =>
      some (r1945, 0, r1869)
    | .inr (r1946, r1947) =>
      some (r1946, 8, r1869)
  else
    some ((-1), r1868, r1869)
-- water.openTree
noncomputable def F99_0 (v1682 : List WaterNode) (v1683 : List WaterConduit) : Option ((Int × Int × (List Branch)) ⊕ (Int)) :=
  (F87_0 v1682 v1683).bind fun r1686 =>
  if r1686 = 0 then
    bind3 (F138_0 v1682 v1683) fun r1953 r1954 r1955 =>
    some (.inl (r1953, r1954, r1955))
  else
    some (.inr (r1686))
-- water.openClosing
noncomputable def F98_0 (v1680 : List WaterNode) (v1681 : List WaterConduit) : Option ((Int × Int × (List Branch)) ⊕ (Int)) :=
  (F99_0 v1680 v1681).bind fun g1960_ => match g1960_ with
  | .inl (r1962, r1963, r1964) =>
    (F72_0 (decide (0 ≤ r1962)) 12).bind fun r1967 =>
    (F71_0 ([r1963, r1967] : List Int)).bind fun r1970 =>
    some (.inl (r1962, r1970, r1964))
  | .inr (r1971) =>
    (F72_0 (decide ((0 : Int) ≤ 0)) 12).bind fun r1974 =>
    (F71_0 ([r1971, r1974] : List Int)).bind fun r1977 =>
    some (.inr (r1977))
-- water.ClosingOf
noncomputable def F39_0 (v1678 : List WaterNode) (v1679 : List WaterConduit) : Option (Int × Int) :=
  (F98_0 v1678 v1679).bind fun g1982_ => match g1982_ with
  | .inl (r1984, r1985, r1986) =>
    if r1985 = 0 then
      some (r1984, 0)
    else
      some (0, r1985)
  | .inr (r1988) =>
    if r1988 = 0 then
      some (0, 0)
    else
      some (0, r1988)
-- water.circulationErr
noncomputable def F100_0 (v2008 : Int) : Option (Int) :=
  (F73_0 v2008 200000).bind fun r2011 =>
  (F72_0 r2011 2).bind fun r2014 =>
  some r2014
noncomputable def S101l0_0 (v2040 : Int) (v2041 : Int) (v2043 : List WaterNode) (v2044 : List WaterConduit) (v2045 : List Branch) (v2046 : Int) (v2047 : List Int) (v2048 : List Int) (v2049 : List Int) : (Int × (List Int) × (List Int)) → Option ((Int × (List Int) × (List Int)) ⊕ ((List Int) × (List Int)))
  | (v2042, v2050, v2051) =>
    if v2041 ≤ v2042 then
      some (.inr (v2050, v2051))
    else
      bind2 (geti v2043 v2042) fun j2053 x2054 =>
      bind2 (geti v2051 v2042) fun j2056 x2057 =>
      bind2 (geti v2050 v2042) fun j2059 x2060 =>
      some (.inl ((aw .i64 (v2042 + 1)), (v2050.set j2059 (aw .i64 (1000 * x2054.fHead))), (v2051.set j2056 x2054.fDraw)))
noncomputable def L101l0_0 (v2040 : Int) (v2041 : Int) (v2043 : List WaterNode) (v2044 : List WaterConduit) (v2045 : List Branch) (v2046 : Int) (v2047 : List Int) (v2048 : List Int) (v2049 : List Int) (s : Int × (List Int) × (List Int)) : Option ((List Int) × (List Int)) := iter (S101l0_0 v2040 v2041 v2043 v2044 v2045 v2046 v2047 v2048 v2049) 1000000 s
-- water.branch]
noncomputable def F139_0 (v2081 : List Branch) : Option (Unit) :=
  some ()
-- water.tree).other
noncomputable def F140_0 (v2107 : Int) (v2108 : Int) (v2109 : Int) (v2110 : List WaterNode) (v2111 : List WaterConduit) (v2112 : List Branch) : Option (Int × Int) :=
  bind2 (geti v2111 v2108) fun j2113 x2114 =>
  if x2114.fTo = v2109 then
    some (x2114.fFrom, 1)
  else
    some (x2114.fTo, (-1))
noncomputable def S154l0_0 (v2175 : Int) (v2176 : List WaterNode) (v2177 : List WaterConduit) (v2178 : List Branch) (v2179 : List Int) (v2180 : List Int) (v2182 : List Int) : (Int × (List Int) × (List Int)) → Option ((Int × (List Int) × (List Int)) ⊕ ((List Int) × (List Int)))
  | (v2174, v2181, v2183) =>
    if 0 ≤ v2174 then
      bind2 (geti v2178 v2174) fun j2185 x2186 =>
      bind2 (F140_0 v2175 x2186.fconduit x2186.fnode v2176 v2177 v2178) fun r2190 r2191 =>
      bind2 (geti v2183 x2186.fnode) fun j2192 x2193 =>
      bind2 (geti v2181 x2186.fconduit) fun j2195 x2196 =>
      bind2 (geti v2183 r2190) fun j2198 x2199 =>
      some (.inl ((aw .i64 (v2174 - 1)), (v2181.set j2195 (aw .i64 (r2191 * x2193))), (v2183.set j2198 (aw .i64 (x2199 + x2193)))))
    else
      some (.inr (v2181, v2183))
noncomputable def L154l0_0 (v2175 : Int) (v2176 : List WaterNode) (v2177 : List WaterConduit) (v2178 : List Branch) (v2179 : List Int) (v2180 : List Int) (v2182 : List Int) (s : Int × (List Int) × (List Int)) : Option ((List Int) × (List Int)) := iter (S154l0_0 v2175 v2176 v2177 v2178 v2179 v2180 v2182) 1000000 s
-- water.branch]$1
noncomputable def F154_2 (v2165 : Int) (v2166 : List WaterNode) (v2167 : List WaterConduit) (v2168 : List Branch) (v2169 : List Int) (v2170 : List Int) (v2171 : List Int) (v2172 : List Int) (v2173 : List Int) : Option ((List Int) × (List Int)) :=
  bind2 (L154l0_0 v2165 v2166 v2167 v2168 v2169 v2170 v2172 ((aw .i64 ((v2168.length : Int) - 1)), v2171, v2173)) fun r2205 r2206 =>
  some (r2205, r2206)
noncomputable def S101l2_0 (v2213 : Int) (v2215 : List WaterNode) (v2216 : List WaterConduit) (v2217 : List Branch) (v2218 : Int) (v2219 : List Int) (v2220 : List Int) (v2221 : List Int) : (Int × (List Int)) → Option ((Int × (List Int)) ⊕ ((List Int)))
  | (v2214, v2222) =>
    if v2213 ≤ v2214 then
      some (.inr v2222)
    else
      bind2 (geti v2217 v2214) fun j2224 x2225 =>
      bind2 (F140_0 v2218 x2225.fconduit x2225.fnode v2215 v2216 v2217) fun r2229 r2230 =>
      bind2 (geti v2222 r2229) fun j2231 x2232 =>
      bind2 (geti v2216 x2225.fconduit) fun j2234 x2235 =>
      bind2 (geti v2221 x2225.fconduit) fun j2237 x2238 =>
      (F77_0 x2235.fResist (aw .i64 (r2230 * x2238))).bind fun r2242 =>
      bind2 (geti v2222 x2225.fnode) fun j2243 x2244 =>
      some (.inl ((aw .i64 (v2214 + 1)), (v2222.set j2243 (aw .i64 (x2232 - r2242)))))
noncomputable def L101l2_0 (v2213 : Int) (v2215 : List WaterNode) (v2216 : List WaterConduit) (v2217 : List Branch) (v2218 : Int) (v2219 : List Int) (v2220 : List Int) (v2221 : List Int) (s : Int × (List Int)) : Option ((List Int)) := iter (S101l2_0 v2213 v2215 v2216 v2217 v2218 v2219 v2220 v2221) 1000000 s
-- water.tree).state
noncomputable def F101_0 (v2027 : Int) (v2028 : Int) (v2029 : List WaterNode) (v2030 : List WaterConduit) (v2031 : List Branch) : Option ((List Int) × (List Int)) :=
  (inx (v2030.length : Int) 140737488355329).bind fun n2032 =>
  room (n2032 * 8) (
    (inx (v2029.length : Int) 140737488355329).bind fun n2035 =>
    room (n2035 * 8) (
      room (n2035 * 8) (
        bind2 (L101l0_0 v2028 (v2029.length : Int) v2029 v2030 v2031 v2027 ([] : List Int) ([] : List Int) (List.replicate n2032 (0 : Int)) (0, (List.replicate n2035 (0 : Int)), (List.replicate n2035 (0 : Int)))) fun r2066 r2067 =>
        if 0 ≤ v2027 then
          bind2 (geti v2030 v2027) fun j2069 x2070 =>
          bind2 (geti (List.replicate n2032 (0 : Int)) v2027) fun j2072 x2073 =>
          bind2 (geti r2067 x2070.fFrom) fun j2075 x2076 =>
          bind2 (geti (r2067.set j2075 (aw .i64 (x2076 + v2028))) x2070.fTo) fun j2078 x2079 =>
          (F139_0 v2031).bind fun _ =>
          bind2 (F154_2 v2027 v2029 v2030 v2031 ([] : List Int) ([] : List Int) ((List.replicate n2032 (0 : Int)).set j2072 v2028) r2066 ((r2067.set j2075 (aw .i64 (x2076 + v2028))).set j2078 (aw .i64 (x2079 - v2028)))) fun r2211 r2212 =>
          (L101l2_0 (v2031.length : Int) v2029 v2030 v2031 v2027 ([] : List Int) ([] : List Int) r2211 (0, r2066)).bind fun r2249 =>
          some (r2211, r2249)
        else
          (F139_0 v2031).bind fun _ =>
          bind2 (F154_2 v2027 v2029 v2030 v2031 ([] : List Int) ([] : List Int) (List.replicate n2032 (0 : Int)) r2066 r2067) fun r2254 r2255 =>
          (L101l2_0 (v2031.length : Int) v2029 v2030 v2031 v2027 ([] : List Int) ([] : List Int) r2254 (0, r2066)).bind fun r2258 =>
          some (r2254, r2258)
      )
    )
  )
-- water.StateAt
noncomputable def F40_0 (v2000 : Int) (v2001 : List WaterNode) (v2002 : List WaterConduit) : Option (((List Int) × (List Int)) ⊕ (Int)) :=
  (F99_0 v2001 v2002).bind fun g2003_ => match g2003_ with
  | .inl (r2005, r2006, r2007) =>
    (F100_0 v2000).bind fun r2018 =>
    if v2000 = 0 then
      (F72_0 true 3).bind fun r2022 =>
      (F71_0 ([r2006, r2018, r2022] : List Int)).bind fun r2025 =>
      if r2025 = 0 then
        bind2 (F101_0 r2005 v2000 v2001 v2002 r2007) fun r2263 r2264 =>
        some (.inl (r2263, r2264))
      else
        some (.inr (r2025))
    else
      (F72_0 (decide (0 ≤ r2005)) 3).bind fun r2267 =>
      (F71_0 ([r2006, r2018, r2267] : List Int)).bind fun r2270 =>
      if r2270 = 0 then
        bind2 (F101_0 r2005 v2000 v2001 v2002 r2007) fun r2274 r2275 =>
        some (.inl (r2274, r2275))
      else
        some (.inr (r2270))
  | .inr (r2276) =>
    (F100_0 v2000).bind fun r2279 =>
    if v2000 = 0 then
      (F72_0 true 3).bind fun r2283 =>
      (F71_0 ([r2276, r2279, r2283] : List Int)).bind fun r2286 =>
      if r2286 = 0 then
        bind2 (F101_0 0 v2000 ([] : List WaterNode) ([] : List WaterConduit) ([] : List Branch)) fun r2290 r2291 =>
        some (.inl (r2290, r2291))
      else
        some (.inr (r2286))
    else
      (F72_0 (decide ((0 : Int) ≤ 0)) 3).bind fun r2294 =>
      (F71_0 ([r2276, r2279, r2294] : List Int)).bind fun r2297 =>
      if r2297 = 0 then
        bind2 (F101_0 0 v2000 ([] : List WaterNode) ([] : List WaterConduit) ([] : List Branch)) fun r2301 r2302 =>
        some (.inl (r2301, r2302))
      else
        some (.inr (r2297))
noncomputable def S6l0_0 (v2323 : Int) (v2324 : Int) (v2326 : List WaterNode) (v2327 : List WaterConduit) (v2328 : Int) (v2329 : Int) (v2330 : List Int) (v2331 : List Int) : (Int × (List Int)) → Option ((Int × (List Int)) ⊕ (((List Int)) ⊕ ((List Int))))
  | (v2325, v2332) =>
    if (v2327.length : Int) ≤ v2325 then
      some (.inr (.inl (v2332)))
    else
      bind2 (geti v2327 v2325) fun j2334 x2335 =>
      bind2 (geti v2330 v2325) fun j2337 x2338 =>
      (F20_0 x2338 (-1000000) 1000000).bind fun r2342 =>
      if r2342 = true then
        if x2335.fOpen = true then
          if v2325 = v2323 then
            if x2338 = v2324 then
              bind2 (geti v2332 x2335.fFrom) fun j2347 x2348 =>
              bind2 (geti v2332 x2335.fTo) fun j2350 x2351 =>
              ((v2332.set j2347 (aw .i64 (x2348 - x2338)))[j2350]?).bind fun x2353 =>
              bind2 (geti v2331 x2335.fFrom) fun j2355 x2356 =>
              (F20_0 x2356 (-1152921504606846976) 1152921504606846976).bind fun r2360 =>
              if r2360 = true then
                bind2 (geti v2331 x2335.fTo) fun j2362 x2363 =>
                (F20_0 x2363 (-1152921504606846976) 1152921504606846976).bind fun r2367 =>
                if r2367 = true then
                  some (.inl ((aw .i64 (v2325 + 1)), ((v2332.set j2347 (aw .i64 (x2348 - x2338))).set j2350 (aw .i64 (x2351 + x2338)))))
                else
                  some (.inr (.inr ((v2332.set j2347 (aw .i64 (x2348 - x2338))).set j2350 (aw .i64 (x2351 + x2338)))))
              else
                some (.inr (.inr ((v2332.set j2347 (aw .i64 (x2348 - x2338))).set j2350 (aw .i64 (x2351 + x2338)))))
            else
              some (.inr (.inr (v2332)))
          else
            bind2 (geti v2332 x2335.fFrom) fun j2369 x2370 =>
            bind2 (geti v2332 x2335.fTo) fun j2372 x2373 =>
            ((v2332.set j2369 (aw .i64 (x2370 - x2338)))[j2372]?).bind fun x2375 =>
            bind2 (geti v2331 x2335.fFrom) fun j2377 x2378 =>
            (F20_0 x2378 (-1152921504606846976) 1152921504606846976).bind fun r2382 =>
            if r2382 = true then
              bind2 (geti v2331 x2335.fTo) fun j2384 x2385 =>
              (F20_0 x2385 (-1152921504606846976) 1152921504606846976).bind fun r2389 =>
              if r2389 = true then
                (F41_0 x2338).bind fun r2393 =>
                if (aw .i64 (x2378 - x2385)) = (aw .i64 ((aw .i64 (x2335.fResist * x2338)) * r2393)) then
                  some (.inl ((aw .i64 (v2325 + 1)), ((v2332.set j2369 (aw .i64 (x2370 - x2338))).set j2372 (aw .i64 (x2373 + x2338)))))
                else
                  some (.inr (.inr ((v2332.set j2369 (aw .i64 (x2370 - x2338))).set j2372 (aw .i64 (x2373 + x2338)))))
              else
                some (.inr (.inr ((v2332.set j2369 (aw .i64 (x2370 - x2338))).set j2372 (aw .i64 (x2373 + x2338)))))
            else
              some (.inr (.inr ((v2332.set j2369 (aw .i64 (x2370 - x2338))).set j2372 (aw .i64 (x2373 + x2338)))))
        else
        if x2338 = 0 then
          if v2325 = v2323 then
            if x2338 = v2324 then
              bind2 (geti v2332 x2335.fFrom) fun j2398 x2399 =>
              bind2 (geti v2332 x2335.fTo) fun j2401 x2402 =>
              ((v2332.set j2398 (aw .i64 (x2399 - x2338)))[j2401]?).bind fun x2404 =>
              bind2 (geti v2331 x2335.fFrom) fun j2406 x2407 =>
              (F20_0 x2407 (-1152921504606846976) 1152921504606846976).bind fun r2411 =>
              if r2411 = true then
                bind2 (geti v2331 x2335.fTo) fun j2413 x2414 =>
                (F20_0 x2414 (-1152921504606846976) 1152921504606846976).bind fun r2418 =>
                if r2418 = true then
                  some (.inl ((aw .i64 (v2325 + 1)), ((v2332.set j2398 (aw .i64 (x2399 - x2338))).set j2401 (aw .i64 (x2402 + x2338)))))
                else
                  some (.inr (.inr ((v2332.set j2398 (aw .i64 (x2399 - x2338))).set j2401 (aw .i64 (x2402 + x2338)))))
              else
                some (.inr (.inr ((v2332.set j2398 (aw .i64 (x2399 - x2338))).set j2401 (aw .i64 (x2402 + x2338)))))
            else
              some (.inr (.inr (v2332)))
          else
            bind2 (geti v2332 x2335.fFrom) fun j2420 x2421 =>
            bind2 (geti v2332 x2335.fTo) fun j2423 x2424 =>
            ((v2332.set j2420 (aw .i64 (x2421 - x2338)))[j2423]?).bind fun x2426 =>
            bind2 (geti v2331 x2335.fFrom) fun j2428 x2429 =>
            (F20_0 x2429 (-1152921504606846976) 1152921504606846976).bind fun r2433 =>
            if r2433 = true then
              bind2 (geti v2331 x2335.fTo) fun j2435 x2436 =>
              (F20_0 x2436 (-1152921504606846976) 1152921504606846976).bind fun r2440 =>
              if r2440 = true then
                some (.inl ((aw .i64 (v2325 + 1)), ((v2332.set j2420 (aw .i64 (x2421 - x2338))).set j2423 (aw .i64 (x2424 + x2338)))))
              else
                some (.inr (.inr ((v2332.set j2420 (aw .i64 (x2421 - x2338))).set j2423 (aw .i64 (x2424 + x2338)))))
            else
              some (.inr (.inr ((v2332.set j2420 (aw .i64 (x2421 - x2338))).set j2423 (aw .i64 (x2424 + x2338)))))
        else
          some (.inr (.inr (v2332)))
      else
        some (.inr (.inr (v2332)))
noncomputable def L6l0_0 (v2323 : Int) (v2324 : Int) (v2326 : List WaterNode) (v2327 : List WaterConduit) (v2328 : Int) (v2329 : Int) (v2330 : List Int) (v2331 : List Int) (s : Int × (List Int)) : Option (((List Int)) ⊕ ((List Int))) := iter (S6l0_0 v2323 v2324 v2326 v2327 v2328 v2329 v2330 v2331) 1000000 s
noncomputable def S6l1_0 (v2447 : Int) (v2448 : Int) (v2450 : List WaterNode) (v2451 : List WaterConduit) (v2452 : Int) (v2453 : Int) (v2454 : List Int) (v2455 : List Int) (v2456 : List Int) : Int → Option ((Int) ⊕ ((Unit) ⊕ (Unit)))
  | v2449 =>
    if (v2450.length : Int) ≤ v2449 then
      some (.inr (.inl ()))
    else
      bind2 (geti v2450 v2449) fun j2458 x2459 =>
      if x2459.fLake = true then
        bind2 (geti v2455 v2449) fun j2462 x2463 =>
        if x2463 = (aw .i64 (1000 * x2459.fHead)) then
          some (.inl (aw .i64 (v2449 + 1)))
        else
          some (.inr (.inr ()))
      else
        bind2 (geti v2456 v2449) fun j2466 x2467 =>
        if x2467 = x2459.fDraw then
          some (.inl (aw .i64 (v2449 + 1)))
        else
          some (.inr (.inr ()))
noncomputable def L6l1_0 (v2447 : Int) (v2448 : Int) (v2450 : List WaterNode) (v2451 : List WaterConduit) (v2452 : Int) (v2453 : Int) (v2454 : List Int) (v2455 : List Int) (v2456 : List Int) (s : Int) : Option ((Unit) ⊕ (Unit)) := iter (S6l1_0 v2447 v2448 v2450 v2451 v2452 v2453 v2454 v2455 v2456) 1000000 s
-- water.tree).gap
noncomputable def F102_0 (v2490 : Int) (v2491 : Int) (v2492 : List WaterNode) (v2493 : List WaterConduit) (v2494 : List Branch) : Option (Int) :=
  bind2 (geti v2493 v2490) fun j2495 x2496 =>
  bind2 (F101_0 v2490 v2491 v2492 v2493 v2494) fun r2500 r2501 =>
  (F77_0 x2496.fResist v2491).bind fun r2504 =>
  bind2 (geti r2501 x2496.fFrom) fun j2505 x2506 =>
  bind2 (geti r2501 x2496.fTo) fun j2508 x2509 =>
  some (aw .i64 (r2504 - (aw .i64 (x2506 - x2509))))
-- water.GapAt
noncomputable def F42_0 (v2475 : Int) (v2476 : List WaterNode) (v2477 : List WaterConduit) : Option (Int × Int) :=
  (F98_0 v2476 v2477).bind fun g2478_ => match g2478_ with
  | .inl (r2480, r2481, r2482) =>
    (F100_0 v2475).bind fun r2485 =>
    (F71_0 ([r2481, r2485] : List Int)).bind fun r2488 =>
    if r2488 = 0 then
      (F102_0 r2480 v2475 v2476 v2477 r2482).bind fun r2514 =>
      some (r2514, 0)
    else
      some (0, r2488)
  | .inr (r2515) =>
    (F100_0 v2475).bind fun r2518 =>
    (F71_0 ([r2515, r2518] : List Int)).bind fun r2521 =>
    if r2521 = 0 then
      (F102_0 0 v2475 ([] : List WaterNode) ([] : List WaterConduit) ([] : List Branch)).bind fun r2525 =>
      some (r2525, 0)
    else
      some (0, r2521)
noncomputable def S6l0_1 (v2566 : Int) (v2567 : Int) (v2569 : List WaterNode) (v2570 : List WaterConduit) (v2571 : Int) (v2572 : Int) (v2573 : List Int) (v2574 : List Int) : (Int × (List Int)) → Option ((Int × (List Int)) ⊕ (((List Int)) ⊕ ((List Int))))
  | (v2568, v2575) =>
    if (v2570.length : Int) ≤ v2568 then
      some (.inr (.inl (v2575)))
    else
      bind2 (geti v2570 v2568) fun j2577 x2578 =>
      bind2 (geti v2573 v2568) fun j2580 x2581 =>
      (F20_0 x2581 (-1000000) 1000000).bind fun r2585 =>
      if r2585 = true then
        if x2578.fOpen = true then
          if v2568 = v2566 then
            if x2581 = v2567 then
              bind2 (geti v2575 x2578.fFrom) fun j2590 x2591 =>
              bind2 (geti v2575 x2578.fTo) fun j2593 x2594 =>
              ((v2575.set j2590 (aw .i64 (x2591 - x2581)))[j2593]?).bind fun x2596 =>
              bind2 (geti v2574 x2578.fFrom) fun j2598 x2599 =>
              (F20_0 x2599 (-1152921504606846976) 1152921504606846976).bind fun r2603 =>
              if r2603 = true then
                bind2 (geti v2574 x2578.fTo) fun j2605 x2606 =>
                (F20_0 x2606 (-1152921504606846976) 1152921504606846976).bind fun r2610 =>
                if r2610 = true then
                  some (.inl ((aw .i64 (v2568 + 1)), ((v2575.set j2590 (aw .i64 (x2591 - x2581))).set j2593 (aw .i64 (x2594 + x2581)))))
                else
                  some (.inr (.inr ((v2575.set j2590 (aw .i64 (x2591 - x2581))).set j2593 (aw .i64 (x2594 + x2581)))))
              else
                some (.inr (.inr ((v2575.set j2590 (aw .i64 (x2591 - x2581))).set j2593 (aw .i64 (x2594 + x2581)))))
            else
              some (.inr (.inr (v2575)))
          else
            bind2 (geti v2575 x2578.fFrom) fun j2612 x2613 =>
            bind2 (geti v2575 x2578.fTo) fun j2615 x2616 =>
            ((v2575.set j2612 (aw .i64 (x2613 - x2581)))[j2615]?).bind fun x2618 =>
            bind2 (geti v2574 x2578.fFrom) fun j2620 x2621 =>
            (F20_0 x2621 (-1152921504606846976) 1152921504606846976).bind fun r2625 =>
            if r2625 = true then
              bind2 (geti v2574 x2578.fTo) fun j2627 x2628 =>
              (F20_0 x2628 (-1152921504606846976) 1152921504606846976).bind fun r2632 =>
              if r2632 = true then
                (F41_0 x2581).bind fun r2636 =>
                if (aw .i64 (x2621 - x2628)) = (aw .i64 ((aw .i64 (x2578.fResist * x2581)) * r2636)) then
                  some (.inl ((aw .i64 (v2568 + 1)), ((v2575.set j2612 (aw .i64 (x2613 - x2581))).set j2615 (aw .i64 (x2616 + x2581)))))
                else
                  some (.inr (.inr ((v2575.set j2612 (aw .i64 (x2613 - x2581))).set j2615 (aw .i64 (x2616 + x2581)))))
              else
                some (.inr (.inr ((v2575.set j2612 (aw .i64 (x2613 - x2581))).set j2615 (aw .i64 (x2616 + x2581)))))
            else
              some (.inr (.inr ((v2575.set j2612 (aw .i64 (x2613 - x2581))).set j2615 (aw .i64 (x2616 + x2581)))))
        else
        if x2581 = 0 then
          if v2568 = v2566 then
            if x2581 = v2567 then
              bind2 (geti v2575 x2578.fFrom) fun j2641 x2642 =>
              bind2 (geti v2575 x2578.fTo) fun j2644 x2645 =>
              ((v2575.set j2641 (aw .i64 (x2642 - x2581)))[j2644]?).bind fun x2647 =>
              bind2 (geti v2574 x2578.fFrom) fun j2649 x2650 =>
              (F20_0 x2650 (-1152921504606846976) 1152921504606846976).bind fun r2654 =>
              if r2654 = true then
                bind2 (geti v2574 x2578.fTo) fun j2656 x2657 =>
                (F20_0 x2657 (-1152921504606846976) 1152921504606846976).bind fun r2661 =>
                if r2661 = true then
                  some (.inl ((aw .i64 (v2568 + 1)), ((v2575.set j2641 (aw .i64 (x2642 - x2581))).set j2644 (aw .i64 (x2645 + x2581)))))
                else
                  some (.inr (.inr ((v2575.set j2641 (aw .i64 (x2642 - x2581))).set j2644 (aw .i64 (x2645 + x2581)))))
              else
                some (.inr (.inr ((v2575.set j2641 (aw .i64 (x2642 - x2581))).set j2644 (aw .i64 (x2645 + x2581)))))
            else
              some (.inr (.inr (v2575)))
          else
            bind2 (geti v2575 x2578.fFrom) fun j2663 x2664 =>
            bind2 (geti v2575 x2578.fTo) fun j2666 x2667 =>
            ((v2575.set j2663 (aw .i64 (x2664 - x2581)))[j2666]?).bind fun x2669 =>
            bind2 (geti v2574 x2578.fFrom) fun j2671 x2672 =>
            (F20_0 x2672 (-1152921504606846976) 1152921504606846976).bind fun r2676 =>
            if r2676 = true then
              bind2 (geti v2574 x2578.fTo) fun j2678 x2679 =>
              (F20_0 x2679 (-1152921504606846976) 1152921504606846976).bind fun r2683 =>
              if r2683 = true then
                some (.inl ((aw .i64 (v2568 + 1)), ((v2575.set j2663 (aw .i64 (x2664 - x2581))).set j2666 (aw .i64 (x2667 + x2581)))))
              else
                some (.inr (.inr ((v2575.set j2663 (aw .i64 (x2664 - x2581))).set j2666 (aw .i64 (x2667 + x2581)))))
            else
              some (.inr (.inr ((v2575.set j2663 (aw .i64 (x2664 - x2581))).set j2666 (aw .i64 (x2667 + x2581)))))
        else
          some (.inr (.inr (v2575)))
      else
        some (.inr (.inr (v2575)))
noncomputable def L6l0_1 (v2566 : Int) (v2567 : Int) (v2569 : List WaterNode) (v2570 : List WaterConduit) (v2571 : Int) (v2572 : Int) (v2573 : List Int) (v2574 : List Int) (s : Int × (List Int)) : Option (((List Int)) ⊕ ((List Int))) := iter (S6l0_1 v2566 v2567 v2569 v2570 v2571 v2572 v2573 v2574) 1000000 s
noncomputable def S6l1_1 (v2690 : Int) (v2691 : Int) (v2693 : List WaterNode) (v2694 : List WaterConduit) (v2695 : Int) (v2696 : Int) (v2697 : List Int) (v2698 : List Int) (v2699 : List Int) : Int → Option ((Int) ⊕ ((Unit) ⊕ (Unit)))
  | v2692 =>
    if (v2693.length : Int) ≤ v2692 then
      some (.inr (.inl ()))
    else
      bind2 (geti v2693 v2692) fun j2701 x2702 =>
      if x2702.fLake = true then
        bind2 (geti v2698 v2692) fun j2705 x2706 =>
        if x2706 = (aw .i64 (1000 * x2702.fHead)) then
          some (.inl (aw .i64 (v2692 + 1)))
        else
          some (.inr (.inr ()))
      else
        bind2 (geti v2699 v2692) fun j2709 x2710 =>
        if x2710 = x2702.fDraw then
          some (.inl (aw .i64 (v2692 + 1)))
        else
          some (.inr (.inr ()))
noncomputable def L6l1_1 (v2690 : Int) (v2691 : Int) (v2693 : List WaterNode) (v2694 : List WaterConduit) (v2695 : Int) (v2696 : Int) (v2697 : List Int) (v2698 : List Int) (v2699 : List Int) (s : Int) : Option ((Unit) ⊕ (Unit)) := iter (S6l1_1 v2690 v2691 v2693 v2694 v2695 v2696 v2697 v2698 v2699) 1000000 s
-- guidevanelaw02.WaterKept
noncomputable def F6_0 (v1514 : Int) (v1515 : Int) (v1516 : List WaterNode) (v1517 : List WaterConduit) : Option (Bool) :=
  (F15_0 v1516 v1517).bind fun r1521 =>
  if r1521 = true then
    (F38_0 v1516 v1517).bind fun r1661 =>
    if r1661 = 0 then
      (F21_0 v1514).bind fun r1666 =>
      if r1666 = 0 then
        (F21_0 v1515).bind fun r1671 =>
        if r1671 = 0 then
          if v1514 ≤ v1515 then
            (F17_0 v1516 v1517).bind fun _ =>
            bind2 (F39_0 v1516 v1517) fun r1994 r1995 =>
            if r1995 = 0 then
              (F17_0 v1516 v1517).bind fun _ =>
              (F40_0 v1514 v1516 v1517).bind fun g2306_ => match g2306_ with
              | .inl (r2308, r2309) =>
                if (r2308.length : Int) = (v1517.length : Int) then
                  if (r2309.length : Int) = (v1516.length : Int) then
                    (inx (v1516.length : Int) 140737488355329).bind fun n2320 =>
                    room (n2320 * 8) (
                      (L6l0_0 r1994 v1514 v1516 v1517 v1514 v1515 r2308 r2309 (0, (List.replicate n2320 (0 : Int)))).bind fun g2444_ => match g2444_ with
                      | .inl (r2446) =>
                        (L6l1_0 r1994 v1514 v1516 v1517 v1514 v1515 r2308 r2309 r2446 0).bind fun g2470_ => match g2470_ with
                        | .inl () =>
                          if 0 ≤ r1994 then
                            (F17_0 v1516 v1517).bind fun _ =>
                            bind2 (F42_0 v1514 v1516 v1517) fun r2530 r2531 =>
                            (F17_0 v1516 v1517).bind fun _ =>
                            bind2 (F42_0 v1515 v1516 v1517) fun r2537 r2538 =>
                            if r2531 = 0 then
                              if r2538 = 0 then
                                if r2530 ≤ r2537 then
                                  (F20_0 r1994 0 (aw .i64 ((v1517.length : Int) - 1))).bind fun r2544 =>
                                  if r2544 = true then
                                    bind2 (geti v1517 r1994) fun j2546 x2547 =>
                                    (F41_0 v1514).bind fun r2551 =>
                                    bind2 (geti r2309 x2547.fFrom) fun j2552 x2553 =>
                                    bind2 (geti r2309 x2547.fTo) fun j2555 x2556 =>
                                    some (decide (r2530 = (aw .i64 ((aw .i64 ((aw .i64 (x2547.fResist * v1514)) * r2551)) - (aw .i64 (x2553 - x2556))))))
                                  else
                                    some false
                                else
                                  some false
                              else
                                some false
                            else
                              some false
                          else
                            some true
                        | .inr () =>
                          some false
                      | .inr (r2558) =>
                        some false
                    )
                  else
                    some false
                else
                  some false
              | .inr (r2559) =>
                if r2559 = 0 then
                  if 0 = (v1517.length : Int) then
                    if 0 = (v1516.length : Int) then
                      (inx (v1516.length : Int) 140737488355329).bind fun n2563 =>
                      room (n2563 * 8) (
                        (L6l0_1 r1994 v1514 v1516 v1517 v1514 v1515 ([] : List Int) ([] : List Int) (0, (List.replicate n2563 (0 : Int)))).bind fun g2687_ => match g2687_ with
                        | .inl (r2689) =>
                          (L6l1_1 r1994 v1514 v1516 v1517 v1514 v1515 ([] : List Int) ([] : List Int) r2689 0).bind fun g2713_ => match g2713_ with
                          | .inl () =>
                            if 0 ≤ r1994 then
                              (F17_0 v1516 v1517).bind fun _ =>
                              bind2 (F42_0 v1514 v1516 v1517) fun r2720 r2721 =>
                              (F17_0 v1516 v1517).bind fun _ =>
                              bind2 (F42_0 v1515 v1516 v1517) fun r2727 r2728 =>
                              if r2721 = 0 then
                                if r2728 = 0 then
                                  if r2720 ≤ r2727 then
                                    (F20_0 r1994 0 (aw .i64 ((v1517.length : Int) - 1))).bind fun r2734 =>
                                    if r2734 = true then
                                      bind2 (geti v1517 r1994) fun j2736 x2737 =>
                                      (F41_0 v1514).bind fun r2741 =>
                                      none
                                    else
                                      some false
                                  else
                                    some false
                                else
                                  some false
                              else
                                some false
                            else
                              some true
                          | .inr () =>
                            some false
                        | .inr (r2742) =>
                          some false
                      )
                    else
                      some false
                  else
                    some false
                else
                  some false
            else
              (F17_0 v1516 v1517).bind fun _ =>
              (F40_0 0 v1516 v1517).bind fun g2745_ => match g2745_ with
              | .inl (r2747, r2748) =>
                if r1995 = 12 then
                  if (r2747.length : Int) = (v1517.length : Int) then
                    if (r2748.length : Int) = (v1516.length : Int) then
                      (inx (v1516.length : Int) 140737488355329).bind fun n2760 =>
                      room (n2760 * 8) (
                        (L6l0_0 (-1) 0 v1516 v1517 v1514 v1515 r2747 r2748 (0, (List.replicate n2760 (0 : Int)))).bind fun g2763_ => match g2763_ with
                        | .inl (r2765) =>
                          (L6l1_0 (-1) 0 v1516 v1517 v1514 v1515 r2747 r2748 r2765 0).bind fun g2766_ => match g2766_ with
                          | .inl () =>
                            some true
                          | .inr () =>
                            some false
                        | .inr (r2769) =>
                          some false
                      )
                    else
                      some false
                  else
                    some false
                else
                  some false
              | .inr (r2770) =>
                if r1995 = 12 then
                  if r2770 = 0 then
                    if 0 = (v1517.length : Int) then
                      if 0 = (v1516.length : Int) then
                        (inx (v1516.length : Int) 140737488355329).bind fun n2775 =>
                        room (n2775 * 8) (
                          (L6l0_1 (-1) 0 v1516 v1517 v1514 v1515 ([] : List Int) ([] : List Int) (0, (List.replicate n2775 (0 : Int)))).bind fun g2778_ => match g2778_ with
                          | .inl (r2780) =>
                            (L6l1_1 (-1) 0 v1516 v1517 v1514 v1515 ([] : List Int) ([] : List Int) r2780 0).bind fun g2781_ => match g2781_ with
                            | .inl () =>
                              some true
                            | .inr () =>
                              some false
                          | .inr (r2784) =>
                            some false
                        )
                      else
                        some false
                    else
                      some false
                  else
                    some false
                else
                  some false
          else
            some true
        else
          some true
      else
        some true
    else
      some true
  else
    some true
noncomputable def S43l0_0 (v2799 : Int) (v2801 : List Int) : (Int × Int) → Option ((Int × Int) ⊕ (Int))
  | (v2798, v2800) =>
    if v2799 ≤ v2800 then
      some (.inr v2798)
    else
      bind2 (geti v2801 v2800) fun j2803 x2804 =>
      some (.inl ((aw .i64 (v2798 + x2804)), (aw .i64 (v2800 + 1))))
noncomputable def L43l0_0 (v2799 : Int) (v2801 : List Int) (s : Int × Int) : Option (Int) := iter (S43l0_0 v2799 v2801) 1000000 s
-- water.SerialOf
noncomputable def F43_0 (v2793 : List Int) : Option (Int × Int) :=
  (F80_0 v2793).bind fun r2796 =>
  if r2796 = 0 then
    (L43l0_0 (v2793.length : Int) v2793 (0, 0)).bind fun r2809 =>
    some (r2809, 0)
  else
    some (0, r2796)
noncomputable def S103l0_0 (v2865 : Int) : (Int × Int) → Option ((Int × Int) ⊕ (Int))
  | (v2866, v2867) =>
    if v2867 ≤ 0 then
      some (.inr v2866)
    else
    if (aw .i64 ((aw .i64 (v2866 + v2867)) * (aw .i64 (v2866 + v2867)))) ≤ v2865 then
      some (.inl ((aw .i64 (v2866 + v2867)), (aw .i64 (Int.tdiv v2867 2))))
    else
      some (.inl (v2866, (aw .i64 (Int.tdiv v2867 2))))
noncomputable def L103l0_0 (v2865 : Int) (s : Int × Int) : Option (Int) := iter (S103l0_0 v2865) 1000000 s
-- guidevanebase.Root
noncomputable def F103_0 (v2864 : Int) : Option (Int) :=
  (L103l0_0 v2864 (0, 1073741824)).bind fun r2875 =>
  some r2875
-- guidevanebase.Floor
noncomputable def F113_0 (v2882 : Int) (v2883 : Int) : Option (Int) :=
  if v2883 = 0 then
    none
  else
    if 0 ≤ (Int.tmod v2882 v2883) then
      some (aw .i64 (Int.tdiv v2882 v2883))
    else
      some (aw .i64 ((aw .i64 (Int.tdiv v2882 v2883)) - 1))
-- guidevanebase.Ceil
noncomputable def F105_0 (v2880 : Int) (v2881 : Int) : Option (Int) :=
  (F113_0 (aw .i64 (0 - v2880)) v2881).bind fun r2891 =>
  some (aw .i64 (0 - r2891))
-- guidevanebase.RootUp
noncomputable def F104_0 (v2896 : Int) : Option (Int) :=
  (F103_0 v2896).bind fun r2899 =>
  if v2896 ≤ (aw .i64 (r2899 * r2899)) then
    some r2899
  else
    some (aw .i64 (r2899 + 1))
-- guidevaneref02.Through
noncomputable def F45_0 (v2860 : Int) (v2861 : Int) : Option (Int × Int) :=
  if v2860 = 0 then
    none
  else
    (F103_0 (aw .i64 (Int.tdiv v2861 v2860))).bind fun r2879 =>
    (F105_0 v2861 v2860).bind fun r2895 =>
    (F104_0 r2895).bind fun r2904 =>
    some (r2879, r2904)
noncomputable def S7l0_0 (v2830 : Int) (v2831 : Int) (v2832 : Int) (v2833 : Int) (v2834 : Int) (v2835 : Int) (v2837 : List Int) (v2838 : Int) (v2839 : Int) (v2840 : Int) (v2841 : Int) : Int → Option ((Int) ⊕ ((Unit) ⊕ (Unit)))
  | v2836 =>
    if (v2837.length : Int) ≤ v2836 then
      some (.inr (.inl ()))
    else
      bind2 (geti v2837 v2836) fun j2843 x2844 =>
      bind3 (F27_0 x2844 v2830) fun r2848 r2849 r2850 =>
      (F44_0 x2844).bind fun r2853 =>
      if r2853 = 0 then
        (F24_0 v2830).bind fun r2857 =>
        if r2857 = 0 then
          if r2850 = 0 then
            bind2 (F45_0 x2844 v2830) fun r2909 r2910 =>
            if r2848 = r2909 then
              if r2849 = r2910 then
                some (.inl (aw .i64 (v2836 + 1)))
              else
                some (.inr (.inr ()))
            else
              some (.inr (.inr ()))
          else
            some (.inr (.inr ()))
        else
        if r2850 = r2857 then
          if r2848 = 0 then
            if r2849 = 0 then
              some (.inl (aw .i64 (v2836 + 1)))
            else
              some (.inr (.inr ()))
          else
            some (.inr (.inr ()))
        else
          some (.inr (.inr ()))
      else
      if r2850 = r2853 then
        if r2848 = 0 then
          if r2849 = 0 then
            some (.inl (aw .i64 (v2836 + 1)))
          else
            some (.inr (.inr ()))
        else
          some (.inr (.inr ()))
      else
        some (.inr (.inr ()))
noncomputable def L7l0_0 (v2830 : Int) (v2831 : Int) (v2832 : Int) (v2833 : Int) (v2834 : Int) (v2835 : Int) (v2837 : List Int) (v2838 : Int) (v2839 : Int) (v2840 : Int) (v2841 : Int) (s : Int) : Option ((Unit) ⊕ (Unit)) := iter (S7l0_0 v2830 v2831 v2832 v2833 v2834 v2835 v2837 v2838 v2839 v2840 v2841) 1000000 s
noncomputable def S7l1_0 (v2925 : Int) (v2926 : Int) (v2927 : Int) (v2928 : Int) (v2929 : Int) (v2930 : Int) (v2933 : List Int) (v2934 : Int) (v2935 : Int) (v2936 : Int) (v2937 : Int) : (Int × Int) → Option ((Int × Int) ⊕ (Int))
  | (v2931, v2932) =>
    if (v2933.length : Int) ≤ v2932 then
      some (.inr v2931)
    else
      bind2 (geti v2933 v2932) fun j2939 x2940 =>
      some (.inl ((aw .i64 (v2931 + x2940)), (aw .i64 (v2932 + 1))))
noncomputable def L7l1_0 (v2925 : Int) (v2926 : Int) (v2927 : Int) (v2928 : Int) (v2929 : Int) (v2930 : Int) (v2933 : List Int) (v2934 : Int) (v2935 : Int) (v2936 : Int) (v2937 : Int) (s : Int × Int) : Option (Int) := iter (S7l1_0 v2925 v2926 v2927 v2928 v2929 v2930 v2933 v2934 v2935 v2936 v2937) 1000000 s
noncomputable def S46l0_0 (v2970 : Int) (v2972 : List Int) : (Int × Int × Int) → Option ((Int × Int × Int) ⊕ (Int × Int))
  | (v2971, v2975, v2976) =>
    if (v2972.length : Int) ≤ v2971 then
      some (.inr (v2975, v2976))
    else
      bind2 (geti v2972 v2971) fun j2978 x2979 =>
      bind2 (F45_0 x2979 v2970) fun r2983 r2984 =>
      some (.inl ((aw .i64 (v2971 + 1)), (aw .i64 (v2975 + r2983)), (aw .i64 (v2976 + r2984))))
noncomputable def L46l0_0 (v2970 : Int) (v2972 : List Int) (s : Int × Int × Int) : Option (Int × Int) := iter (S46l0_0 v2970 v2972) 1000000 s
-- guidevaneref02.Parallel
noncomputable def F46_0 (v2953 : Int) (v2954 : List Int) : Option (Int × Int) :=
  bind2 (L46l0_0 v2953 v2954 (0, 0, 0)) fun r2989 r2990 =>
  some (r2989, r2990)
noncomputable def S47l0_0 (v3025 : Int) (v3028 : List Int) : (Int × Int) → Option ((Int × Int) ⊕ (Int))
  | (v3026, v3027) =>
    if v3027 ≤ v3026 then
      some (.inr v3026)
    else
      bind2 (F46_0 (aw .i64 (Int.tdiv (aw .i64 (v3026 + v3027)) 2)) v3028) fun r3037 r3038 =>
      if v3025 ≤ r3038 then
        some (.inl (v3026, (aw .i64 (Int.tdiv (aw .i64 (v3026 + v3027)) 2))))
      else
        some (.inl ((aw .i64 ((aw .i64 (Int.tdiv (aw .i64 (v3026 + v3027)) 2)) + 1)), v3027))
noncomputable def L47l0_0 (v3025 : Int) (v3028 : List Int) (s : Int × Int) : Option (Int) := iter (S47l0_0 v3025 v3028) 1000000 s
noncomputable def S47l1_0 (v3059 : Int) (v3062 : List Int) (v3065 : Int) : (Int × Int) → Option ((Int × Int) ⊕ (Int))
  | (v3060, v3061) =>
    if v3061 ≤ v3060 then
      some (.inr v3060)
    else
      bind2 (F46_0 (aw .i64 (Int.tdiv (aw .i64 (v3060 + v3061)) 2)) v3062) fun r3071 r3072 =>
      if v3059 ≤ r3071 then
        some (.inl (v3060, (aw .i64 (Int.tdiv (aw .i64 (v3060 + v3061)) 2))))
      else
        some (.inl ((aw .i64 ((aw .i64 (Int.tdiv (aw .i64 (v3060 + v3061)) 2)) + 1)), v3061))
noncomputable def L47l1_0 (v3059 : Int) (v3062 : List Int) (v3065 : Int) (s : Int × Int) : Option (Int) := iter (S47l1_0 v3059 v3062 v3065) 1000000 s
-- guidevaneref02.Drop
noncomputable def F47_0 (v3003 : Int) (v3004 : List Int) : Option (Int × Int × Bool) :=
  bind2 (F46_0 1000000000 v3004) fun r3007 r3008 =>
  if v3003 ≤ r3007 then
    (L47l0_0 v3003 v3004 (0, 1000000000)).bind fun r3043 =>
    (L47l1_0 v3003 v3004 r3043 (0, 1000000000)).bind fun r3077 =>
    some (r3043, r3077, true)
  else
    some (0, 0, false)
-- guidevanelaw02.WaterSplits
noncomputable def F7_0 (v2786 : Int) (v2787 : Int) (v2788 : List Int) : Option (Bool) :=
  if (v2788.length : Int) ≤ 10 then
    (F26_0 v2788).bind fun _ =>
    bind2 (F43_0 v2788) fun r2814 r2815 =>
    (F26_0 v2788).bind fun _ =>
    bind3 (F25_0 v2786 v2788) fun r2820 r2821 r2822 =>
    (F26_0 v2788).bind fun _ =>
    bind3 (F28_0 v2787 v2788) fun r2827 r2828 r2829 =>
    (L7l0_0 v2786 v2787 r2814 r2815 r2822 r2829 v2788 r2820 r2821 r2827 r2828 0).bind fun g2919_ => match g2919_ with
    | .inl () =>
      (F23_0 v2788).bind fun r2923 =>
      if r2923 = 0 then
        (L7l1_0 v2786 v2787 r2814 r2815 r2822 r2829 v2788 r2820 r2821 r2827 r2828 (0, 0)).bind fun r2945 =>
        if r2815 = 0 then
          if r2814 = r2945 then
            (F24_0 v2786).bind fun r2950 =>
            if r2950 = 0 then
              if r2822 = 0 then
                bind2 (F46_0 v2786 v2788) fun r2995 r2996 =>
                if r2820 = r2995 then
                  if r2821 = r2996 then
                    (F20_0 v2787 0 10000).bind fun r3001 =>
                    if r3001 = true then
                      bind3 (F47_0 v2787 v2788) fun r3083 r3084 r3085 =>
                      if r3085 = true then
                        if r2829 = 0 then
                          if r2827 = r3083 then
                            if r2828 = r3084 then
                              some true
                            else
                              some false
                          else
                            some false
                        else
                          some false
                      else
                      if r2829 = 12 then
                        some ((decide (r2827 = 0)) && (decide (r2828 = 0)))
                      else
                        some false
                    else
                    if r2829 = 2 then
                      some ((decide (r2827 = 0)) && (decide (r2828 = 0)))
                    else
                      some false
                  else
                    some false
                else
                  some false
              else
                some false
            else
            if r2822 = r2950 then
              if r2820 = 0 then
                if r2821 = 0 then
                  (F20_0 v2787 0 10000).bind fun r3097 =>
                  if r3097 = true then
                    bind3 (F47_0 v2787 v2788) fun r3101 r3102 r3103 =>
                    if r3103 = true then
                      if r2829 = 0 then
                        if r2827 = r3101 then
                          if r2828 = r3102 then
                            some true
                          else
                            some false
                        else
                          some false
                      else
                        some false
                    else
                    if r2829 = 12 then
                      some ((decide (r2827 = 0)) && (decide (r2828 = 0)))
                    else
                      some false
                  else
                  if r2829 = 2 then
                    some ((decide (r2827 = 0)) && (decide (r2828 = 0)))
                  else
                    some false
                else
                  some false
              else
                some false
            else
              some false
          else
            some false
        else
          some false
      else
      if r2815 = r2923 then
        if r2822 = r2923 then
          if r2829 = r2923 then
            if r2814 = 0 then
              if r2820 = 0 then
                if r2821 = 0 then
                  some ((decide (r2827 = 0)) && (decide (r2828 = 0)))
                else
                  some false
              else
                some false
            else
              some false
          else
            some false
        else
          some false
      else
        some false
    | .inr () =>
      some false
  else
    some true
-- water.tree).isFlat
noncomputable def F108_0 (v3138 : Int) (v3139 : List WaterNode) (v3140 : List WaterConduit) (v3141 : List Branch) : Option (Bool) :=
  if 0 ≤ v3138 then
    (F102_0 v3138 (-200000) v3139 v3140 v3141).bind fun r3145 =>
    (F102_0 v3138 200000 v3139 v3140 v3141).bind fun r3148 =>
    some (decide (r3145 = r3148))
  else
    some false
-- water.openFlowing
noncomputable def F106_0 (v3130 : List WaterNode) (v3131 : List WaterConduit) : Option ((Int × Int × (List Branch)) ⊕ (Int)) :=
  (F99_0 v3130 v3131).bind fun g3132_ => match g3132_ with
  | .inl (r3134, r3135, r3136) =>
    if r3135 = 0 then
      (F108_0 r3134 v3130 v3131 r3136).bind fun r3152 =>
      (F72_0 (!r3152) 11).bind fun r3155 =>
      some (.inl (r3134, r3155, r3136))
    else
      some (.inl (r3134, r3135, r3136))
  | .inr (r3156) =>
    if r3156 = 0 then
      (F108_0 0 ([] : List WaterNode) ([] : List WaterConduit) ([] : List Branch)).bind fun r3160 =>
      (F72_0 (!r3160) 11).bind fun r3163 =>
      some (.inr (r3163))
    else
      some (.inr (r3156))
-- water.tree).circulation$1
noncomputable def F141_0 (v3193 : Int) (v3194 : Int) (v3195 : List WaterNode) (v3196 : List WaterConduit) (v3197 : List Branch) : Option (Bool) :=
  (F102_0 v3194 v3193 v3195 v3196 v3197).bind fun r3200 =>
  some (decide (0 ≤ r3200))
noncomputable def S84l0_3 (v3187 : Int) (v3188 : List WaterNode) (v3189 : List WaterConduit) (v3190 : List Branch) : (Int × Int) → Option ((Int × Int) ⊕ (Int))
  | (v3185, v3186) =>
    if v3186 ≤ v3185 then
      some (.inr v3185)
    else
      (F141_0 (aw .i64 (v3185 + (aw .i64 (Int.tdiv (aw .i64 (v3186 - v3185)) 2)))) v3187 v3188 v3189 v3190).bind fun r3204 =>
      if r3204 = true then
        some (.inl (v3185, (aw .i64 (v3185 + (aw .i64 (Int.tdiv (aw .i64 (v3186 - v3185)) 2))))))
      else
        some (.inl ((aw .i64 ((aw .i64 (v3185 + (aw .i64 (Int.tdiv (aw .i64 (v3186 - v3185)) 2)))) + 1)), v3186))
noncomputable def L84l0_3 (v3187 : Int) (v3188 : List WaterNode) (v3189 : List WaterConduit) (v3190 : List Branch) (s : Int × Int) : Option (Int) := iter (S84l0_3 v3187 v3188 v3189 v3190) 1000000 s
-- water.least
noncomputable def F84_3 (v3179 : Int) (v3180 : Int) (v3181 : Int) (v3182 : List WaterNode) (v3183 : List WaterConduit) (v3184 : List Branch) : Option (Int) :=
  (L84l0_3 v3181 v3182 v3183 v3184 (v3179, v3180)).bind fun r3209 =>
  some r3209
-- water.tree).circulation
noncomputable def F107_0 (v3174 : Int) (v3175 : List WaterNode) (v3176 : List WaterConduit) (v3177 : List Branch) : Option (Int × Int) :=
  if 0 ≤ v3174 then
    (F84_3 (-200000) 200000 v3174 v3175 v3176 v3177).bind fun r3213 =>
    (F102_0 v3174 r3213 v3175 v3176 v3177).bind fun r3216 =>
    if r3216 = 0 then
      some (r3213, r3213)
    else
      some ((aw .i64 (r3213 - 1)), r3213)
  else
    some (0, 0)
-- water.CirculationOf
noncomputable def F48_0 (v3128 : List WaterNode) (v3129 : List WaterConduit) : Option (Int × Int × Int) :=
  (F106_0 v3128 v3129).bind fun g3168_ => match g3168_ with
  | .inl (r3170, r3171, r3172) =>
    if r3171 = 0 then
      bind2 (F107_0 r3170 v3128 v3129 r3172) fun r3222 r3223 =>
      some (r3222, r3223, 0)
    else
      some (0, 0, r3171)
  | .inr (r3224) =>
    if r3224 = 0 then
      bind2 (F107_0 0 ([] : List WaterNode) ([] : List WaterConduit) ([] : List Branch)) fun r3228 r3229 =>
      some (r3228, r3229, 0)
    else
      some (0, 0, r3224)
-- water.tree).proves
noncomputable def F109_0 (v3268 : Int) (v3269 : Int) (v3270 : Int) (v3271 : List WaterNode) (v3272 : List WaterConduit) (v3273 : List Branch) : Option (Bool) :=
  if 0 ≤ v3268 then
    if v3269 = v3270 then
      (F102_0 v3268 v3269 v3271 v3272 v3273).bind fun r3278 =>
      some (decide (r3278 = 0))
    else
    if v3270 = (aw .i64 (v3269 + 1)) then
      (F102_0 v3268 v3269 v3271 v3272 v3273).bind fun r3282 =>
      if 0 ≤ r3282 then
        some false
      else
        (F102_0 v3268 v3270 v3271 v3272 v3273).bind fun r3286 =>
        some (!(decide (r3286 ≤ 0)))
    else
      some false
  else
    some ((decide (v3269 = 0)) && (decide (v3270 = 0)))
-- water.CheckCirculation
noncomputable def F49_0 (v3240 : Int) (v3241 : Int) (v3242 : List WaterNode) (v3243 : List WaterConduit) : Option (Int) :=
  (F99_0 v3242 v3243).bind fun g3244_ => match g3244_ with
  | .inl (r3246, r3247, r3248) =>
    (F100_0 v3240).bind fun r3251 =>
    (F100_0 v3241).bind fun r3254 =>
    (F72_0 (decide (v3240 ≤ v3241)) 9).bind fun r3257 =>
    (F71_0 ([r3247, r3251, r3254, r3257] : List Int)).bind fun r3260 =>
    if r3260 = 0 then
      (F108_0 r3246 v3242 v3243 r3248).bind fun r3264 =>
      (F72_0 (!r3264) 11).bind fun r3267 =>
      (F109_0 r3246 v3240 v3241 v3242 v3243 r3248).bind fun r3290 =>
      (F72_0 r3290 19).bind fun r3293 =>
      (F71_0 ([r3267, r3293] : List Int)).bind fun r3296 =>
      some r3296
    else
      some r3260
  | .inr (r3297) =>
    (F100_0 v3240).bind fun r3300 =>
    (F100_0 v3241).bind fun r3303 =>
    (F72_0 (decide (v3240 ≤ v3241)) 9).bind fun r3306 =>
    (F71_0 ([r3297, r3300, r3303, r3306] : List Int)).bind fun r3309 =>
    if r3309 = 0 then
      (F108_0 0 ([] : List WaterNode) ([] : List WaterConduit) ([] : List Branch)).bind fun r3313 =>
      (F72_0 (!r3313) 11).bind fun r3316 =>
      (F109_0 0 v3240 v3241 ([] : List WaterNode) ([] : List WaterConduit) ([] : List Branch)).bind fun r3319 =>
      (F72_0 r3319 19).bind fun r3322 =>
      (F71_0 ([r3316, r3322] : List Int)).bind fun r3325 =>
      some r3325
    else
      some r3309
noncomputable def S142l0_0 (v3358 : Int) (v3360 : List Int) (v3361 : List Int) : (Int × (List Range)) → Option ((Int × (List Range)) ⊕ ((List Range)))
  | (v3359, v3362) =>
    if v3358 ≤ v3359 then
      some (.inr v3362)
    else
      bind2 (geti v3360 v3359) fun j3364 x3365 =>
      bind2 (geti v3361 v3359) fun j3367 x3368 =>
      room ((v3362.length + 1) * 16) (
        some (.inl ((aw .i64 (v3359 + 1)), (v3362 ++ [(⟨(min x3365 x3368), (max x3365 x3368)⟩ : Range)])))
      )
noncomputable def L142l0_0 (v3358 : Int) (v3360 : List Int) (v3361 : List Int) (s : Int × (List Range)) : Option ((List Range)) := iter (S142l0_0 v3358 v3360 v3361) 1000000 s
-- water.ranges
noncomputable def F142_0 (v3356 : List Int) (v3357 : List Int) : Option ((List Range)) :=
  (L142l0_0 (v3356.length : Int) v3356 v3357 (0, ([] : List Range))).bind fun r3374 =>
  some r3374
-- water.tree).steady
noncomputable def F110_0 (v3340 : Int) (v3341 : List WaterNode) (v3342 : List WaterConduit) (v3343 : List Branch) : Option ((List Range) × (List Range)) :=
  bind2 (F107_0 v3340 v3341 v3342 v3343) fun r3346 r3347 =>
  bind2 (F101_0 v3340 r3346 v3341 v3342 v3343) fun r3350 r3351 =>
  bind2 (F101_0 v3340 r3347 v3341 v3342 v3343) fun r3354 r3355 =>
  (F142_0 r3350 r3354).bind fun r3378 =>
  (F142_0 r3351 r3355).bind fun r3381 =>
  some (r3378, r3381)
-- water.SteadyOf
noncomputable def F50_0 (v3332 : List WaterNode) (v3333 : List WaterConduit) : Option (Int × (List Range) × (List Range)) :=
  (F106_0 v3332 v3333).bind fun g3334_ => match g3334_ with
  | .inl (r3336, r3337, r3338) =>
    if r3337 = 0 then
      bind2 (F110_0 r3336 v3332 v3333 r3338) fun r3386 r3387 =>
      some (0, r3386, r3387)
    else
      some (r3337, ([] : List Range), ([] : List Range))
  | .inr (r3388) =>
    if r3388 = 0 then
      bind2 (F110_0 0 ([] : List WaterNode) ([] : List WaterConduit) ([] : List Branch)) fun r3392 r3393 =>
      some (0, r3392, r3393)
    else
      some (r3388, ([] : List Range), ([] : List Range))
noncomputable def S114l0_0 (v3448 : Int) (v3449 : Int) (v3451 : List WaterNode) (v3452 : List WaterConduit) (v3453 : List Int) (v3454 : List Int) (v3455 : List Int) (v3456 : List Int) : (Int × (List Int)) → Option ((Int × (List Int)) ⊕ ((List Int)))
  | (v3450, v3457) =>
    if (v3451.length : Int) ≤ v3450 then
      some (.inr v3457)
    else
      bind2 (geti v3451 v3450) fun j3459 x3460 =>
      room ((v3457.length + 1) * 8) (
        some (.inl ((aw .i64 (v3450 + 1)), (v3457 ++ [x3460.fDraw])))
      )
noncomputable def L114l0_0 (v3448 : Int) (v3449 : Int) (v3451 : List WaterNode) (v3452 : List WaterConduit) (v3453 : List Int) (v3454 : List Int) (v3455 : List Int) (v3456 : List Int) (s : Int × (List Int)) : Option ((List Int)) := iter (S114l0_0 v3448 v3449 v3451 v3452 v3453 v3454 v3455 v3456) 1000000 s
noncomputable def S155l0_0 (v3535 : Int) (v3537 : List Int) : Int → Option ((Int) ⊕ ((Unit) ⊕ (Int)))
  | v3536 =>
    if (v3537.length : Int) ≤ v3536 then
      some (.inr (.inl ()))
    else
      bind2 (geti v3537 v3536) fun j3539 x3540 =>
      if x3540 = v3535 then
        some (.inr (.inr (v3536)))
      else
        some (.inl (aw .i64 (v3536 + 1)))
noncomputable def L155l0_0 (v3535 : Int) (v3537 : List Int) (s : Int) : Option ((Unit) ⊕ (Int)) := iter (S155l0_0 v3535 v3537) 1000000 s
-- guidevaneref02.at
noncomputable def F155_0 (v3533 : Int) (v3534 : List Int) : Option (Int) :=
  (L155l0_0 v3533 v3534 0).bind fun g3544_ => match g3544_ with
  | .inl () =>
    some (-1)
  | .inr (r3546) =>
    some r3546
noncomputable def S143l0_0 (v3517 : Int) (v3518 : List WaterNode) (v3519 : List WaterConduit) (v3520 : List Int) (v3521 : List Int) : Int → Option ((Int) ⊕ (Int))
  | v3516 =>
    if v3516 ≤ v3517 then
      some (.inr v3516)
    else
      bind2 (geti v3520 v3516) fun j3523 x3524 =>
      bind2 (geti v3519 x3524) fun j3526 x3527 =>
      bind2 (geti v3521 v3516) fun j3529 x3530 =>
      if x3527.fFrom = x3530 then
        (F155_0 x3527.fTo v3521).bind fun r3550 =>
        some (.inl r3550)
      else
        (F155_0 x3527.fFrom v3521).bind fun r3553 =>
        some (.inl r3553)
noncomputable def L143l0_0 (v3517 : Int) (v3518 : List WaterNode) (v3519 : List WaterConduit) (v3520 : List Int) (v3521 : List Int) (s : Int) : Option (Int) := iter (S143l0_0 v3517 v3518 v3519 v3520 v3521) 1000000 s
-- guidevaneref02.through
noncomputable def F143_0 (v3510 : Int) (v3511 : Int) (v3512 : List WaterNode) (v3513 : List WaterConduit) (v3514 : List Int) (v3515 : List Int) : Option (Bool) :=
  (L143l0_0 v3511 v3512 v3513 v3514 v3515 v3510).bind fun r3557 =>
  some (decide (r3557 = v3511))
noncomputable def S114l1_0 (v3497 : Int) (v3500 : List WaterNode) (v3501 : List WaterConduit) (v3502 : List Int) (v3503 : List Int) (v3504 : List Int) (v3505 : List Int) (v3506 : List Int) (v3507 : List Int) (v3508 : List Int) : (Int × Int) → Option ((Int × Int) ⊕ (Int))
  | (v3498, v3499) =>
    if (v3504.length : Int) ≤ v3499 then
      some (.inr v3498)
    else
      (F143_0 v3499 v3497 v3500 v3501 v3504 v3505).bind fun r3561 =>
      if r3561 = true then
        bind2 (geti v3505 v3499) fun j3563 x3564 =>
        bind2 (geti v3506 x3564) fun j3566 x3567 =>
        some (.inl ((aw .i64 (v3498 + x3567)), (aw .i64 (v3499 + 1))))
      else
        some (.inl (v3498, (aw .i64 (v3499 + 1))))
noncomputable def L114l1_0 (v3497 : Int) (v3500 : List WaterNode) (v3501 : List WaterConduit) (v3502 : List Int) (v3503 : List Int) (v3504 : List Int) (v3505 : List Int) (v3506 : List Int) (v3507 : List Int) (v3508 : List Int) (s : Int × Int) : Option (Int) := iter (S114l1_0 v3497 v3500 v3501 v3502 v3503 v3504 v3505 v3506 v3507 v3508) 1000000 s
noncomputable def S114l2_0 (v3487 : List WaterNode) (v3488 : List WaterConduit) (v3489 : List Int) (v3490 : List Int) (v3491 : List Int) (v3492 : List Int) (v3493 : List Int) (v3495 : List Int) : (Int × (List Int)) → Option ((Int × (List Int)) ⊕ ((List Int)))
  | (v3486, v3494) =>
    if (v3491.length : Int) ≤ v3486 then
      some (.inr v3494)
    else
      (L114l1_0 v3486 v3487 v3488 v3489 v3490 v3491 v3492 v3493 v3494 v3495 (0, v3486)).bind fun r3572 =>
      bind2 (geti v3491 v3486) fun j3573 x3574 =>
      bind2 (geti v3488 x3574) fun j3576 x3577 =>
      bind2 (geti v3492 v3486) fun j3579 x3580 =>
      if x3577.fTo = x3580 then
        bind2 (geti v3494 x3574) fun j3583 x3584 =>
        some (.inl ((aw .i64 (v3486 + 1)), (v3494.set j3583 r3572)))
      else
        bind2 (geti v3494 x3574) fun j3586 x3587 =>
        some (.inl ((aw .i64 (v3486 + 1)), (v3494.set j3586 (aw .i64 (0 - r3572)))))
noncomputable def L114l2_0 (v3487 : List WaterNode) (v3488 : List WaterConduit) (v3489 : List Int) (v3490 : List Int) (v3491 : List Int) (v3492 : List Int) (v3493 : List Int) (v3495 : List Int) (s : Int × (List Int)) : Option ((List Int)) := iter (S114l2_0 v3487 v3488 v3489 v3490 v3491 v3492 v3493 v3495) 1000000 s
noncomputable def S114l3_0 (v3594 : List WaterNode) (v3595 : List WaterConduit) (v3596 : List Int) (v3597 : List Int) (v3598 : List Int) (v3599 : List Int) (v3600 : List Int) : (Int × (List Int)) → Option ((Int × (List Int)) ⊕ ((List Int)))
  | (v3593, v3601) =>
    if (v3594.length : Int) ≤ v3593 then
      some (.inr v3601)
    else
      bind2 (geti v3594 v3593) fun j3603 x3604 =>
      if x3604.fLake = true then
        bind2 (geti v3601 v3593) fun j3607 x3608 =>
        some (.inl ((aw .i64 (v3593 + 1)), (v3601.set j3607 (aw .i64 (1000 * x3604.fHead)))))
      else
        some (.inl ((aw .i64 (v3593 + 1)), v3601))
noncomputable def L114l3_0 (v3594 : List WaterNode) (v3595 : List WaterConduit) (v3596 : List Int) (v3597 : List Int) (v3598 : List Int) (v3599 : List Int) (v3600 : List Int) (s : Int × (List Int)) : Option ((List Int)) := iter (S114l3_0 v3594 v3595 v3596 v3597 v3598 v3599 v3600) 1000000 s
noncomputable def S114l4_0 (v3615 : List WaterNode) (v3616 : List WaterConduit) (v3617 : List Int) (v3618 : List Int) (v3619 : List Int) (v3620 : List Int) (v3621 : List Int) : (Int × (List Int)) → Option ((Int × (List Int)) ⊕ ((List Int)))
  | (v3614, v3622) =>
    if (v3619.length : Int) ≤ v3614 then
      some (.inr v3622)
    else
      bind2 (geti v3619 v3614) fun j3624 x3625 =>
      bind2 (geti v3616 x3625) fun j3627 x3628 =>
      bind2 (geti v3620 v3614) fun j3630 x3631 =>
      if x3628.fTo = x3631 then
        bind2 (geti v3622 x3628.fFrom) fun j3634 x3635 =>
        bind2 (geti v3621 x3625) fun j3637 x3638 =>
        (F22_0 x3628.fResist x3638).bind fun r3642 =>
        bind2 (geti v3622 x3628.fTo) fun j3643 x3644 =>
        some (.inl ((aw .i64 (v3614 + 1)), (v3622.set j3643 (aw .i64 (x3635 - r3642)))))
      else
        bind2 (geti v3622 x3628.fTo) fun j3646 x3647 =>
        bind2 (geti v3621 x3625) fun j3649 x3650 =>
        (F22_0 x3628.fResist x3650).bind fun r3654 =>
        bind2 (geti v3622 x3628.fFrom) fun j3655 x3656 =>
        some (.inl ((aw .i64 (v3614 + 1)), (v3622.set j3655 (aw .i64 (x3647 + r3654)))))
noncomputable def L114l4_0 (v3615 : List WaterNode) (v3616 : List WaterConduit) (v3617 : List Int) (v3618 : List Int) (v3619 : List Int) (v3620 : List Int) (v3621 : List Int) (s : Int × (List Int)) : Option ((List Int)) := iter (S114l4_0 v3615 v3616 v3617 v3618 v3619 v3620 v3621) 1000000 s
-- guidevaneref02.State
noncomputable def F114_0 (v3436 : Int) (v3437 : List WaterNode) (v3438 : List WaterConduit) : Option ((List Int) × (List Int)) :=
  bind3 (F137_0 v3437 v3438) fun r3441 r3442 r3443 =>
  bind2 (F97_0 v3437 v3438) fun r3446 r3447 =>
  (L114l0_0 v3436 r3446 v3437 v3438 ([] : List Int) ([] : List Int) r3442 r3443 (0, ([] : List Int))).bind fun r3466 =>
  (inx (v3438.length : Int) 140737488355329).bind fun n3467 =>
  room (n3467 * 8) (
    (inx (v3437.length : Int) 140737488355329).bind fun n3470 =>
    room (n3470 * 8) (
      if 0 ≤ r3446 then
        bind2 (geti v3438 r3446) fun j3474 x3475 =>
        bind2 (geti (List.replicate n3467 (0 : Int)) r3446) fun j3477 x3478 =>
        bind2 (geti r3466 x3475.fFrom) fun j3480 x3481 =>
        bind2 (geti (r3466.set j3480 (aw .i64 (x3481 + v3436))) x3475.fTo) fun j3483 x3484 =>
        (L114l2_0 v3437 v3438 ([] : List Int) ([] : List Int) r3442 r3443 ((r3466.set j3480 (aw .i64 (x3481 + v3436))).set j3483 (aw .i64 (x3484 - v3436))) (List.replicate n3470 (0 : Int)) (0, ((List.replicate n3467 (0 : Int)).set j3477 v3436))).bind fun r3592 =>
        (L114l3_0 v3437 v3438 ([] : List Int) ([] : List Int) r3442 r3443 r3592 (0, (List.replicate n3470 (0 : Int)))).bind fun r3613 =>
        (L114l4_0 v3437 v3438 ([] : List Int) ([] : List Int) r3442 r3443 r3592 (0, r3613)).bind fun r3661 =>
        some (r3592, r3661)
      else
        (L114l2_0 v3437 v3438 ([] : List Int) ([] : List Int) r3442 r3443 r3466 (List.replicate n3470 (0 : Int)) (0, (List.replicate n3467 (0 : Int)))).bind fun r3664 =>
        (L114l3_0 v3437 v3438 ([] : List Int) ([] : List Int) r3442 r3443 r3664 (0, (List.replicate n3470 (0 : Int)))).bind fun r3667 =>
        (L114l4_0 v3437 v3438 ([] : List Int) ([] : List Int) r3442 r3443 r3664 (0, r3667)).bind fun r3670 =>
        some (r3664, r3670)
    )
  )
-- guidevaneref02.Gap
noncomputable def F112_0 (v3426 : Int) (v3427 : List WaterNode) (v3428 : List WaterConduit) : Option (Int) :=
  bind2 (F97_0 v3427 v3428) fun r3431 r3432 =>
  bind2 (geti v3428 r3431) fun j3433 x3434 =>
  bind2 (F114_0 v3426 v3427 v3428) fun r3675 r3676 =>
  (F22_0 x3434.fResist v3426).bind fun r3679 =>
  bind2 (geti r3676 x3434.fFrom) fun j3680 x3681 =>
  bind2 (geti r3676 x3434.fTo) fun j3683 x3684 =>
  some (aw .i64 (r3679 - (aw .i64 (x3681 - x3684))))
noncomputable def S53l0_0 (v3710 : List WaterNode) (v3711 : List WaterConduit) : (Int × Int) → Option ((Int × Int) ⊕ (Int))
  | (v3708, v3709) =>
    if v3709 ≤ v3708 then
      some (.inr v3708)
    else
      (F113_0 (aw .i64 (v3708 + v3709)) 2).bind fun r3717 =>
      (F112_0 r3717 v3710 v3711).bind fun r3720 =>
      if 0 ≤ r3720 then
        some (.inl (v3708, r3717))
      else
        some (.inl ((aw .i64 (r3717 + 1)), v3709))
noncomputable def L53l0_0 (v3710 : List WaterNode) (v3711 : List WaterConduit) (s : Int × Int) : Option (Int) := iter (S53l0_0 v3710 v3711) 1000000 s
-- guidevaneref02.Circulation
noncomputable def F53_0 (v3419 : List WaterNode) (v3420 : List WaterConduit) : Option (Int × Int × Int) :=
  bind2 (F97_0 v3419 v3420) fun r3423 r3424 =>
  if 0 ≤ r3423 then
    (F112_0 (-200000) v3419 v3420).bind fun r3689 =>
    (F112_0 200000 v3419 v3420).bind fun r3692 =>
    if r3689 = r3692 then
      some (0, 0, 11)
    else
      (L53l0_0 v3419 v3420 ((-200000), 200000)).bind fun r3725 =>
      (F112_0 r3725 v3419 v3420).bind fun r3728 =>
      if r3728 = 0 then
        some (r3725, r3725, 0)
      else
        some ((aw .i64 (r3725 - 1)), r3725, 0)
  else
    some (0, 0, 0)
-- guidevaneref02.CheckCirculation
noncomputable def F52_0 (v3406 : Int) (v3407 : Int) (v3408 : List WaterNode) (v3409 : List WaterConduit) : Option (Int) :=
  (F21_0 v3406).bind fun r3412 =>
  if r3412 = 0 then
    (F21_0 v3407).bind fun r3416 =>
    if r3416 = 0 then
      if v3406 ≤ v3407 then
        bind3 (F53_0 v3408 v3409) fun r3735 r3736 r3737 =>
        if r3737 = 0 then
          if v3406 = r3735 then
            if v3407 = r3736 then
              some 0
            else
              some 19
          else
            some 19
        else
          some r3737
      else
        some 9
    else
      some 2
  else
    some 2
noncomputable def S54l0_0 (v3769 : List WaterNode) (v3770 : List WaterConduit) (v3771 : List Range) (v3772 : List Range) (v3773 : List Int) (v3774 : List Int) (v3775 : List Int) (v3776 : List Int) (v3778 : List Range) : (Int × (List Range)) → Option ((Int × (List Range)) ⊕ ((List Range)))
  | (v3768, v3777) =>
    if (v3773.length : Int) ≤ v3768 then
      some (.inr v3777)
    else
      bind2 (geti v3773 v3768) fun j3780 x3781 =>
      bind2 (geti v3775 v3768) fun j3783 x3784 =>
      room ((v3777.length + 1) * 16) (
        some (.inl ((aw .i64 (v3768 + 1)), (v3777 ++ [(⟨(min x3781 x3784), (max x3781 x3784)⟩ : Range)])))
      )
noncomputable def L54l0_0 (v3769 : List WaterNode) (v3770 : List WaterConduit) (v3771 : List Range) (v3772 : List Range) (v3773 : List Int) (v3774 : List Int) (v3775 : List Int) (v3776 : List Int) (v3778 : List Range) (s : Int × (List Range)) : Option ((List Range)) := iter (S54l0_0 v3769 v3770 v3771 v3772 v3773 v3774 v3775 v3776 v3778) 1000000 s
noncomputable def S54l1_0 (v3792 : List WaterNode) (v3793 : List WaterConduit) (v3794 : List Range) (v3795 : List Range) (v3796 : List Int) (v3797 : List Int) (v3798 : List Int) (v3799 : List Int) (v3800 : List Range) : (Int × (List Range)) → Option ((Int × (List Range)) ⊕ ((List Range)))
  | (v3791, v3801) =>
    if (v3797.length : Int) ≤ v3791 then
      some (.inr v3801)
    else
      bind2 (geti v3797 v3791) fun j3803 x3804 =>
      bind2 (geti v3799 v3791) fun j3806 x3807 =>
      room ((v3801.length + 1) * 16) (
        some (.inl ((aw .i64 (v3791 + 1)), (v3801 ++ [(⟨(min x3804 x3807), (max x3804 x3807)⟩ : Range)])))
      )
noncomputable def L54l1_0 (v3792 : List WaterNode) (v3793 : List WaterConduit) (v3794 : List Range) (v3795 : List Range) (v3796 : List Int) (v3797 : List Int) (v3798 : List Int) (v3799 : List Int) (v3800 : List Range) (s : Int × (List Range)) : Option ((List Range)) := iter (S54l1_0 v3792 v3793 v3794 v3795 v3796 v3797 v3798 v3799 v3800) 1000000 s
-- guidevaneref02.Steady
noncomputable def F54_0 (v3756 : Int) (v3757 : Int) (v3758 : List WaterNode) (v3759 : List WaterConduit) : Option ((List Range) × (List Range)) :=
  bind2 (F114_0 v3756 v3758 v3759) fun r3762 r3763 =>
  bind2 (F114_0 v3757 v3758 v3759) fun r3766 r3767 =>
  (L54l0_0 v3758 v3759 ([] : List Range) ([] : List Range) r3762 r3763 r3766 r3767 ([] : List Range) (0, ([] : List Range))).bind fun r3790 =>
  (L54l1_0 v3758 v3759 ([] : List Range) ([] : List Range) r3762 r3763 r3766 r3767 r3790 (0, ([] : List Range))).bind fun r3813 =>
  some (r3790, r3813)
noncomputable def S111l0_0 (v3828 : List Range) (v3829 : List Range) : Int → Option ((Int) ⊕ ((Unit) ⊕ (Unit)))
  | v3827 =>
    if (v3828.length : Int) ≤ v3827 then
      some (.inr (.inl ()))
    else
      bind2 (geti v3828 v3827) fun j3831 x3832 =>
      bind2 (geti v3829 v3827) fun j3834 x3835 =>
      if x3832.fLo = x3835.fLo then
        if x3832.fHi = x3835.fHi then
          some (.inl (aw .i64 (v3827 + 1)))
        else
          some (.inr (.inr ()))
      else
        some (.inr (.inr ()))
noncomputable def L111l0_0 (v3828 : List Range) (v3829 : List Range) (s : Int) : Option ((Unit) ⊕ (Unit)) := iter (S111l0_0 v3828 v3829) 1000000 s
-- guidevanebase.Ranges
noncomputable def F111_0 (v3824 : List Range) (v3825 : List Range) : Option (Bool) :=
  if (v3824.length : Int) = (v3825.length : Int) then
    (L111l0_0 v3824 v3825 0).bind fun g3839_ => match g3839_ with
    | .inl () =>
      some true
    | .inr () =>
      some false
  else
    some false
-- guidevaneref02.SameSteady
noncomputable def F51_0 (v3820 : List Range) (v3821 : List Range) (v3822 : List Range) (v3823 : List Range) : Option (Bool) :=
  (F111_0 v3820 v3822).bind fun r3844 =>
  if r3844 = true then
    (F111_0 v3821 v3823).bind fun r3848 =>
    some r3848
  else
    some false
-- guidevanelaw02.WaterFlows
noncomputable def F8_0 (v3117 : Int) (v3118 : Int) (v3119 : List WaterNode) (v3120 : List WaterConduit) : Option (Bool) :=
  (F15_0 v3119 v3120).bind fun r3124 =>
  if r3124 = true then
    (F17_0 v3119 v3120).bind fun _ =>
    bind3 (F48_0 v3119 v3120) fun r3235 r3236 r3237 =>
    (F17_0 v3119 v3120).bind fun _ =>
    (F49_0 v3117 v3118 v3119 v3120).bind fun r3329 =>
    (F17_0 v3119 v3120).bind fun _ =>
    bind3 (F50_0 v3119 v3120) fun r3399 r3400 r3401 =>
    (F38_0 v3119 v3120).bind fun r3404 =>
    if r3404 = 0 then
      (F52_0 v3117 v3118 v3119 v3120).bind fun r3744 =>
      if r3329 = r3744 then
        bind3 (F53_0 v3119 v3120) fun r3748 r3749 r3750 =>
        if r3750 = 0 then
          if r3237 = 0 then
            if r3235 = r3748 then
              if r3236 = r3749 then
                if r3399 = 0 then
                  bind2 (F54_0 r3748 r3749 v3119 v3120) fun r3818 r3819 =>
                  (F51_0 r3400 r3401 r3818 r3819).bind fun r3852 =>
                  some r3852
                else
                  some false
              else
                some false
            else
              some false
          else
            some false
        else
        if r3237 = r3750 then
          if r3399 = r3750 then
            if r3235 = 0 then
              if r3236 = 0 then
                (F51_0 r3400 r3401 ([] : List Range) ([] : List Range)).bind fun r3859 =>
                some r3859
              else
                some false
            else
              some false
          else
            some false
        else
          some false
      else
        some false
    else
    if r3237 = r3404 then
      if r3329 = r3404 then
        if r3399 = r3404 then
          if r3235 = 0 then
            if r3236 = 0 then
              (F51_0 r3400 r3401 ([] : List Range) ([] : List Range)).bind fun r3867 =>
              some r3867
            else
              some false
          else
            some false
        else
          some false
      else
        some false
    else
      some false
  else
    some true
noncomputable def S10l0_0 (v3921 : List WaterNode) (v3922 : List WaterConduit) (v3923 : Int) (v3924 : Int) (v3925 : List Range) (v3926 : List Range) : Int → Option ((Int) ⊕ ((Unit) ⊕ (Unit)))
  | v3920 =>
    if (v3925.length : Int) ≤ v3920 then
      some (.inr (.inl ()))
    else
      bind2 (geti v3925 v3920) fun j3928 x3929 =>
      (F20_0 x3929.fLo (-1000000) 1000000).bind fun r3933 =>
      if r3933 = true then
        (F20_0 x3929.fHi x3929.fLo (aw .i64 (x3929.fLo + 1))).bind fun r3937 =>
        if r3937 = true then
          some (.inl (aw .i64 (v3920 + 1)))
        else
          some (.inr (.inr ()))
      else
        some (.inr (.inr ()))
noncomputable def L10l0_0 (v3921 : List WaterNode) (v3922 : List WaterConduit) (v3923 : Int) (v3924 : Int) (v3925 : List Range) (v3926 : List Range) (s : Int) : Option ((Unit) ⊕ (Unit)) := iter (S10l0_0 v3921 v3922 v3923 v3924 v3925 v3926) 1000000 s
-- guidevanelaw02.WaterTwoSigns
noncomputable def F10_0 (v3869 : Int) (v3870 : Int) (v3871 : List WaterNode) (v3872 : List WaterConduit) : Option (Bool) :=
  (F15_0 v3871 v3872).bind fun r3876 =>
  if r3876 = true then
    (F38_0 v3871 v3872).bind fun r3880 =>
    if r3880 = 0 then
      (F17_0 v3871 v3872).bind fun _ =>
      bind3 (F48_0 v3871 v3872) fun r3886 r3887 r3888 =>
      if r3888 = 0 then
        (F20_0 r3886 (-200000) 200000).bind fun r3892 =>
        if r3892 = true then
          (F20_0 r3887 r3886 (aw .i64 (r3886 + 1))).bind fun r3896 =>
          if r3896 = true then
            (F17_0 v3871 v3872).bind fun _ =>
            (F49_0 r3886 r3887 v3871 v3872).bind fun r3902 =>
            if r3902 = 0 then
              (F17_0 v3871 v3872).bind fun _ =>
              (F49_0 v3869 v3870 v3871 v3872).bind fun r3908 =>
              if ((decide (r3908 = 0)) == ((decide (v3869 = r3886)) && (decide (v3870 = r3887)))) = true then
                (F17_0 v3871 v3872).bind fun _ =>
                bind3 (F50_0 v3871 v3872) fun r3914 r3915 r3916 =>
                if r3914 = 0 then
                  if (r3915.length : Int) = (v3872.length : Int) then
                    if (r3916.length : Int) = (v3871.length : Int) then
                      (L10l0_0 v3871 v3872 r3886 r3887 r3915 r3916 0).bind fun g3939_ => match g3939_ with
                      | .inl () =>
                        (F17_0 v3871 v3872).bind fun _ =>
                        bind2 (F39_0 v3871 v3872) fun r3945 r3946 =>
                        if r3946 = 0 then
                          (F17_0 v3871 v3872).bind fun _ =>
                          bind2 (F42_0 r3886 v3871 v3872) fun r3952 r3953 =>
                          (F17_0 v3871 v3872).bind fun _ =>
                          bind2 (F42_0 r3887 v3871 v3872) fun r3958 r3959 =>
                          if r3953 = 0 then
                            if r3959 = 0 then
                              if r3952 ≤ 0 then
                                if 0 ≤ r3958 then
                                  if r3886 = r3887 then
                                    some true
                                  else
                                  if 0 ≤ r3952 then
                                    some false
                                  else
                                    some (!(decide (r3958 ≤ 0)))
                                else
                                  some false
                              else
                                some false
                            else
                              some false
                          else
                            some false
                        else
                        if r3946 = 12 then
                          some ((decide (r3886 = 0)) && (decide (r3887 = 0)))
                        else
                          some false
                      | .inr () =>
                        some false
                    else
                      some false
                  else
                    some false
                else
                  some false
              else
                some false
            else
              some false
          else
            some false
        else
          some false
      else
        some (decide (r3888 = 11))
    else
      some true
  else
    some true
-- water.openHead
noncomputable def F124_0 (v3983 : Int) (v3984 : Int) (v3985 : List WaterNode) (v3986 : List WaterConduit) : Option ((Int × Int × (List Branch)) ⊕ (Int)) :=
  (F106_0 v3985 v3986).bind fun g3987_ => match g3987_ with
  | .inl (r3989, r3990, r3991) =>
    (F88_0 v3983 v3985 v3986).bind fun r3994 =>
    (F74_0 v3984 0 1000000000).bind fun r3997 =>
    (F72_0 r3997 2).bind fun r4000 =>
    (F71_0 ([r3990, r3994, r4000] : List Int)).bind fun r4003 =>
    some (.inl (r3989, r4003, r3991))
  | .inr (r4004) =>
    (F88_0 v3983 ([] : List WaterNode) ([] : List WaterConduit)).bind fun r4007 =>
    (F74_0 v3984 0 1000000000).bind fun r4010 =>
    (F72_0 r4010 2).bind fun r4013 =>
    (F71_0 ([r4004, r4007, r4013] : List Int)).bind fun r4016 =>
    some (.inr (r4016))
-- water.answer
noncomputable def F125_0 (v4034 : Int) (v4035 : Int) (v4036 : Int) : Option (Int) :=
  if v4036 ≤ v4034 then
    some 2
  else
  if v4036 ≤ v4035 then
    some 1
  else
    some 0
-- water.HeadAnswer
noncomputable def F61_0 (v3979 : Int) (v3980 : Int) (v3981 : List WaterNode) (v3982 : List WaterConduit) : Option (Int × Int) :=
  (F124_0 v3979 v3980 v3981 v3982).bind fun g4021_ => match g4021_ with
  | .inl (r4023, r4024, r4025) =>
    if r4024 = 0 then
      bind2 (F110_0 r4023 v3981 v3982 r4025) fun r4029 r4030 =>
      bind2 (geti r4030 v3979) fun j4031 x4032 =>
      (F125_0 x4032.fLo x4032.fHi v3980).bind fun r4042 =>
      some (r4042, 0)
    else
      some (0, r4024)
  | .inr (r4043) =>
    if r4043 = 0 then
      bind2 (F110_0 0 ([] : List WaterNode) ([] : List WaterConduit) ([] : List Branch)) fun r4047 r4048 =>
      bind2 (geti r4048 v3979) fun j4049 x4050 =>
      (F125_0 x4050.fLo x4050.fHi v3980).bind fun r4054 =>
      some (r4054, 0)
    else
      some (0, r4043)
-- api.WaterNode]
noncomputable def F126_0 (v4086 : List WaterNode) : Option (Unit) :=
  if v4086.length = 0 then
    none
  else
    room (v4086.length * 40) (
      some ()
    )
noncomputable def S62l0_0 (v4091 : Int) (v4092 : Int) (v4094 : List WaterNode) (v4095 : List WaterConduit) (v4096 : Int) (v4098 : List Branch) (v4099 : ByteArray) (v4100 : Bool) (v4101 : Int) (v4102 : Int) : (Int × (List WaterNode)) → Option ((Int × (List WaterNode)) ⊕ ((Int) ⊕ (Unit)))
  | (v4093, v4097) =>
    if 0 ≤ v4093 then
      bind2 (geti v4097 v4091) fun j4104 x4105 =>
      bind2 (F110_0 v4096 (v4097.set j4104 ({ x4105 with fDraw := (aw .i64 (v4102 + v4093)) } : WaterNode)) v4095 v4098) fun r4109 r4110 =>
      bind2 (geti r4110 v4091) fun j4111 x4112 =>
      (F125_0 x4112.fLo x4112.fHi v4092).bind fun r4116 =>
      if r4116 = 2 then
        some (.inr (.inl (v4093)))
      else
        some (.inl ((aw .i64 (v4093 - 1)), (v4097.set j4104 ({ x4105 with fDraw := (aw .i64 (v4102 + v4093)) } : WaterNode))))
    else
      some (.inr (.inr ()))
noncomputable def L62l0_0 (v4091 : Int) (v4092 : Int) (v4094 : List WaterNode) (v4095 : List WaterConduit) (v4096 : Int) (v4098 : List Branch) (v4099 : ByteArray) (v4100 : Bool) (v4101 : Int) (v4102 : Int) (s : Int × (List WaterNode)) : Option ((Int) ⊕ (Unit)) := iter (S62l0_0 v4091 v4092 v4094 v4095 v4096 v4098 v4099 v4100 v4101 v4102) 1000000 s
-- water.MostDraw
noncomputable def F62_0 (v4063 : Int) (v4064 : Int) (v4065 : List WaterNode) (v4066 : List WaterConduit) : Option (Int × Int) :=
  (F124_0 v4063 v4064 v4065 v4066).bind fun g4067_ => match g4067_ with
  | .inl (r4069, r4070, r4071) =>
    if r4070 = 0 then
      bind2 (geti v4065 v4063) fun j4073 x4074 =>
      (F72_0 (!x4074.fLake) 15).bind fun r4078 =>
      (F72_0 (decide (x4074.fDraw ≤ 9900)) 2).bind fun r4081 =>
      (F71_0 ([r4078, r4081] : List Int)).bind fun r4084 =>
      if r4084 = 0 then
        (F126_0 v4065).bind fun _ =>
        (L62l0_0 v4063 v4064 v4065 v4066 r4069 r4071 x4074.fName x4074.fLake x4074.fHead x4074.fDraw (100, v4065)).bind fun g4119_ => match g4119_ with
        | .inl (r4121) =>
          some (r4121, 0)
        | .inr () =>
          some (0, 12)
      else
        some (0, r4084)
    else
      some (0, r4070)
  | .inr (r4122) =>
    if r4122 = 0 then
      none
    else
      some (0, r4122)
-- guidevaneref02.HeadErr
noncomputable def F63_0 (v4130 : Int) (v4131 : Int) (v4132 : List WaterNode) (v4133 : List WaterConduit) : Option (Int) :=
  (F38_0 v4132 v4133).bind fun r4136 =>
  if r4136 = 0 then
    bind3 (F53_0 v4132 v4133) fun r4140 r4141 r4142 =>
    if r4142 = 0 then
      (F33_0 v4130 v4132 v4133).bind fun r4146 =>
      if r4146 = 0 then
        (F20_0 v4131 0 1000000000).bind fun r4150 =>
        if r4150 = true then
          some 0
        else
          some 2
      else
        some r4146
    else
      some r4142
  else
    some r4136
-- guidevaneref02.Answer
noncomputable def F65_0 (v4177 : Int) (v4178 : Int) (v4179 : List WaterNode) (v4180 : List WaterConduit) : Option (Int) :=
  bind3 (F53_0 v4179 v4180) fun r4183 r4184 r4185 =>
  bind2 (F54_0 r4183 r4184 v4179 v4180) fun r4188 r4189 =>
  bind2 (geti r4189 v4177) fun j4190 x4191 =>
  if v4178 ≤ x4191.fLo then
    some 2
  else
  if v4178 ≤ x4191.fHi then
    some 1
  else
    some 0
noncomputable def S64l0_0 (v4166 : Int) (v4167 : Int) (v4169 : List WaterNode) (v4170 : List WaterConduit) : Int → Option ((Int) ⊕ ((Int) ⊕ (Unit)))
  | v4168 =>
    if 0 ≤ v4168 then
      (F17_0 v4169 v4170).bind fun _ =>
      bind2 (geti v4169 v4166) fun j4174 x4175 =>
      (F65_0 v4166 v4167 (v4169.set j4174 ({ x4175 with fDraw := (aw .i64 (x4175.fDraw + v4168)) } : WaterNode)) v4170).bind fun r4198 =>
      if r4198 = 2 then
        some (.inr (.inl (v4168)))
      else
        some (.inl (aw .i64 (v4168 - 1)))
    else
      some (.inr (.inr ()))
noncomputable def L64l0_0 (v4166 : Int) (v4167 : Int) (v4169 : List WaterNode) (v4170 : List WaterConduit) (s : Int) : Option ((Int) ⊕ (Unit)) := iter (S64l0_0 v4166 v4167 v4169 v4170) 1000000 s
-- guidevaneref02.Most
noncomputable def F64_0 (v4157 : Int) (v4158 : Int) (v4159 : List WaterNode) (v4160 : List WaterConduit) : Option (Int × Int) :=
  bind2 (geti v4159 v4157) fun j4161 x4162 =>
  if x4162.fLake = true then
    some (0, 15)
  else
  if x4162.fDraw ≤ 9900 then
    (L64l0_0 v4157 v4158 v4159 v4160 100).bind fun g4201_ => match g4201_ with
    | .inl (r4203) =>
      some (r4203, 0)
    | .inr () =>
      some (0, 12)
  else
    some (0, 2)
-- guidevanelaw02.WaterHeads
noncomputable def F11_0 (v3968 : Int) (v3969 : Int) (v3970 : List WaterNode) (v3971 : List WaterConduit) : Option (Bool) :=
  (F15_0 v3970 v3971).bind fun r3975 =>
  if r3975 = true then
    (F17_0 v3970 v3971).bind fun _ =>
    bind2 (F61_0 v3968 v3969 v3970 v3971) fun r4059 r4060 =>
    (F17_0 v3970 v3971).bind fun _ =>
    bind2 (F62_0 v3968 v3969 v3970 v3971) fun r4128 r4129 =>
    (F63_0 v3968 v3969 v3970 v3971).bind fun r4155 =>
    if r4155 = 0 then
      bind2 (F64_0 v3968 v3969 v3970 v3971) fun r4208 r4209 =>
      if r4060 = 0 then
        (F65_0 v3968 v3969 v3970 v3971).bind fun r4213 =>
        if r4059 = r4213 then
          if r4129 = r4209 then
            some (decide (r4128 = r4208))
          else
            some false
        else
          some false
      else
        some false
    else
    if r4060 = r4155 then
      if r4129 = r4155 then
        if r4059 = 0 then
          some (decide (r4128 = 0))
        else
          some false
      else
        some false
    else
      some false
  else
    some true
noncomputable def S12l0_0 (v4273 : Int) (v4274 : Int) (v4276 : List WaterNode) (v4277 : List WaterConduit) (v4278 : List Range) (v4279 : List Range) (v4280 : List WaterNode) (v4281 : List WaterConduit) (v4282 : List Range) (v4283 : List Range) : Int → Option ((Int) ⊕ ((Unit) ⊕ (Unit)))
  | v4275 =>
    if (v4279.length : Int) ≤ v4275 then
      some (.inr (.inl ()))
    else
      bind2 (geti v4279 v4275) fun j4285 x4286 =>
      if x4286.fLo ≤ x4286.fHi then
        bind2 (geti v4283 v4275) fun j4289 x4290 =>
        if x4290.fLo ≤ x4290.fHi then
          if x4290.fLo ≤ x4286.fHi then
            some (.inl (aw .i64 (v4275 + 1)))
          else
            some (.inr (.inr ()))
        else
          some (.inr (.inr ()))
      else
        some (.inr (.inr ()))
noncomputable def L12l0_0 (v4273 : Int) (v4274 : Int) (v4276 : List WaterNode) (v4277 : List WaterConduit) (v4278 : List Range) (v4279 : List Range) (v4280 : List WaterNode) (v4281 : List WaterConduit) (v4282 : List Range) (v4283 : List Range) (s : Int) : Option ((Unit) ⊕ (Unit)) := iter (S12l0_0 v4273 v4274 v4276 v4277 v4278 v4279 v4280 v4281 v4282 v4283) 1000000 s
-- guidevanelaw02.WaterDrawn
noncomputable def F12_0 (v4220 : Int) (v4221 : Int) (v4222 : Int) (v4223 : List WaterNode) (v4224 : List WaterConduit) : Option (Bool) :=
  (F15_0 v4223 v4224).bind fun r4230 =>
  if r4230 = true then
    (F38_0 v4223 v4224).bind fun r4234 =>
    if r4234 = 0 then
      (F33_0 v4220 v4223 v4224).bind fun r4238 =>
      if r4238 = 0 then
        bind2 (geti v4223 v4220) fun j4240 x4241 =>
        if x4241.fLake = true then
          some true
        else
          (F20_0 v4222 0 1000).bind fun r4246 =>
          if r4246 = true then
            if x4241.fDraw ≤ 9000 then
              (F20_0 v4221 0 1000000000).bind fun r4251 =>
              if r4251 = true then
                (F17_0 v4223 v4224).bind fun _ =>
                bind3 (F50_0 v4223 v4224) fun r4257 r4258 r4259 =>
                (F17_0 v4223 v4224).bind fun _ =>
                (F17_0 (v4223.set j4240 ({ x4241 with fDraw := (aw .i64 (x4241.fDraw + v4222)) } : WaterNode)) v4224).bind fun _ =>
                bind3 (F50_0 (v4223.set j4240 ({ x4241 with fDraw := (aw .i64 (x4241.fDraw + v4222)) } : WaterNode)) v4224) fun r4266 r4267 r4268 =>
                if r4257 = r4266 then
                  if r4257 = 0 then
                    if (r4259.length : Int) = (v4223.length : Int) then
                      if (r4268.length : Int) = (v4223.length : Int) then
                        (L12l0_0 v4220 v4221 v4223 v4224 r4258 r4259 (v4223.set j4240 ({ x4241 with fDraw := (aw .i64 (x4241.fDraw + v4222)) } : WaterNode)) v4224 r4267 r4268 0).bind fun g4294_ => match g4294_ with
                        | .inl () =>
                          (F17_0 v4223 v4224).bind fun _ =>
                          bind2 (F62_0 v4220 v4221 v4223 v4224) fun r4300 r4301 =>
                          if r4301 = 0 then
                            (F20_0 r4300 0 100).bind fun r4305 =>
                            if r4305 = true then
                              ((v4223.set j4240 ({ x4241 with fDraw := (aw .i64 (x4241.fDraw + v4222)) } : WaterNode))[j4240]?).bind fun x4307 =>
                              (F17_0 ((v4223.set j4240 ({ x4241 with fDraw := (aw .i64 (x4241.fDraw + v4222)) } : WaterNode)).set j4240 ({ x4307 with fDraw := (aw .i64 (x4241.fDraw + r4300)) } : WaterNode)) v4224).bind fun _ =>
                              bind2 (F61_0 v4220 v4221 ((v4223.set j4240 ({ x4241 with fDraw := (aw .i64 (x4241.fDraw + v4222)) } : WaterNode)).set j4240 ({ x4307 with fDraw := (aw .i64 (x4241.fDraw + r4300)) } : WaterNode)) v4224) fun r4313 r4314 =>
                              if r4314 = 0 then
                                if r4313 = 2 then
                                  if r4300 = 100 then
                                    some true
                                  else
                                    (((v4223.set j4240 ({ x4241 with fDraw := (aw .i64 (x4241.fDraw + v4222)) } : WaterNode)).set j4240 ({ x4307 with fDraw := (aw .i64 (x4241.fDraw + r4300)) } : WaterNode))[j4240]?).bind fun x4318 =>
                                    bind2 (F61_0 v4220 v4221 (((v4223.set j4240 ({ x4241 with fDraw := (aw .i64 (x4241.fDraw + v4222)) } : WaterNode)).set j4240 ({ x4307 with fDraw := (aw .i64 (x4241.fDraw + r4300)) } : WaterNode)).set j4240 ({ x4318 with fDraw := (aw .i64 ((aw .i64 (x4241.fDraw + r4300)) + 1)) } : WaterNode)) v4224) fun r4322 r4323 =>
                                    if r4323 = 0 then
                                      some (!(decide (r4322 = 2)))
                                    else
                                      some false
                                else
                                  some false
                              else
                                some false
                            else
                              some false
                          else
                            some (decide (r4301 = 12))
                        | .inr () =>
                          some false
                      else
                        some false
                    else
                      some false
                  else
                    some (decide (r4257 = 11))
                else
                  some false
              else
                some true
            else
              some true
          else
            some true
      else
        some true
    else
      some true
  else
    some true
-- guidevaneref02.WayErr
noncomputable def F58_0 (v4340 : Int) (v4341 : Int) (v4342 : List WaterNode) (v4343 : List WaterConduit) : Option (Int) :=
  (F33_0 v4340 v4342 v4343).bind fun r4346 =>
  if r4346 = 0 then
    (F33_0 v4341 v4342 v4343).bind fun r4350 =>
    if r4350 = 0 then
      if v4340 = v4341 then
        some 13
      else
        some 0
    else
      some 6
  else
    some 6
-- water.openWay
noncomputable def F115_0 (v4364 : Int) (v4365 : Int) (v4366 : List WaterNode) (v4367 : List WaterConduit) : Option (Int) :=
  (F87_0 v4366 v4367).bind fun r4370 =>
  (F88_0 v4364 v4366 v4367).bind fun r4373 =>
  (F88_0 v4365 v4366 v4367).bind fun r4376 =>
  (F72_0 (!(decide (v4364 = v4365))) 13).bind fun r4379 =>
  (F71_0 ([r4370, r4373, r4376, r4379] : List Int)).bind fun r4382 =>
  some r4382
noncomputable def S116l0_0 (v4392 : Int) (v4394 : List WaterNode) (v4395 : List WaterConduit) (v4396 : Int) (v4397 : Int) : (Int × (List Int)) → Option ((Int × (List Int)) ⊕ ((List Int)))
  | (v4393, v4398) =>
    if v4392 ≤ v4393 then
      some (.inr v4398)
    else
      bind2 (geti v4395 v4393) fun j4400 x4401 =>
      if x4401.fValve = true then
        if x4401.fOpen = true then
          room ((v4398.length + 1) * 8) (
            some (.inl ((aw .i64 (v4393 + 1)), (v4398 ++ [v4393])))
          )
        else
          some (.inl ((aw .i64 (v4393 + 1)), v4398))
      else
        some (.inl ((aw .i64 (v4393 + 1)), v4398))
noncomputable def L116l0_0 (v4392 : Int) (v4394 : List WaterNode) (v4395 : List WaterConduit) (v4396 : Int) (v4397 : Int) (s : Int × (List Int)) : Option ((List Int)) := iter (S116l0_0 v4392 v4394 v4395 v4396 v4397) 1000000 s
noncomputable def S90l0_1 (v4439 : Int) (v4441 : List WaterNode) (v4442 : List WaterConduit) (v4443 : List Int) : (Int × (List Bool)) → Option ((Int × (List Bool)) ⊕ ((List Bool)))
  | (v4440, v4444) =>
    if v4439 ≤ v4440 then
      some (.inr v4444)
    else
      bind2 (geti v4443 v4440) fun j4446 x4447 =>
      bind2 (geti v4444 x4447) fun j4449 x4450 =>
      some (.inl ((aw .i64 (v4440 + 1)), (v4444.set j4449 true)))
noncomputable def L90l0_1 (v4439 : Int) (v4441 : List WaterNode) (v4442 : List WaterConduit) (v4443 : List Int) (s : Int × (List Bool)) : Option ((List Bool)) := iter (S90l0_1 v4439 v4441 v4442 v4443) 1000000 s
noncomputable def S156l0_0 (v4486 : Int) : Unit → Option ((Unit) ⊕ (Unit))
  | _ =>
    some (.inr ())
noncomputable def L156l0_0 (v4486 : Int) (s : Unit) : Option (Unit) := iter (S156l0_0 v4486) 1000000 s
-- slices.Index[[]int,int]
noncomputable def F156_0 (v4481 : Int) : Option (Unit) :=
  (L156l0_0 v4481 ()).bind fun _ =>
  some ()
-- slices.Contains[[]int,int]
noncomputable def F147_0 (v4480 : Int) : Option (Bool) :=
  (F156_0 v4480).bind fun _ =>
  some (decide ((0 : Int) ≤ (-1)))
-- water.net).cut$1$1
noncomputable def F146_0 (v4473 : Int) (v4474 : List WaterNode) (v4475 : List WaterConduit) : Option (Bool) :=
  (F91_0 v4473 v4474 v4475).bind fun r4478 =>
  if r4478 = true then
    (F147_0 v4473).bind fun r4497 =>
    some (!r4497)
  else
    some false
noncomputable def S90l1_1 (v4463 : Int) (v4465 : List WaterNode) (v4466 : List WaterConduit) (v4467 : List Int) : (Bool × Int × (List Bool)) → Option ((Bool × Int × (List Bool)) ⊕ (Bool × (List Bool)))
  | (v4462, v4464, v4468) =>
    if v4463 ≤ v4464 then
      some (.inr (v4462, v4468))
    else
      bind2 (geti v4466 v4464) fun j4470 x4471 =>
      (F146_0 v4464 v4465 v4466).bind fun r4501 =>
      if r4501 = true then
        bind2 (geti v4468 x4471.fFrom) fun j4503 x4504 =>
        bind2 (geti v4468 x4471.fTo) fun j4506 x4507 =>
        if (x4504 == x4507) = true then
          some (.inl (v4462, (aw .i64 (v4464 + 1)), v4468))
        else
          ((v4468.set j4503 true)[j4506]?).bind fun x4510 =>
          some (.inl (true, (aw .i64 (v4464 + 1)), ((v4468.set j4503 true).set j4506 true)))
      else
        some (.inl (v4462, (aw .i64 (v4464 + 1)), v4468))
noncomputable def L90l1_1 (v4463 : Int) (v4465 : List WaterNode) (v4466 : List WaterConduit) (v4467 : List Int) (s : Bool × Int × (List Bool)) : Option (Bool × (List Bool)) := iter (S90l1_1 v4463 v4465 v4466 v4467) 1000000 s
noncomputable def S90l2_1 (v4457 : List WaterNode) (v4458 : List WaterConduit) (v4459 : List Int) : (Bool × (List Bool)) → Option ((Bool × (List Bool)) ⊕ ((List Bool)))
  | (v4456, v4460) =>
    if v4456 = true then
      bind2 (L90l1_1 (v4458.length : Int) v4457 v4458 v4459 (false, 0, v4460)) fun r4516 r4517 =>
      some (.inl (r4516, r4517))
    else
      some (.inr v4460)
noncomputable def L90l2_1 (v4457 : List WaterNode) (v4458 : List WaterConduit) (v4459 : List Int) (s : Bool × (List Bool)) : Option ((List Bool)) := iter (S90l2_1 v4457 v4458 v4459) 1000000 s
-- water.net).reached
noncomputable def F90_1 (v4433 : List WaterNode) (v4434 : List WaterConduit) (v4435 : List Int) : Option ((List Bool)) :=
  (inx (v4433.length : Int) 140737488355329).bind fun n4436 =>
  room (n4436) (
    (L90l0_1 (v4435.length : Int) v4433 v4434 v4435 (0, (List.replicate n4436 false))).bind fun r4455 =>
    (L90l2_1 v4433 v4434 v4435 (true, r4455)).bind fun r4521 =>
    some r4521
  )
-- water.net).joins
noncomputable def F145_0 (v4429 : Int) (v4430 : Int) (v4431 : List WaterNode) (v4432 : List WaterConduit) : Option (Bool) :=
  (F90_1 v4431 v4432 ([v4429] : List Int)).bind fun r4525 =>
  bind2 (geti r4525 v4430) fun j4526 x4527 =>
  some x4527
-- water.net).cut$1
noncomputable def F144_0 (v4425 : List WaterNode) (v4426 : List WaterConduit) (v4427 : Int) (v4428 : Int) : Option (Bool) :=
  (F145_0 v4427 v4428 v4425 v4426).bind fun r4532 =>
  some (!r4532)
-- slices.Clip[[]int,int]
noncomputable def F157_0 : Option (Unit) :=
  some ()
noncomputable def S90l0_2 (v4583 : Int) (v4585 : List WaterNode) (v4586 : List WaterConduit) (v4587 : List Int) (v4588 : List Int) : (Int × (List Bool)) → Option ((Int × (List Bool)) ⊕ ((List Bool)))
  | (v4584, v4589) =>
    if v4583 ≤ v4584 then
      some (.inr v4589)
    else
      bind2 (geti v4587 v4584) fun j4591 x4592 =>
      bind2 (geti v4589 x4592) fun j4594 x4595 =>
      some (.inl ((aw .i64 (v4584 + 1)), (v4589.set j4594 true)))
noncomputable def L90l0_2 (v4583 : Int) (v4585 : List WaterNode) (v4586 : List WaterConduit) (v4587 : List Int) (v4588 : List Int) (s : Int × (List Bool)) : Option ((List Bool)) := iter (S90l0_2 v4583 v4585 v4586 v4587 v4588) 1000000 s
noncomputable def S156l0_1 (v4632 : Int) (v4633 : Int) (v4635 : List Int) : Int → Option ((Int) ⊕ ((Unit) ⊕ (Int)))
  | v4634 =>
    if v4633 ≤ v4634 then
      some (.inr (.inl ()))
    else
      bind2 (geti v4635 v4634) fun j4637 x4638 =>
      if v4632 = x4638 then
        some (.inr (.inr (v4634)))
      else
        some (.inl (aw .i64 (v4634 + 1)))
noncomputable def L156l0_1 (v4632 : Int) (v4633 : Int) (v4635 : List Int) (s : Int) : Option ((Unit) ⊕ (Int)) := iter (S156l0_1 v4632 v4633 v4635) 1000000 s
-- slices.Index[[]int,int]
noncomputable def F156_1 (v4630 : Int) (v4631 : List Int) : Option (Int) :=
  (L156l0_1 v4630 (v4631.length : Int) v4631 0).bind fun g4642_ => match g4642_ with
  | .inl () =>
    some (-1)
  | .inr (r4644) =>
    some r4644
-- slices.Contains[[]int,int]
noncomputable def F147_1 (v4628 : Int) (v4629 : List Int) : Option (Bool) :=
  (F156_1 v4628 v4629).bind fun r4648 =>
  some (decide (0 ≤ r4648))
-- water.net).cut$1$1
noncomputable def F146_1 (v4620 : Int) (v4621 : List WaterNode) (v4622 : List WaterConduit) (v4623 : List Int) : Option (Bool) :=
  (F91_0 v4620 v4621 v4622).bind fun r4626 =>
  if r4626 = true then
    (F147_1 v4620 v4623).bind fun r4652 =>
    some (!r4652)
  else
    some false
noncomputable def S90l1_2 (v4609 : Int) (v4611 : List WaterNode) (v4612 : List WaterConduit) (v4613 : List Int) (v4614 : List Int) : (Bool × Int × (List Bool)) → Option ((Bool × Int × (List Bool)) ⊕ (Bool × (List Bool)))
  | (v4608, v4610, v4615) =>
    if v4609 ≤ v4610 then
      some (.inr (v4608, v4615))
    else
      bind2 (geti v4612 v4610) fun j4617 x4618 =>
      (F146_1 v4610 v4611 v4612 v4614).bind fun r4656 =>
      if r4656 = true then
        bind2 (geti v4615 x4618.fFrom) fun j4658 x4659 =>
        bind2 (geti v4615 x4618.fTo) fun j4661 x4662 =>
        if (x4659 == x4662) = true then
          some (.inl (v4608, (aw .i64 (v4610 + 1)), v4615))
        else
          ((v4615.set j4658 true)[j4661]?).bind fun x4665 =>
          some (.inl (true, (aw .i64 (v4610 + 1)), ((v4615.set j4658 true).set j4661 true)))
      else
        some (.inl (v4608, (aw .i64 (v4610 + 1)), v4615))
noncomputable def L90l1_2 (v4609 : Int) (v4611 : List WaterNode) (v4612 : List WaterConduit) (v4613 : List Int) (v4614 : List Int) (s : Bool × Int × (List Bool)) : Option (Bool × (List Bool)) := iter (S90l1_2 v4609 v4611 v4612 v4613 v4614) 1000000 s
noncomputable def S90l2_2 (v4602 : List WaterNode) (v4603 : List WaterConduit) (v4604 : List Int) (v4605 : List Int) : (Bool × (List Bool)) → Option ((Bool × (List Bool)) ⊕ ((List Bool)))
  | (v4601, v4606) =>
    if v4601 = true then
      bind2 (L90l1_2 (v4603.length : Int) v4602 v4603 v4604 v4605 (false, 0, v4606)) fun r4671 r4672 =>
      some (.inl (r4671, r4672))
    else
      some (.inr v4606)
noncomputable def L90l2_2 (v4602 : List WaterNode) (v4603 : List WaterConduit) (v4604 : List Int) (v4605 : List Int) (s : Bool × (List Bool)) : Option ((List Bool)) := iter (S90l2_2 v4602 v4603 v4604 v4605) 1000000 s
-- water.net).reached
noncomputable def F90_2 (v4576 : List WaterNode) (v4577 : List WaterConduit) (v4578 : List Int) (v4579 : List Int) : Option ((List Bool)) :=
  (inx (v4576.length : Int) 140737488355329).bind fun n4580 =>
  room (n4580) (
    (L90l0_2 (v4578.length : Int) v4576 v4577 v4578 v4579 (0, (List.replicate n4580 false))).bind fun r4600 =>
    (L90l2_2 v4576 v4577 v4578 v4579 (true, r4600)).bind fun r4676 =>
    some r4676
  )
-- water.net).joins
noncomputable def F145_1 (v4571 : Int) (v4572 : Int) (v4573 : List WaterNode) (v4574 : List WaterConduit) (v4575 : List Int) : Option (Bool) :=
  (F90_2 v4573 v4574 ([v4571] : List Int) v4575).bind fun r4680 =>
  bind2 (geti r4680 v4572) fun j4681 x4682 =>
  some x4682
-- water.net).cut$1
noncomputable def F144_1 (v4566 : List Int) (v4567 : List WaterNode) (v4568 : List WaterConduit) (v4569 : Int) (v4570 : Int) : Option (Bool) :=
  (F145_1 v4569 v4570 v4567 v4568 v4566).bind fun r4687 =>
  some (!r4687)
-- slices.Clip[[]int,int]
noncomputable def F157_1 (v4712 : List Int) : Option (Unit) :=
  some ()
end Go.AI
