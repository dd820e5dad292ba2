/-
  What the functions compute.
-/
import Derived.Test.YtfglifekecijjaaHWnTy
set_option linter.unusedVariables false
set_option linter.unusedSimpArgs false
set_option maxRecDepth 100000
set_option maxHeartbeats 4000000
namespace Go.AI
noncomputable def S15l0_0 (v11 : List WaterNode) (v12 : List WaterConduit) : Int → Option ((Int) ⊕ ((Unit) ⊕ (Unit)))
  | v10 =>
    if (v11.length : Int) ≤ v10 then
      some (.inr (.inl ()))
    else
      bind2 (geti v11 v10) fun j14 x15 =>
      if (x15.fName.size : Int) ≤ 20 then
        some (.inl (aw .i64 (v10 + 1)))
      else
        some (.inr (.inr ()))
noncomputable def L15l0_0 (v11 : List WaterNode) (v12 : List WaterConduit) (s : Int) : Option ((Unit) ⊕ (Unit)) := iter (S15l0_0 v11 v12) 1000000 s
noncomputable def S15l1_0 (v21 : List WaterNode) (v22 : List WaterConduit) : Int → Option ((Int) ⊕ ((Unit) ⊕ (Unit)))
  | v20 =>
    if (v22.length : Int) ≤ v20 then
      some (.inr (.inl ()))
    else
      bind2 (geti v22 v20) fun j24 x25 =>
      if (x25.fName.size : Int) ≤ 20 then
        some (.inl (aw .i64 (v20 + 1)))
      else
        some (.inr (.inr ()))
noncomputable def L15l1_0 (v21 : List WaterNode) (v22 : List WaterConduit) (s : Int) : Option ((Unit) ⊕ (Unit)) := iter (S15l1_0 v21 v22) 1000000 s
-- guidevanelaw02.Few
noncomputable def F15_0 (v6 : List WaterNode) (v7 : List WaterConduit) : Option (Bool) :=
  if (v6.length : Int) ≤ 12 then
    if (v7.length : Int) ≤ 16 then
      (L15l0_0 v6 v7 0).bind fun g18_ => match g18_ with
      | .inl () =>
        (L15l1_0 v6 v7 0).bind fun g28_ => match g28_ with
        | .inl () =>
          some true
        | .inr () =>
          some false
      | .inr () =>
        some false
    else
      some false
  else
    some false
-- guidevaneref02.Copy
noncomputable def F17_0 (v35 : List WaterNode) (v36 : List WaterConduit) : Option (Unit) :=
  room (v35.length * 40) (
    room (v36.length * 48) (
      some ()
    )
  )
-- water.unless
noncomputable def F72_0 (v45 : Bool) (v46 : Int) : Option (Int) :=
  if v45 = true then
    some 0
  else
    some v46
noncomputable def S71l0_0 (v56 : Int) (v58 : List Int) : Int → Option ((Int) ⊕ ((Unit) ⊕ (Int)))
  | v57 =>
    if v56 ≤ v57 then
      some (.inr (.inl ()))
    else
      bind2 (geti v58 v57) fun j60 x61 =>
      if x61 = 0 then
        some (.inl (aw .i64 (v57 + 1)))
      else
        some (.inr (.inr (x61)))
noncomputable def L71l0_0 (v56 : Int) (v58 : List Int) (s : Int) : Option ((Unit) ⊕ (Int)) := iter (S71l0_0 v56 v58) 1000000 s
-- water.first
noncomputable def F71_0 (v55 : List Int) : Option (Int) :=
  (L71l0_0 (v55.length : Int) v55 0).bind fun g65_ => match g65_ with
  | .inl () =>
    some 0
  | .inr (r67) =>
    some r67
-- water.within
noncomputable def F74_0 (v84 : Int) (v85 : Int) (v86 : Int) : Option (Bool) :=
  if v85 ≤ v84 then
    some (decide (v84 ≤ v86))
  else
    some false
-- water.isSized
noncomputable def F73_0 (v82 : Int) (v83 : Int) : Option (Bool) :=
  (F74_0 v82 (aw .i64 (0 - v83)) v83).bind fun r91 =>
  some r91
noncomputable def S75l0_0 (v102 : ByteArray) (v103 : Int) (v105 : List UInt8) : Int → Option ((Int) ⊕ ((Unit) ⊕ (Unit)))
  | v104 =>
    if v103 ≤ v104 then
      some (.inr (.inl ()))
    else
      bind2 (geti v105 v104) fun j107 x108 =>
      (F74_0 (aw .i64 (x108.toNat : Int)) 97 122).bind fun r112 =>
      if r112 = true then
        some (.inl (aw .i64 (v104 + 1)))
      else
        (F74_0 (aw .i64 (x108.toNat : Int)) 65 90).bind fun r116 =>
        if r116 = true then
          some (.inl (aw .i64 (v104 + 1)))
        else
        if v104 = 0 then
          some (.inr (.inr ()))
        else
        if (x108.toNat : Int) = 45 then
          some (.inl (aw .i64 (v104 + 1)))
        else
          (F74_0 (aw .i64 (x108.toNat : Int)) 48 57).bind fun r122 =>
          if r122 = true then
            some (.inl (aw .i64 (v104 + 1)))
          else
            some (.inr (.inr ()))
noncomputable def L75l0_0 (v102 : ByteArray) (v103 : Int) (v105 : List UInt8) (s : Int) : Option ((Unit) ⊕ (Unit)) := iter (S75l0_0 v102 v103 v105) 1000000 s
-- water.isName
noncomputable def F75_0 (v100 : ByteArray) : Option (Bool) :=
  roomS (v100.size) (
    (L75l0_0 v100 (v100.size : Int) (v100.data.toList) 0).bind fun g124_ => match g124_ with
    | .inl () =>
      (F74_0 (v100.size : Int) 1 12).bind fun r128 =>
      some r128
    | .inr () =>
      some false
  )
noncomputable def S16l0_0 (v73 : Int) (v75 : List WaterNode) (v76 : List WaterConduit) : (Int × (List (ByteArray × Bool))) → Option ((Int × (List (ByteArray × Bool))) ⊕ ((Unit) ⊕ (Int × Int)))
  | (v74, v77) =>
    if v73 ≤ v74 then
      some (.inr (.inl ()))
    else
      bind2 (geti v75 v74) fun j79 x80 =>
      (F73_0 x80.fDraw 10000).bind fun r95 =>
      if x80.fLake = true then
        (F74_0 x80.fHead 0 1000000).bind fun r99 =>
        (F75_0 x80.fName).bind fun r132 =>
        (F72_0 r132 4).bind fun r135 =>
        (F72_0 (!(getM x80.fName false v77)) 5).bind fun r138 =>
        (F72_0 r99 2).bind fun r141 =>
        (F72_0 (decide (x80.fDraw = 0)) 3).bind fun r144 =>
        (F71_0 ([r135, r138, r141, r144] : List Int)).bind fun r147 =>
        if r147 = 0 then
          some (.inl ((aw .i64 (v74 + 1)), (putM x80.fName true v77)))
        else
          some (.inr (.inr (v74, r147)))
      else
        (F75_0 x80.fName).bind fun r151 =>
        (F72_0 r151 4).bind fun r154 =>
        (F72_0 (!(getM x80.fName false v77)) 5).bind fun r157 =>
        (F72_0 r95 2).bind fun r160 =>
        (F72_0 (decide (x80.fHead = 0)) 3).bind fun r163 =>
        (F71_0 ([r154, r157, r160, r163] : List Int)).bind fun r166 =>
        if r166 = 0 then
          some (.inl ((aw .i64 (v74 + 1)), (putM x80.fName true v77)))
        else
          some (.inr (.inr (v74, r166)))
noncomputable def L16l0_0 (v73 : Int) (v75 : List WaterNode) (v76 : List WaterConduit) (s : Int × (List (ByteArray × Bool))) : Option ((Unit) ⊕ (Int × Int)) := iter (S16l0_0 v73 v75 v76) 1000000 s
-- water.CheckNet$1
noncomputable def F76_0 (v190 : Int) (v191 : List WaterNode) (v192 : List WaterConduit) : Option (Bool) :=
  (F74_0 v190 0 (aw .i64 ((v191.length : Int) - 1))).bind fun r195 =>
  some r195
noncomputable def S16l1_0 (v172 : Int) (v174 : List WaterNode) (v175 : List WaterConduit) : (Int × (List (ByteArray × Bool))) → Option ((Int × (List (ByteArray × Bool))) ⊕ ((Unit) ⊕ (Int × Int)))
  | (v173, v176) =>
    if v172 ≤ v173 then
      some (.inr (.inl ()))
    else
      bind2 (geti v175 v173) fun j178 x179 =>
      (F75_0 x179.fName).bind fun r183 =>
      (F72_0 r183 4).bind fun r186 =>
      (F72_0 (!(getM x179.fName false v176)) 5).bind fun r189 =>
      (F76_0 x179.fFrom v174 v175).bind fun r199 =>
      if r199 = true then
        (F76_0 x179.fTo v174 v175).bind fun r203 =>
        (F72_0 r203 6).bind fun r206 =>
        (F72_0 (!(decide (x179.fFrom = x179.fTo))) 13).bind fun r209 =>
        (F74_0 x179.fResist 0 1000).bind fun r212 =>
        (F72_0 r212 2).bind fun r215 =>
        if x179.fValve = true then
          (F72_0 true 3).bind fun r219 =>
          (F71_0 ([r186, r189, r206, r209, r215, r219] : List Int)).bind fun r222 =>
          if r222 = 0 then
            some (.inl ((aw .i64 (v173 + 1)), (putM x179.fName true v176)))
          else
            some (.inr (.inr (v173, r222)))
        else
          (F72_0 x179.fOpen 3).bind fun r226 =>
          (F71_0 ([r186, r189, r206, r209, r215, r226] : List Int)).bind fun r229 =>
          if r229 = 0 then
            some (.inl ((aw .i64 (v173 + 1)), (putM x179.fName true v176)))
          else
            some (.inr (.inr (v173, r229)))
      else
        (F72_0 false 6).bind fun r233 =>
        (F72_0 (!(decide (x179.fFrom = x179.fTo))) 13).bind fun r236 =>
        (F74_0 x179.fResist 0 1000).bind fun r239 =>
        (F72_0 r239 2).bind fun r242 =>
        if x179.fValve = true then
          (F72_0 true 3).bind fun r246 =>
          (F71_0 ([r186, r189, r233, r236, r242, r246] : List Int)).bind fun r249 =>
          if r249 = 0 then
            some (.inl ((aw .i64 (v173 + 1)), (putM x179.fName true v176)))
          else
            some (.inr (.inr (v173, r249)))
        else
          (F72_0 x179.fOpen 3).bind fun r253 =>
          (F71_0 ([r186, r189, r233, r236, r242, r253] : List Int)).bind fun r256 =>
          if r256 = 0 then
            some (.inl ((aw .i64 (v173 + 1)), (putM x179.fName true v176)))
          else
            some (.inr (.inr (v173, r256)))
noncomputable def L16l1_0 (v172 : Int) (v174 : List WaterNode) (v175 : List WaterConduit) (s : Int × (List (ByteArray × Bool))) : Option ((Unit) ⊕ (Int × Int)) := iter (S16l1_0 v172 v174 v175) 1000000 s
-- water.CheckNet
noncomputable def F16_0 (v41 : List WaterNode) (v42 : List WaterConduit) : Option (Int × Int) :=
  if (v41.length : Int) ≤ 0 then
    if (v41.length : Int) ≤ 10 then
      (F72_0 false 10).bind fun r51 =>
      (F72_0 (decide ((v42.length : Int) ≤ 14)) 8).bind fun r54 =>
      (F71_0 ([r51, r54] : List Int)).bind fun r71 =>
      if r71 = 0 then
        (L16l0_0 (v41.length : Int) v41 v42 (0, ([] : List (ByteArray × Bool)))).bind fun g170_ => match g170_ with
        | .inl () =>
          (L16l1_0 (v42.length : Int) v41 v42 (0, ([] : List (ByteArray × Bool)))).bind fun g260_ => match g260_ with
          | .inl () =>
            some (0, 0)
          | .inr (r262, r263) =>
            some (r262, r263)
        | .inr (r264, r265) =>
          some (r264, r265)
      else
        some (0, r71)
    else
      (F72_0 false 10).bind fun r268 =>
      (F72_0 false 8).bind fun r271 =>
      (F71_0 ([r268, r271] : List Int)).bind fun r274 =>
      if r274 = 0 then
        (L16l0_0 (v41.length : Int) v41 v42 (0, ([] : List (ByteArray × Bool)))).bind fun g276_ => match g276_ with
        | .inl () =>
          (L16l1_0 (v42.length : Int) v41 v42 (0, ([] : List (ByteArray × Bool)))).bind fun g278_ => match g278_ with
          | .inl () =>
            some (0, 0)
          | .inr (r280, r281) =>
            some (r280, r281)
        | .inr (r282, r283) =>
          some (r282, r283)
      else
        some (0, r274)
  else
  if (v41.length : Int) ≤ 10 then
    (F72_0 (!(decide ((v42.length : Int) ≤ 0))) 10).bind fun r287 =>
    (F72_0 (decide ((v42.length : Int) ≤ 14)) 8).bind fun r290 =>
    (F71_0 ([r287, r290] : List Int)).bind fun r293 =>
    if r293 = 0 then
      (L16l0_0 (v41.length : Int) v41 v42 (0, ([] : List (ByteArray × Bool)))).bind fun g295_ => match g295_ with
      | .inl () =>
        (L16l1_0 (v42.length : Int) v41 v42 (0, ([] : List (ByteArray × Bool)))).bind fun g297_ => match g297_ with
        | .inl () =>
          some (0, 0)
        | .inr (r299, r300) =>
          some (r299, r300)
      | .inr (r301, r302) =>
        some (r301, r302)
    else
      some (0, r293)
  else
    (F72_0 (!(decide ((v42.length : Int) ≤ 0))) 10).bind fun r305 =>
    (F72_0 false 8).bind fun r308 =>
    (F71_0 ([r305, r308] : List Int)).bind fun r311 =>
    if r311 = 0 then
      (L16l0_0 (v41.length : Int) v41 v42 (0, ([] : List (ByteArray × Bool)))).bind fun g313_ => match g313_ with
      | .inl () =>
        (L16l1_0 (v42.length : Int) v41 v42 (0, ([] : List (ByteArray × Bool)))).bind fun g315_ => match g315_ with
        | .inl () =>
          some (0, 0)
        | .inr (r317, r318) =>
          some (r317, r318)
      | .inr (r319, r320) =>
        some (r319, r320)
    else
      some (0, r311)
-- water.loss
noncomputable def F77_0 (v337 : Int) (v338 : Int) : Option (Int) :=
  some (aw .i64 ((aw .i64 (v337 * v338)) * (max v338 (aw .i64 (0 - v338)))))
-- water.LossOf
noncomputable def S131l0_0 (v371 : ByteArray) : Int → Option ((Int) ⊕ ((Unit) ⊕ (Unit)))
  | v372 =>
    if (v371.size : Int) ≤ v372 then
      some (.inr (.inl ()))
    else
      bind2 (geti (v371.data.toList) v372) fun j374 b375 =>
      if 97 ≤ (b375.toNat : Int) then
        if (b375.toNat : Int) ≤ 122 then
          some (.inl (aw .i64 (v372 + 1)))
        else
        if 65 ≤ (b375.toNat : Int) then
          if (b375.toNat : Int) ≤ 90 then
            some (.inl (aw .i64 (v372 + 1)))
          else
          if v372 = 0 then
            some (.inr (.inr ()))
          else
          if (b375.toNat : Int) = 45 then
            some (.inl (aw .i64 (v372 + 1)))
          else
          if 48 ≤ (b375.toNat : Int) then
            if (b375.toNat : Int) ≤ 57 then
              some (.inl (aw .i64 (v372 + 1)))
            else
              some (.inr (.inr ()))
          else
            some (.inr (.inr ()))
        else
        if v372 = 0 then
          some (.inr (.inr ()))
        else
        if (b375.toNat : Int) = 45 then
          some (.inl (aw .i64 (v372 + 1)))
        else
        if 48 ≤ (b375.toNat : Int) then
          if (b375.toNat : Int) ≤ 57 then
            some (.inl (aw .i64 (v372 + 1)))
          else
            some (.inr (.inr ()))
        else
          some (.inr (.inr ()))
      else
      if 65 ≤ (b375.toNat : Int) then
        if (b375.toNat : Int) ≤ 90 then
          some (.inl (aw .i64 (v372 + 1)))
        else
        if v372 = 0 then
          some (.inr (.inr ()))
        else
        if (b375.toNat : Int) = 45 then
          some (.inl (aw .i64 (v372 + 1)))
        else
        if 48 ≤ (b375.toNat : Int) then
          if (b375.toNat : Int) ≤ 57 then
            some (.inl (aw .i64 (v372 + 1)))
          else
            some (.inr (.inr ()))
        else
          some (.inr (.inr ()))
      else
      if v372 = 0 then
        some (.inr (.inr ()))
      else
      if (b375.toNat : Int) = 45 then
        some (.inl (aw .i64 (v372 + 1)))
      else
      if 48 ≤ (b375.toNat : Int) then
        if (b375.toNat : Int) ≤ 57 then
          some (.inl (aw .i64 (v372 + 1)))
        else
          some (.inr (.inr ()))
      else
        some (.inr (.inr ()))
noncomputable def L131l0_0 (v371 : ByteArray) (s : Int) : Option ((Unit) ⊕ (Unit)) := iter (S131l0_0 v371) 1000000 s
-- guidevanebase.IsName
noncomputable def F131_0 (v368 : ByteArray) : Option (Bool) :=
  if 1 ≤ (v368.size : Int) then
    if (v368.size : Int) ≤ 12 then
      (L131l0_0 v368 0).bind fun g399_ => match g399_ with
      | .inl () =>
        some true
      | .inr () =>
        some false
    else
      some false
  else
    some false
noncomputable def S132l0_0 (v408 : ByteArray) (v410 : List ByteArray) : Int → Option ((Int) ⊕ ((Unit) ⊕ (Unit)))
  | v409 =>
    if (v410.length : Int) ≤ v409 then
      some (.inr (.inl ()))
    else
      bind2 (geti v410 v409) fun j412 x413 =>
      if x413 = v408 then
        some (.inr (.inr ()))
      else
        some (.inl (aw .i64 (v409 + 1)))
noncomputable def L132l0_0 (v408 : ByteArray) (v410 : List ByteArray) (s : Int) : Option ((Unit) ⊕ (Unit)) := iter (S132l0_0 v408 v410) 1000000 s
-- guidevanebase.HasText
noncomputable def F132_0 (v406 : ByteArray) (v407 : List ByteArray) : Option (Bool) :=
  (L132l0_0 v406 v407 0).bind fun g416_ => match g416_ with
  | .inl () =>
    some false
  | .inr () =>
    some true
-- guidevanebase.Within
noncomputable def F20_0 (v424 : Int) (v425 : Int) (v426 : Int) : Option (Bool) :=
  if v425 ≤ v424 then
    some (decide (v424 ≤ v426))
  else
    some false
-- guidevaneref02.nodeErr
noncomputable def F78_0 (v363 : ByteArray) (v364 : Bool) (v365 : Int) (v366 : Int) (v367 : List ByteArray) : Option (Int) :=
  (F131_0 v363).bind fun r404 =>
  if r404 = true then
    (F132_0 v363 v367).bind fun r421 =>
    if r421 = true then
      some 5
    else
    if v364 = true then
      (F20_0 v365 0 1000000).bind fun r431 =>
      if r431 = true then
        if v366 = 0 then
          some 0
        else
          some 3
      else
        some 2
    else
      (F20_0 v366 (-10000) 10000).bind fun r436 =>
      if r436 = true then
        if v365 = 0 then
          some 0
        else
          some 3
      else
        some 2
  else
    some 4
noncomputable def S19l0_0 (v356 : List WaterNode) (v357 : List WaterConduit) : (Int × (List ByteArray)) → Option ((Int × (List ByteArray)) ⊕ ((Unit) ⊕ (Int × Int)))
  | (v355, v358) =>
    if (v356.length : Int) ≤ v355 then
      some (.inr (.inl ()))
    else
      bind2 (geti v356 v355) fun j360 x361 =>
      (F78_0 x361.fName x361.fLake x361.fHead x361.fDraw v358).bind fun r442 =>
      if r442 = 0 then
        room ((v358.length + 1) * 16) (
          some (.inl ((aw .i64 (v355 + 1)), (v358 ++ [x361.fName])))
        )
      else
        some (.inr (.inr (v355, r442)))
noncomputable def L19l0_0 (v356 : List WaterNode) (v357 : List WaterConduit) (s : Int × (List ByteArray)) : Option ((Unit) ⊕ (Int × Int)) := iter (S19l0_0 v356 v357) 1000000 s
-- guidevaneref02.conduitErr
noncomputable def F79_0 (v457 : ByteArray) (v458 : Int) (v459 : Int) (v460 : Int) (v461 : Bool) (v462 : Bool) (v463 : List WaterNode) (v464 : List WaterConduit) (v465 : List ByteArray) : Option (Int) :=
  (F131_0 v457).bind fun r468 =>
  if r468 = true then
    (F132_0 v457 v465).bind fun r472 =>
    if r472 = true then
      some 5
    else
      (F20_0 v458 0 (aw .i64 ((v463.length : Int) - 1))).bind fun r476 =>
      if r476 = true then
        (F20_0 v459 0 (aw .i64 ((v463.length : Int) - 1))).bind fun r480 =>
        if r480 = true then
          if v458 = v459 then
            some 13
          else
            (F20_0 v460 0 1000).bind fun r485 =>
            if r485 = true then
              if v461 = true then
                some 0
              else
              if v462 = true then
                some 0
              else
                some 3
            else
              some 2
        else
          some 6
      else
        some 6
  else
    some 4
noncomputable def S19l1_0 (v450 : List WaterNode) (v451 : List WaterConduit) : (Int × (List ByteArray)) → Option ((Int × (List ByteArray)) ⊕ ((Unit) ⊕ (Int × Int)))
  | (v449, v452) =>
    if (v451.length : Int) ≤ v449 then
      some (.inr (.inl ()))
    else
      bind2 (geti v451 v449) fun j454 x455 =>
      (F79_0 x455.fName x455.fFrom x455.fTo x455.fResist x455.fValve x455.fOpen v450 v451 v452).bind fun r492 =>
      if r492 = 0 then
        room ((v452.length + 1) * 16) (
          some (.inl ((aw .i64 (v449 + 1)), (v452 ++ [x455.fName])))
        )
      else
        some (.inr (.inr (v449, r492)))
noncomputable def L19l1_0 (v450 : List WaterNode) (v451 : List WaterConduit) (s : Int × (List ByteArray)) : Option ((Unit) ⊕ (Int × Int)) := iter (S19l1_0 v450 v451) 1000000 s
-- guidevaneref02.CheckNet
noncomputable def F19_0 (v349 : List WaterNode) (v350 : List WaterConduit) : Option (Int × Int) :=
  if (v349.length : Int) = 0 then
    some (0, 10)
  else
  if (v350.length : Int) = 0 then
    some (0, 10)
  else
  if (v349.length : Int) ≤ 10 then
    if (v350.length : Int) ≤ 14 then
      (L19l0_0 v349 v350 (0, ([] : List ByteArray))).bind fun g447_ => match g447_ with
      | .inl () =>
        (L19l1_0 v349 v350 (0, ([] : List ByteArray))).bind fun g497_ => match g497_ with
        | .inl () =>
          some (0, 0)
        | .inr (r499, r500) =>
          some (r499, r500)
      | .inr (r501, r502) =>
        some (r501, r502)
    else
      some (0, 8)
  else
    some (0, 8)
-- guidevaneref02.FlowErr
noncomputable def F41_0 (v528 : Int) : Option (Int) :=
  some (max v528 (aw .i64 (0 - v528)))
-- guidevaneref02.Loss
noncomputable def F22_0 (v526 : Int) (v527 : Int) : Option (Int) :=
  (F41_0 v527).bind fun r532 =>
  some (aw .i64 ((aw .i64 (v526 * v527)) * r532))
-- guidevanelaw02.WaterNets
noncomputable def F87_0 (v961 : List WaterNode) (v962 : List WaterConduit) : Option (Int) :=
  bind2 (F16_0 v961 v962) fun r965 r966 =>
  some r966
-- water.net).nodeErr
noncomputable def F88_0 (v971 : Int) (v972 : List WaterNode) (v973 : List WaterConduit) : Option (Int) :=
  (F74_0 v971 0 (aw .i64 ((v972.length : Int) - 1))).bind fun r976 =>
  (F72_0 r976 6).bind fun r979 =>
  some r979
noncomputable def S135l0_0 (v1099 : Int) (v1101 : List WaterNode) (v1102 : List WaterConduit) : (Int × (List Int)) → Option ((Int × (List Int)) ⊕ ((List Int)))
  | (v1100, v1103) =>
    if v1099 ≤ v1100 then
      some (.inr v1103)
    else
      bind2 (geti v1101 v1100) fun j1105 x1106 =>
      if x1106.fLake = true then
        room ((v1103.length + 1) * 8) (
          some (.inl ((aw .i64 (v1100 + 1)), (v1103 ++ [v1100])))
        )
      else
        some (.inl ((aw .i64 (v1100 + 1)), v1103))
noncomputable def L135l0_0 (v1099 : Int) (v1101 : List WaterNode) (v1102 : List WaterConduit) (s : Int × (List Int)) : Option ((List Int)) := iter (S135l0_0 v1099 v1101 v1102) 1000000 s
-- water.net).lakes
noncomputable def F135_0 (v1097 : List WaterNode) (v1098 : List WaterConduit) : Option ((List Int)) :=
  (L135l0_0 (v1097.length : Int) v1097 v1098 (0, ([] : List Int))).bind fun r1113 =>
  some r1113
noncomputable def F32_0 (v1233 : List WaterNode) (v1234 : List WaterConduit) : Option (Int) :=
  bind2 (F19_0 v1233 v1234) fun r1237 r1238 =>
  some r1238
-- guidevaneref02.NodeErr
noncomputable def F33_0 (v1244 : Int) (v1245 : List WaterNode) (v1246 : List WaterConduit) : Option (Int) :=
  (F20_0 v1244 0 (aw .i64 ((v1245.length : Int) - 1))).bind fun r1249 =>
  if r1249 = true then
    some 0
  else
    some 6
noncomputable def S137l0_0 (v1538 : List WaterNode) (v1539 : List WaterConduit) : (Int × Int × (List Bool)) → Option ((Int × Int × (List Bool)) ⊕ (Int × (List Bool)))
  | (v1536, v1537, v1540) =>
    if (v1538.length : Int) ≤ v1537 then
      some (.inr (v1536, v1540))
    else
      bind2 (geti v1538 v1537) fun j1542 x1543 =>
      bind2 (geti v1540 v1537) fun j1545 x1546 =>
      ((v1540.set j1545 x1543.fLake)[j1545]?).bind fun x1548 =>
      if x1548 = true then
        some (.inl (v1536, (aw .i64 (v1537 + 1)), (v1540.set j1545 x1543.fLake)))
      else
        some (.inl ((aw .i64 (v1536 + 1)), (aw .i64 (v1537 + 1)), (v1540.set j1545 x1543.fLake)))
noncomputable def L137l0_0 (v1538 : List WaterNode) (v1539 : List WaterConduit) (s : Int × Int × (List Bool)) : Option (Int × (List Bool)) := iter (S137l0_0 v1538 v1539) 1000000 s
noncomputable def S137l1_0 (v1565 : Int) (v1568 : List WaterNode) (v1569 : List WaterConduit) : (Bool × Int × (List Bool) × (List Int) × (List Int)) → Option ((Bool × Int × (List Bool) × (List Int) × (List Int)) ⊕ (Bool × (List Bool) × (List Int) × (List Int)))
  | (v1566, v1567, v1570, v1571, v1572) =>
    if (v1569.length : Int) ≤ v1567 then
      some (.inr (v1566, v1570, v1571, v1572))
    else
    if v1566 = true then
      some (.inr (v1566, v1570, v1571, v1572))
    else
      bind2 (geti v1569 v1567) fun j1575 x1576 =>
      if x1576.fOpen = true then
        bind2 (geti v1570 x1576.fFrom) fun j1579 x1580 =>
        bind2 (geti v1570 x1576.fTo) fun j1582 x1583 =>
        if (x1580 == x1583) = true then
          some (.inl (v1566, (aw .i64 (v1567 + 1)), v1570, v1571, v1572))
        else
        if x1583 = true then
          room ((v1571.length + 1) * 8) (
            room ((v1572.length + 1) * 8) (
              some (.inl (true, (aw .i64 (v1567 + 1)), (v1570.set j1579 true), (v1571 ++ [v1567]), (v1572 ++ [x1576.fFrom])))
            )
          )
        else
          room ((v1571.length + 1) * 8) (
            room ((v1572.length + 1) * 8) (
              some (.inl (true, (aw .i64 (v1567 + 1)), (v1570.set j1582 true), (v1571 ++ [v1567]), (v1572 ++ [x1576.fTo])))
            )
          )
      else
        some (.inl (v1566, (aw .i64 (v1567 + 1)), v1570, v1571, v1572))
noncomputable def L137l1_0 (v1565 : Int) (v1568 : List WaterNode) (v1569 : List WaterConduit) (s : Bool × Int × (List Bool) × (List Int) × (List Int)) : Option (Bool × (List Bool) × (List Int) × (List Int)) := iter (S137l1_0 v1565 v1568 v1569) 1000000 s
noncomputable def S137l2_0 (v1557 : Int) (v1559 : List WaterNode) (v1560 : List WaterConduit) : (Bool × (List Bool) × (List Int) × (List Int)) → Option ((Bool × (List Bool) × (List Int) × (List Int)) ⊕ ((List Int) × (List Int)))
  | (v1558, v1561, v1562, v1563) =>
    if v1558 = true then
      bind4 (L137l1_0 v1557 v1559 v1560 (false, 0, v1561, v1562, v1563)) fun r1599 r1600 r1601 r1602 =>
      some (.inl (r1599, r1600, r1601, r1602))
    else
      some (.inr (v1562, v1563))
noncomputable def L137l2_0 (v1557 : Int) (v1559 : List WaterNode) (v1560 : List WaterConduit) (s : Bool × (List Bool) × (List Int) × (List Int)) : Option ((List Int) × (List Int)) := iter (S137l2_0 v1557 v1559 v1560) 1000000 s
-- guidevaneref02.Tree
noncomputable def F137_0 (v1531 : List WaterNode) (v1532 : List WaterConduit) : Option (Bool × (List Int) × (List Int)) :=
  (inx (v1531.length : Int) 140737488355329).bind fun n1533 =>
  room (n1533) (
    bind2 (L137l0_0 v1531 v1532 (0, 0, (List.replicate n1533 false))) fun r1555 r1556 =>
    bind2 (L137l2_0 r1555 v1531 v1532 (true, r1556, ([] : List Int), ([] : List Int))) fun r1607 r1608 =>
    some ((decide ((r1608.length : Int) = r1555)), r1607, r1608)
  )
noncomputable def S68l0_0 (v1630 : Int) (v1632 : List Int) : Int → Option ((Int) ⊕ ((Unit) ⊕ (Unit)))
  | v1631 =>
    if (v1632.length : Int) ≤ v1631 then
      some (.inr (.inl ()))
    else
      bind2 (geti v1632 v1631) fun j1634 x1635 =>
      if x1635 = v1630 then
        some (.inr (.inr ()))
      else
        some (.inl (aw .i64 (v1631 + 1)))
noncomputable def L68l0_0 (v1630 : Int) (v1632 : List Int) (s : Int) : Option ((Unit) ⊕ (Unit)) := iter (S68l0_0 v1630 v1632) 1000000 s
-- guidevanebase.Has
noncomputable def F68_0 (v1628 : Int) (v1629 : List Int) : Option (Bool) :=
  (L68l0_0 v1628 v1629 0).bind fun g1638_ => match g1638_ with
  | .inl () =>
    some false
  | .inr () =>
    some true
noncomputable def S97l0_0 (v1620 : List WaterNode) (v1621 : List WaterConduit) (v1622 : List Int) : (Int × Int) → Option ((Int × Int) ⊕ ((Int) ⊕ (Int)))
  | (v1618, v1619) =>
    if (v1621.length : Int) ≤ v1619 then
      some (.inr (.inl (v1618)))
    else
      bind2 (geti v1621 v1619) fun j1624 x1625 =>
      if x1625.fOpen = true then
        (F68_0 v1619 v1622).bind fun r1643 =>
        if r1643 = true then
          some (.inl (v1618, (aw .i64 (v1619 + 1))))
        else
        if 0 ≤ v1618 then
          some (.inr (.inr (v1618)))
        else
          some (.inl (v1619, (aw .i64 (v1619 + 1))))
      else
        some (.inl (v1618, (aw .i64 (v1619 + 1))))
noncomputable def L97l0_0 (v1620 : List WaterNode) (v1621 : List WaterConduit) (v1622 : List Int) (s : Int × Int) : Option ((Int) ⊕ (Int)) := iter (S97l0_0 v1620 v1621 v1622) 1000000 s
-- guidevaneref02.Closing
noncomputable def F97_0 (v1529 : List WaterNode) (v1530 : List WaterConduit) : Option (Int × Int) :=
  bind3 (F137_0 v1529 v1530) fun r1614 r1615 r1616 =>
  if r1614 = true then
    (L97l0_0 v1529 v1530 r1615 ((-1), 0)).bind fun g1648_ => match g1648_ with
    | .inl (r1650) =>
      some (r1650, 0)
    | .inr (r1651) =>
      some ((-1), 8)
  else
    some ((-1), 14)
-- guidevaneref02.FormErr
noncomputable def F38_0 (v1523 : List WaterNode) (v1524 : List WaterConduit) : Option (Int) :=
  (F32_0 v1523 v1524).bind fun r1527 =>
  if r1527 = 0 then
    bind2 (F97_0 v1523 v1524) fun r1656 r1657 =>
    some r1657
  else
    some r1527
noncomputable def S151l0_0 (v1717 : Int) (v1719 : List WaterNode) (v1720 : List WaterConduit) (v1722 : List WaterNode) (v1723 : List WaterConduit) (v1724 : List Branch) (v1726 : List Branch) (v1728 : List Int) : (Int × (List Bool)) → Option ((Int × (List Bool)) ⊕ ((List Bool)))
  | (v1718, v1727) =>
    if v1717 ≤ v1718 then
      some (.inr v1727)
    else
      bind2 (geti v1728 v1718) fun j1730 x1731 =>
      bind2 (geti v1727 x1731) fun j1733 x1734 =>
      some (.inl ((aw .i64 (v1718 + 1)), (v1727.set j1733 true)))
noncomputable def L151l0_0 (v1717 : Int) (v1719 : List WaterNode) (v1720 : List WaterConduit) (v1722 : List WaterNode) (v1723 : List WaterConduit) (v1724 : List Branch) (v1726 : List Branch) (v1728 : List Int) (s : Int × (List Bool)) : Option ((List Bool)) := iter (S151l0_0 v1717 v1719 v1720 v1722 v1723 v1724 v1726 v1728) 1000000 s
-- water.net).grow$1
noncomputable def F159_0 (v1759 : ByteArray) (v1760 : Int) (v1761 : Int) (v1762 : Int) (v1763 : Bool) (v1764 : Bool) (v1765 : List Bool) : Option (Bool) :=
  if v1764 = true then
    bind2 (geti v1765 v1760) fun j1767 x1768 =>
    bind2 (geti v1765 v1761) fun j1770 x1771 =>
    some (!(x1768 == x1771))
  else
    some false
noncomputable def S158l0_0 (v1751 : Int) (v1753 : List WaterConduit) (v1754 : List Bool) : Int → Option ((Int) ⊕ ((Unit) ⊕ (Int)))
  | v1752 =>
    if v1751 ≤ v1752 then
      some (.inr (.inl ()))
    else
      bind2 (geti v1753 v1752) fun j1756 x1757 =>
      (F159_0 x1757.fName x1757.fFrom x1757.fTo x1757.fResist x1757.fValve x1757.fOpen v1754).bind fun r1776 =>
      if r1776 = true then
        some (.inr (.inr (v1752)))
      else
        some (.inl (aw .i64 (v1752 + 1)))
noncomputable def L158l0_0 (v1751 : Int) (v1753 : List WaterConduit) (v1754 : List Bool) (s : Int) : Option ((Unit) ⊕ (Int)) := iter (S158l0_0 v1751 v1753 v1754) 1000000 s
-- api.WaterConduit]
noncomputable def F158_0 (v1749 : List WaterConduit) (v1750 : List Bool) : Option (Int) :=
  (L158l0_0 (v1749.length : Int) v1749 v1750 0).bind fun g1779_ => match g1779_ with
  | .inl () =>
    some (-1)
  | .inr (r1781) =>
    some r1781
noncomputable def S162l0_0 (v1803 : Bool) (v1804 : Int) (v1806 : List Bool) : Int → Option ((Int) ⊕ ((Unit) ⊕ (Int)))
  | v1805 =>
    if v1804 ≤ v1805 then
      some (.inr (.inl ()))
    else
      bind2 (geti v1806 v1805) fun j1808 x1809 =>
      if (v1803 == x1809) = true then
        some (.inr (.inr (v1805)))
      else
        some (.inl (aw .i64 (v1805 + 1)))
noncomputable def L162l0_0 (v1803 : Bool) (v1804 : Int) (v1806 : List Bool) (s : Int) : Option ((Unit) ⊕ (Int)) := iter (S162l0_0 v1803 v1804 v1806) 1000000 s
-- slices.Index[[]bool,bool]
noncomputable def F162_0 (v1801 : Bool) (v1802 : List Bool) : Option (Int) :=
  (L162l0_0 v1801 (v1802.length : Int) v1802 0).bind fun g1813_ => match g1813_ with
  | .inl () =>
    some (-1)
  | .inr (r1815) =>
    some r1815
-- slices.Contains[[]bool,bool]
noncomputable def F160_0 (v1799 : Bool) (v1800 : List Bool) : Option (Bool) :=
  (F162_0 v1799 v1800).bind fun r1819 =>
  some (decide (0 ≤ r1819))
noncomputable def S151l1_0 (v1827 : List WaterNode) (v1828 : List WaterConduit) (v1830 : List WaterNode) (v1831 : List WaterConduit) (v1832 : List Branch) : ((List Branch) × (List Bool)) → Option (((List Branch) × (List Bool)) ⊕ (Int × (List Branch)))
  | (v1834, v1835) =>
    (F158_0 v1828 v1835).bind fun r1838 =>
    if 0 ≤ r1838 then
      bind2 (geti v1828 r1838) fun j1840 x1841 =>
      bind2 (geti v1835 x1841.fTo) fun j1843 x1844 =>
      if x1844 = true then
        bind2 (geti v1835 x1841.fFrom) fun j1847 x1848 =>
        room ((v1834.length + 1) * 16) (
          some (.inl ((v1834 ++ [(⟨r1838, x1841.fFrom⟩ : Branch)]), (v1835.set j1847 true)))
        )
      else
        room ((v1834.length + 1) * 16) (
          some (.inl ((v1834 ++ [(⟨r1838, x1841.fTo⟩ : Branch)]), (v1835.set j1843 true)))
        )
    else
      (F160_0 false v1835).bind fun r1854 =>
      (F72_0 (!r1854) 14).bind fun r1857 =>
      some (.inr (r1857, v1834))
noncomputable def L151l1_0 (v1827 : List WaterNode) (v1828 : List WaterConduit) (v1830 : List WaterNode) (v1831 : List WaterConduit) (v1832 : List Branch) (s : (List Branch) × (List Bool)) : Option (Int × (List Branch)) := iter (S151l1_0 v1827 v1828 v1830 v1831 v1832) 1000000 s
-- water.net).grow
noncomputable def F151_0 (v1690 : List WaterNode) (v1691 : List WaterConduit) : Option (Int × (List Branch)) :=
  (inx (v1690.length : Int) 140737488355329).bind fun n1692 =>
  room (n1692) (
    (F135_0 v1690 v1691).bind fun r1697 =>
    (L151l0_0 (r1697.length : Int) v1690 v1691 ([] : List WaterNode) ([] : List WaterConduit) ([] : List Branch) ([] : List Branch) r1697 (0, (List.replicate n1692 false))).bind fun r1739 =>
    bind2 (L151l1_0 v1690 v1691 ([] : List WaterNode) ([] : List WaterConduit) ([] : List Branch) (([] : List Branch), r1739)) fun r1862 r1863 =>
    some (r1862, r1863)
  )
-- water.net).closed$1
noncomputable def F153_0 (v1897 : Int) (v1898 : Int) (v1899 : Int) : Option (Bool) :=
  some (decide (v1897 = v1899))
noncomputable def S161l0_0 (v1889 : Int) (v1891 : List Branch) (v1892 : Int) : Int → Option ((Int) ⊕ ((Unit) ⊕ (Int)))
  | v1890 =>
    if v1889 ≤ v1890 then
      some (.inr (.inl ()))
    else
      bind2 (geti v1891 v1890) fun j1894 x1895 =>
      (F153_0 x1895.fconduit x1895.fnode v1892).bind fun r1903 =>
      if r1903 = true then
        some (.inr (.inr (v1890)))
      else
        some (.inl (aw .i64 (v1890 + 1)))
noncomputable def L161l0_0 (v1889 : Int) (v1891 : List Branch) (v1892 : Int) (s : Int) : Option ((Unit) ⊕ (Int)) := iter (S161l0_0 v1889 v1891 v1892) 1000000 s
-- water.branch]
noncomputable def F161_0 (v1887 : List Branch) (v1888 : Int) : Option (Int) :=
  (L161l0_0 (v1887.length : Int) v1887 v1888 0).bind fun g1906_ => match g1906_ with
  | .inl () =>
    some (-1)
  | .inr (r1908) =>
    some r1908
-- water.branch]
noncomputable def F152_0 (v1885 : List Branch) (v1886 : Int) : Option (Bool) :=
  (F161_0 v1885 v1886).bind fun r1912 =>
  some (decide (0 ≤ r1912))
noncomputable def S138l0_0 (v1920 : Int) (v1922 : List WaterNode) (v1923 : List WaterConduit) (v1925 : List WaterNode) (v1926 : List WaterConduit) (v1927 : List Branch) (v1929 : List Branch) : (Int × Int) → Option ((Int × Int) ⊕ ((Int) ⊕ (Int × Int)))
  | (v1921, v1928) =>
    if v1920 ≤ v1921 then
      some (.inr (.inl (v1928)))
    else
      bind2 (geti v1923 v1921) fun j1931 x1932 =>
      (F152_0 v1929 v1921).bind fun r1936 =>
      if x1932.fOpen = true then
        if r1936 = true then
          some (.inl ((aw .i64 (v1921 + 1)), v1928))
        else
        if 0 ≤ v1928 then
          some (.inr (.inr (v1928, v1928)))
        else
          some (.inl ((aw .i64 (v1921 + 1)), v1921))
      else
        some (.inl ((aw .i64 (v1921 + 1)), v1928))
noncomputable def L138l0_0 (v1920 : Int) (v1922 : List WaterNode) (v1923 : List WaterConduit) (v1925 : List WaterNode) (v1926 : List WaterConduit) (v1927 : List Branch) (v1929 : List Branch) (s : Int × Int) : Option ((Int) ⊕ (Int × Int)) := iter (S138l0_0 v1920 v1922 v1923 v1925 v1926 v1927 v1929) 1000000 s
-- water.net).closed
noncomputable def F138_0 (v1688 : List WaterNode) (v1689 : List WaterConduit) : Option (Int × Int × (List Branch)) :=
  bind2 (F151_0 v1688 v1689) fun r1868 r1869 =>
  if r1868 = 0 then
    (L138l0_0 (v1689.length : Int) v1688 v1689 ([] : List WaterNode) ([] : List WaterConduit) ([] : List Branch) r1869 (0, (-1))).bind fun g1943_ => match g1943_ with
    | .inl (r1945) =>
      some (r1945, 0, r1869)
    | .inr (r1946, r1947) =>
      some (r1946, 8, r1869)
  else
    some ((-1), r1868, r1869)
-- water.openTree
noncomputable def F99_0 (v1682 : List WaterNode) (v1683 : List WaterConduit) : Option ((Int × Int × (List Branch)) ⊕ (Int)) :=
  (F87_0 v1682 v1683).bind fun r1686 =>
  if r1686 = 0 then
    bind3 (F138_0 v1682 v1683) fun r1953 r1954 r1955 =>
    some (.inl (r1953, r1954, r1955))
  else
    some (.inr (r1686))
-- water.openClosing
noncomputable def S101l0_0 (v2040 : Int) (v2041 : Int) (v2043 : List WaterNode) (v2044 : List WaterConduit) (v2045 : List Branch) (v2046 : Int) (v2047 : List Int) (v2048 : List Int) (v2049 : List Int) : (Int × (List Int) × (List Int)) → Option ((Int × (List Int) × (List Int)) ⊕ ((List Int) × (List Int)))
  | (v2042, v2050, v2051) =>
    if v2041 ≤ v2042 then
      some (.inr (v2050, v2051))
    else
      bind2 (geti v2043 v2042) fun j2053 x2054 =>
      bind2 (geti v2051 v2042) fun j2056 x2057 =>
      bind2 (geti v2050 v2042) fun j2059 x2060 =>
      some (.inl ((aw .i64 (v2042 + 1)), (v2050.set j2059 (aw .i64 (1000 * x2054.fHead))), (v2051.set j2056 x2054.fDraw)))
noncomputable def L101l0_0 (v2040 : Int) (v2041 : Int) (v2043 : List WaterNode) (v2044 : List WaterConduit) (v2045 : List Branch) (v2046 : Int) (v2047 : List Int) (v2048 : List Int) (v2049 : List Int) (s : Int × (List Int) × (List Int)) : Option ((List Int) × (List Int)) := iter (S101l0_0 v2040 v2041 v2043 v2044 v2045 v2046 v2047 v2048 v2049) 1000000 s
-- water.branch]
noncomputable def F139_0 (v2081 : List Branch) : Option (Unit) :=
  some ()
-- water.tree).other
noncomputable def F140_0 (v2107 : Int) (v2108 : Int) (v2109 : Int) (v2110 : List WaterNode) (v2111 : List WaterConduit) (v2112 : List Branch) : Option (Int × Int) :=
  bind2 (geti v2111 v2108) fun j2113 x2114 =>
  if x2114.fTo = v2109 then
    some (x2114.fFrom, 1)
  else
    some (x2114.fTo, (-1))
noncomputable def S154l0_0 (v2175 : Int) (v2176 : List WaterNode) (v2177 : List WaterConduit) (v2178 : List Branch) (v2179 : List Int) (v2180 : List Int) (v2182 : List Int) : (Int × (List Int) × (List Int)) → Option ((Int × (List Int) × (List Int)) ⊕ ((List Int) × (List Int)))
  | (v2174, v2181, v2183) =>
    if 0 ≤ v2174 then
      bind2 (geti v2178 v2174) fun j2185 x2186 =>
      bind2 (F140_0 v2175 x2186.fconduit x2186.fnode v2176 v2177 v2178) fun r2190 r2191 =>
      bind2 (geti v2183 x2186.fnode) fun j2192 x2193 =>
      bind2 (geti v2181 x2186.fconduit) fun j2195 x2196 =>
      bind2 (geti v2183 r2190) fun j2198 x2199 =>
      some (.inl ((aw .i64 (v2174 - 1)), (v2181.set j2195 (aw .i64 (r2191 * x2193))), (v2183.set j2198 (aw .i64 (x2199 + x2193)))))
    else
      some (.inr (v2181, v2183))
noncomputable def L154l0_0 (v2175 : Int) (v2176 : List WaterNode) (v2177 : List WaterConduit) (v2178 : List Branch) (v2179 : List Int) (v2180 : List Int) (v2182 : List Int) (s : Int × (List Int) × (List Int)) : Option ((List Int) × (List Int)) := iter (S154l0_0 v2175 v2176 v2177 v2178 v2179 v2180 v2182) 1000000 s
-- water.branch]$1
noncomputable def F154_2 (v2165 : Int) (v2166 : List WaterNode) (v2167 : List WaterConduit) (v2168 : List Branch) (v2169 : List Int) (v2170 : List Int) (v2171 : List Int) (v2172 : List Int) (v2173 : List Int) : Option ((List Int) × (List Int)) :=
  bind2 (L154l0_0 v2165 v2166 v2167 v2168 v2169 v2170 v2172 ((aw .i64 ((v2168.length : Int) - 1)), v2171, v2173)) fun r2205 r2206 =>
  some (r2205, r2206)
noncomputable def S101l2_0 (v2213 : Int) (v2215 : List WaterNode) (v2216 : List WaterConduit) (v2217 : List Branch) (v2218 : Int) (v2219 : List Int) (v2220 : List Int) (v2221 : List Int) : (Int × (List Int)) → Option ((Int × (List Int)) ⊕ ((List Int)))
  | (v2214, v2222) =>
    if v2213 ≤ v2214 then
      some (.inr v2222)
    else
      bind2 (geti v2217 v2214) fun j2224 x2225 =>
      bind2 (F140_0 v2218 x2225.fconduit x2225.fnode v2215 v2216 v2217) fun r2229 r2230 =>
      bind2 (geti v2222 r2229) fun j2231 x2232 =>
      bind2 (geti v2216 x2225.fconduit) fun j2234 x2235 =>
      bind2 (geti v2221 x2225.fconduit) fun j2237 x2238 =>
      (F77_0 x2235.fResist (aw .i64 (r2230 * x2238))).bind fun r2242 =>
      bind2 (geti v2222 x2225.fnode) fun j2243 x2244 =>
      some (.inl ((aw .i64 (v2214 + 1)), (v2222.set j2243 (aw .i64 (x2232 - r2242)))))
noncomputable def L101l2_0 (v2213 : Int) (v2215 : List WaterNode) (v2216 : List WaterConduit) (v2217 : List Branch) (v2218 : Int) (v2219 : List Int) (v2220 : List Int) (v2221 : List Int) (s : Int × (List Int)) : Option ((List Int)) := iter (S101l2_0 v2213 v2215 v2216 v2217 v2218 v2219 v2220 v2221) 1000000 s
-- water.tree).state
noncomputable def F101_0 (v2027 : Int) (v2028 : Int) (v2029 : List WaterNode) (v2030 : List WaterConduit) (v2031 : List Branch) : Option ((List Int) × (List Int)) :=
  (inx (v2030.length : Int) 140737488355329).bind fun n2032 =>
  room (n2032 * 8) (
    (inx (v2029.length : Int) 140737488355329).bind fun n2035 =>
    room (n2035 * 8) (
      room (n2035 * 8) (
        bind2 (L101l0_0 v2028 (v2029.length : Int) v2029 v2030 v2031 v2027 ([] : List Int) ([] : List Int) (List.replicate n2032 (0 : Int)) (0, (List.replicate n2035 (0 : Int)), (List.replicate n2035 (0 : Int)))) fun r2066 r2067 =>
        if 0 ≤ v2027 then
          bind2 (geti v2030 v2027) fun j2069 x2070 =>
          bind2 (geti (List.replicate n2032 (0 : Int)) v2027) fun j2072 x2073 =>
          bind2 (geti r2067 x2070.fFrom) fun j2075 x2076 =>
          bind2 (geti (r2067.set j2075 (aw .i64 (x2076 + v2028))) x2070.fTo) fun j2078 x2079 =>
          (F139_0 v2031).bind fun _ =>
          bind2 (F154_2 v2027 v2029 v2030 v2031 ([] : List Int) ([] : List Int) ((List.replicate n2032 (0 : Int)).set j2072 v2028) r2066 ((r2067.set j2075 (aw .i64 (x2076 + v2028))).set j2078 (aw .i64 (x2079 - v2028)))) fun r2211 r2212 =>
          (L101l2_0 (v2031.length : Int) v2029 v2030 v2031 v2027 ([] : List Int) ([] : List Int) r2211 (0, r2066)).bind fun r2249 =>
          some (r2211, r2249)
        else
          (F139_0 v2031).bind fun _ =>
          bind2 (F154_2 v2027 v2029 v2030 v2031 ([] : List Int) ([] : List Int) (List.replicate n2032 (0 : Int)) r2066 r2067) fun r2254 r2255 =>
          (L101l2_0 (v2031.length : Int) v2029 v2030 v2031 v2027 ([] : List Int) ([] : List Int) r2254 (0, r2066)).bind fun r2258 =>
          some (r2254, r2258)
      )
    )
  )
-- water.StateAt
noncomputable def F102_0 (v2490 : Int) (v2491 : Int) (v2492 : List WaterNode) (v2493 : List WaterConduit) (v2494 : List Branch) : Option (Int) :=
  bind2 (geti v2493 v2490) fun j2495 x2496 =>
  bind2 (F101_0 v2490 v2491 v2492 v2493 v2494) fun r2500 r2501 =>
  (F77_0 x2496.fResist v2491).bind fun r2504 =>
  bind2 (geti r2501 x2496.fFrom) fun j2505 x2506 =>
  bind2 (geti r2501 x2496.fTo) fun j2508 x2509 =>
  some (aw .i64 (r2504 - (aw .i64 (x2506 - x2509))))
-- water.GapAt
noncomputable def F113_0 (v2882 : Int) (v2883 : Int) : Option (Int) :=
  if v2883 = 0 then
    none
  else
    if 0 ≤ (Int.tmod v2882 v2883) then
      some (aw .i64 (Int.tdiv v2882 v2883))
    else
      some (aw .i64 ((aw .i64 (Int.tdiv v2882 v2883)) - 1))
-- guidevanebase.Ceil
noncomputable def F108_0 (v3138 : Int) (v3139 : List WaterNode) (v3140 : List WaterConduit) (v3141 : List Branch) : Option (Bool) :=
  if 0 ≤ v3138 then
    (F102_0 v3138 (-200000) v3139 v3140 v3141).bind fun r3145 =>
    (F102_0 v3138 200000 v3139 v3140 v3141).bind fun r3148 =>
    some (decide (r3145 = r3148))
  else
    some false
-- water.openFlowing
noncomputable def F106_0 (v3130 : List WaterNode) (v3131 : List WaterConduit) : Option ((Int × Int × (List Branch)) ⊕ (Int)) :=
  (F99_0 v3130 v3131).bind fun g3132_ => match g3132_ with
  | .inl (r3134, r3135, r3136) =>
    if r3135 = 0 then
      (F108_0 r3134 v3130 v3131 r3136).bind fun r3152 =>
      (F72_0 (!r3152) 11).bind fun r3155 =>
      some (.inl (r3134, r3155, r3136))
    else
      some (.inl (r3134, r3135, r3136))
  | .inr (r3156) =>
    if r3156 = 0 then
      (F108_0 0 ([] : List WaterNode) ([] : List WaterConduit) ([] : List Branch)).bind fun r3160 =>
      (F72_0 (!r3160) 11).bind fun r3163 =>
      some (.inr (r3163))
    else
      some (.inr (r3156))
-- water.tree).circulation$1
noncomputable def F141_0 (v3193 : Int) (v3194 : Int) (v3195 : List WaterNode) (v3196 : List WaterConduit) (v3197 : List Branch) : Option (Bool) :=
  (F102_0 v3194 v3193 v3195 v3196 v3197).bind fun r3200 =>
  some (decide (0 ≤ r3200))
noncomputable def S84l0_3 (v3187 : Int) (v3188 : List WaterNode) (v3189 : List WaterConduit) (v3190 : List Branch) : (Int × Int) → Option ((Int × Int) ⊕ (Int))
  | (v3185, v3186) =>
    if v3186 ≤ v3185 then
      some (.inr v3185)
    else
      (F141_0 (aw .i64 (v3185 + (aw .i64 (Int.tdiv (aw .i64 (v3186 - v3185)) 2)))) v3187 v3188 v3189 v3190).bind fun r3204 =>
      if r3204 = true then
        some (.inl (v3185, (aw .i64 (v3185 + (aw .i64 (Int.tdiv (aw .i64 (v3186 - v3185)) 2))))))
      else
        some (.inl ((aw .i64 ((aw .i64 (v3185 + (aw .i64 (Int.tdiv (aw .i64 (v3186 - v3185)) 2)))) + 1)), v3186))
noncomputable def L84l0_3 (v3187 : Int) (v3188 : List WaterNode) (v3189 : List WaterConduit) (v3190 : List Branch) (s : Int × Int) : Option (Int) := iter (S84l0_3 v3187 v3188 v3189 v3190) 1000000 s
-- water.least
noncomputable def F84_3 (v3179 : Int) (v3180 : Int) (v3181 : Int) (v3182 : List WaterNode) (v3183 : List WaterConduit) (v3184 : List Branch) : Option (Int) :=
  (L84l0_3 v3181 v3182 v3183 v3184 (v3179, v3180)).bind fun r3209 =>
  some r3209
-- water.tree).circulation
noncomputable def F107_0 (v3174 : Int) (v3175 : List WaterNode) (v3176 : List WaterConduit) (v3177 : List Branch) : Option (Int × Int) :=
  if 0 ≤ v3174 then
    (F84_3 (-200000) 200000 v3174 v3175 v3176 v3177).bind fun r3213 =>
    (F102_0 v3174 r3213 v3175 v3176 v3177).bind fun r3216 =>
    if r3216 = 0 then
      some (r3213, r3213)
    else
      some ((aw .i64 (r3213 - 1)), r3213)
  else
    some (0, 0)
-- water.CirculationOf
noncomputable def S142l0_0 (v3358 : Int) (v3360 : List Int) (v3361 : List Int) : (Int × (List Range)) → Option ((Int × (List Range)) ⊕ ((List Range)))
  | (v3359, v3362) =>
    if v3358 ≤ v3359 then
      some (.inr v3362)
    else
      bind2 (geti v3360 v3359) fun j3364 x3365 =>
      bind2 (geti v3361 v3359) fun j3367 x3368 =>
      room ((v3362.length + 1) * 16) (
        some (.inl ((aw .i64 (v3359 + 1)), (v3362 ++ [(⟨(min x3365 x3368), (max x3365 x3368)⟩ : Range)])))
      )
noncomputable def L142l0_0 (v3358 : Int) (v3360 : List Int) (v3361 : List Int) (s : Int × (List Range)) : Option ((List Range)) := iter (S142l0_0 v3358 v3360 v3361) 1000000 s
-- water.ranges
noncomputable def F142_0 (v3356 : List Int) (v3357 : List Int) : Option ((List Range)) :=
  (L142l0_0 (v3356.length : Int) v3356 v3357 (0, ([] : List Range))).bind fun r3374 =>
  some r3374
-- water.tree).steady
noncomputable def F110_0 (v3340 : Int) (v3341 : List WaterNode) (v3342 : List WaterConduit) (v3343 : List Branch) : Option ((List Range) × (List Range)) :=
  bind2 (F107_0 v3340 v3341 v3342 v3343) fun r3346 r3347 =>
  bind2 (F101_0 v3340 r3346 v3341 v3342 v3343) fun r3350 r3351 =>
  bind2 (F101_0 v3340 r3347 v3341 v3342 v3343) fun r3354 r3355 =>
  (F142_0 r3350 r3354).bind fun r3378 =>
  (F142_0 r3351 r3355).bind fun r3381 =>
  some (r3378, r3381)
-- water.SteadyOf
noncomputable def S114l0_0 (v3448 : Int) (v3449 : Int) (v3451 : List WaterNode) (v3452 : List WaterConduit) (v3453 : List Int) (v3454 : List Int) (v3455 : List Int) (v3456 : List Int) : (Int × (List Int)) → Option ((Int × (List Int)) ⊕ ((List Int)))
  | (v3450, v3457) =>
    if (v3451.length : Int) ≤ v3450 then
      some (.inr v3457)
    else
      bind2 (geti v3451 v3450) fun j3459 x3460 =>
      room ((v3457.length + 1) * 8) (
        some (.inl ((aw .i64 (v3450 + 1)), (v3457 ++ [x3460.fDraw])))
      )
noncomputable def L114l0_0 (v3448 : Int) (v3449 : Int) (v3451 : List WaterNode) (v3452 : List WaterConduit) (v3453 : List Int) (v3454 : List Int) (v3455 : List Int) (v3456 : List Int) (s : Int × (List Int)) : Option ((List Int)) := iter (S114l0_0 v3448 v3449 v3451 v3452 v3453 v3454 v3455 v3456) 1000000 s
noncomputable def S155l0_0 (v3535 : Int) (v3537 : List Int) : Int → Option ((Int) ⊕ ((Unit) ⊕ (Int)))
  | v3536 =>
    if (v3537.length : Int) ≤ v3536 then
      some (.inr (.inl ()))
    else
      bind2 (geti v3537 v3536) fun j3539 x3540 =>
      if x3540 = v3535 then
        some (.inr (.inr (v3536)))
      else
        some (.inl (aw .i64 (v3536 + 1)))
noncomputable def L155l0_0 (v3535 : Int) (v3537 : List Int) (s : Int) : Option ((Unit) ⊕ (Int)) := iter (S155l0_0 v3535 v3537) 1000000 s
-- guidevaneref02.at
noncomputable def F155_0 (v3533 : Int) (v3534 : List Int) : Option (Int) :=
  (L155l0_0 v3533 v3534 0).bind fun g3544_ => match g3544_ with
  | .inl () =>
    some (-1)
  | .inr (r3546) =>
    some r3546
noncomputable def S143l0_0 (v3517 : Int) (v3518 : List WaterNode) (v3519 : List WaterConduit) (v3520 : List Int) (v3521 : List Int) : Int → Option ((Int) ⊕ (Int))
  | v3516 =>
    if v3516 ≤ v3517 then
      some (.inr v3516)
    else
      bind2 (geti v3520 v3516) fun j3523 x3524 =>
      bind2 (geti v3519 x3524) fun j3526 x3527 =>
      bind2 (geti v3521 v3516) fun j3529 x3530 =>
      if x3527.fFrom = x3530 then
        (F155_0 x3527.fTo v3521).bind fun r3550 =>
        some (.inl r3550)
      else
        (F155_0 x3527.fFrom v3521).bind fun r3553 =>
        some (.inl r3553)
noncomputable def L143l0_0 (v3517 : Int) (v3518 : List WaterNode) (v3519 : List WaterConduit) (v3520 : List Int) (v3521 : List Int) (s : Int) : Option (Int) := iter (S143l0_0 v3517 v3518 v3519 v3520 v3521) 1000000 s
-- guidevaneref02.through
noncomputable def F143_0 (v3510 : Int) (v3511 : Int) (v3512 : List WaterNode) (v3513 : List WaterConduit) (v3514 : List Int) (v3515 : List Int) : Option (Bool) :=
  (L143l0_0 v3511 v3512 v3513 v3514 v3515 v3510).bind fun r3557 =>
  some (decide (r3557 = v3511))
noncomputable def S114l1_0 (v3497 : Int) (v3500 : List WaterNode) (v3501 : List WaterConduit) (v3502 : List Int) (v3503 : List Int) (v3504 : List Int) (v3505 : List Int) (v3506 : List Int) (v3507 : List Int) (v3508 : List Int) : (Int × Int) → Option ((Int × Int) ⊕ (Int))
  | (v3498, v3499) =>
    if (v3504.length : Int) ≤ v3499 then
      some (.inr v3498)
    else
      (F143_0 v3499 v3497 v3500 v3501 v3504 v3505).bind fun r3561 =>
      if r3561 = true then
        bind2 (geti v3505 v3499) fun j3563 x3564 =>
        bind2 (geti v3506 x3564) fun j3566 x3567 =>
        some (.inl ((aw .i64 (v3498 + x3567)), (aw .i64 (v3499 + 1))))
      else
        some (.inl (v3498, (aw .i64 (v3499 + 1))))
noncomputable def L114l1_0 (v3497 : Int) (v3500 : List WaterNode) (v3501 : List WaterConduit) (v3502 : List Int) (v3503 : List Int) (v3504 : List Int) (v3505 : List Int) (v3506 : List Int) (v3507 : List Int) (v3508 : List Int) (s : Int × Int) : Option (Int) := iter (S114l1_0 v3497 v3500 v3501 v3502 v3503 v3504 v3505 v3506 v3507 v3508) 1000000 s
noncomputable def S114l2_0 (v3487 : List WaterNode) (v3488 : List WaterConduit) (v3489 : List Int) (v3490 : List Int) (v3491 : List Int) (v3492 : List Int) (v3493 : List Int) (v3495 : List Int) : (Int × (List Int)) → Option ((Int × (List Int)) ⊕ ((List Int)))
  | (v3486, v3494) =>
    if (v3491.length : Int) ≤ v3486 then
      some (.inr v3494)
    else
      (L114l1_0 v3486 v3487 v3488 v3489 v3490 v3491 v3492 v3493 v3494 v3495 (0, v3486)).bind fun r3572 =>
      bind2 (geti v3491 v3486) fun j3573 x3574 =>
      bind2 (geti v3488 x3574) fun j3576 x3577 =>
      bind2 (geti v3492 v3486) fun j3579 x3580 =>
      if x3577.fTo = x3580 then
        bind2 (geti v3494 x3574) fun j3583 x3584 =>
        some (.inl ((aw .i64 (v3486 + 1)), (v3494.set j3583 r3572)))
      else
        bind2 (geti v3494 x3574) fun j3586 x3587 =>
        some (.inl ((aw .i64 (v3486 + 1)), (v3494.set j3586 (aw .i64 (0 - r3572)))))
noncomputable def L114l2_0 (v3487 : List WaterNode) (v3488 : List WaterConduit) (v3489 : List Int) (v3490 : List Int) (v3491 : List Int) (v3492 : List Int) (v3493 : List Int) (v3495 : List Int) (s : Int × (List Int)) : Option ((List Int)) := iter (S114l2_0 v3487 v3488 v3489 v3490 v3491 v3492 v3493 v3495) 1000000 s
noncomputable def S114l3_0 (v3594 : List WaterNode) (v3595 : List WaterConduit) (v3596 : List Int) (v3597 : List Int) (v3598 : List Int) (v3599 : List Int) (v3600 : List Int) : (Int × (List Int)) → Option ((Int × (List Int)) ⊕ ((List Int)))
  | (v3593, v3601) =>
    if (v3594.length : Int) ≤ v3593 then
      some (.inr v3601)
    else
      bind2 (geti v3594 v3593) fun j3603 x3604 =>
      if x3604.fLake = true then
        bind2 (geti v3601 v3593) fun j3607 x3608 =>
        some (.inl ((aw .i64 (v3593 + 1)), (v3601.set j3607 (aw .i64 (1000 * x3604.fHead)))))
      else
        some (.inl ((aw .i64 (v3593 + 1)), v3601))
noncomputable def L114l3_0 (v3594 : List WaterNode) (v3595 : List WaterConduit) (v3596 : List Int) (v3597 : List Int) (v3598 : List Int) (v3599 : List Int) (v3600 : List Int) (s : Int × (List Int)) : Option ((List Int)) := iter (S114l3_0 v3594 v3595 v3596 v3597 v3598 v3599 v3600) 1000000 s
noncomputable def S114l4_0 (v3615 : List WaterNode) (v3616 : List WaterConduit) (v3617 : List Int) (v3618 : List Int) (v3619 : List Int) (v3620 : List Int) (v3621 : List Int) : (Int × (List Int)) → Option ((Int × (List Int)) ⊕ ((List Int)))
  | (v3614, v3622) =>
    if (v3619.length : Int) ≤ v3614 then
      some (.inr v3622)
    else
      bind2 (geti v3619 v3614) fun j3624 x3625 =>
      bind2 (geti v3616 x3625) fun j3627 x3628 =>
      bind2 (geti v3620 v3614) fun j3630 x3631 =>
      if x3628.fTo = x3631 then
        bind2 (geti v3622 x3628.fFrom) fun j3634 x3635 =>
        bind2 (geti v3621 x3625) fun j3637 x3638 =>
        (F22_0 x3628.fResist x3638).bind fun r3642 =>
        bind2 (geti v3622 x3628.fTo) fun j3643 x3644 =>
        some (.inl ((aw .i64 (v3614 + 1)), (v3622.set j3643 (aw .i64 (x3635 - r3642)))))
      else
        bind2 (geti v3622 x3628.fTo) fun j3646 x3647 =>
        bind2 (geti v3621 x3625) fun j3649 x3650 =>
        (F22_0 x3628.fResist x3650).bind fun r3654 =>
        bind2 (geti v3622 x3628.fFrom) fun j3655 x3656 =>
        some (.inl ((aw .i64 (v3614 + 1)), (v3622.set j3655 (aw .i64 (x3647 + r3654)))))
noncomputable def L114l4_0 (v3615 : List WaterNode) (v3616 : List WaterConduit) (v3617 : List Int) (v3618 : List Int) (v3619 : List Int) (v3620 : List Int) (v3621 : List Int) (s : Int × (List Int)) : Option ((List Int)) := iter (S114l4_0 v3615 v3616 v3617 v3618 v3619 v3620 v3621) 1000000 s
-- guidevaneref02.State
noncomputable def F114_0 (v3436 : Int) (v3437 : List WaterNode) (v3438 : List WaterConduit) : Option ((List Int) × (List Int)) :=
  bind3 (F137_0 v3437 v3438) fun r3441 r3442 r3443 =>
  bind2 (F97_0 v3437 v3438) fun r3446 r3447 =>
  (L114l0_0 v3436 r3446 v3437 v3438 ([] : List Int) ([] : List Int) r3442 r3443 (0, ([] : List Int))).bind fun r3466 =>
  (inx (v3438.length : Int) 140737488355329).bind fun n3467 =>
  room (n3467 * 8) (
    (inx (v3437.length : Int) 140737488355329).bind fun n3470 =>
    room (n3470 * 8) (
      if 0 ≤ r3446 then
        bind2 (geti v3438 r3446) fun j3474 x3475 =>
        bind2 (geti (List.replicate n3467 (0 : Int)) r3446) fun j3477 x3478 =>
        bind2 (geti r3466 x3475.fFrom) fun j3480 x3481 =>
        bind2 (geti (r3466.set j3480 (aw .i64 (x3481 + v3436))) x3475.fTo) fun j3483 x3484 =>
        (L114l2_0 v3437 v3438 ([] : List Int) ([] : List Int) r3442 r3443 ((r3466.set j3480 (aw .i64 (x3481 + v3436))).set j3483 (aw .i64 (x3484 - v3436))) (List.replicate n3470 (0 : Int)) (0, ((List.replicate n3467 (0 : Int)).set j3477 v3436))).bind fun r3592 =>
        (L114l3_0 v3437 v3438 ([] : List Int) ([] : List Int) r3442 r3443 r3592 (0, (List.replicate n3470 (0 : Int)))).bind fun r3613 =>
        (L114l4_0 v3437 v3438 ([] : List Int) ([] : List Int) r3442 r3443 r3592 (0, r3613)).bind fun r3661 =>
        some (r3592, r3661)
      else
        (L114l2_0 v3437 v3438 ([] : List Int) ([] : List Int) r3442 r3443 r3466 (List.replicate n3470 (0 : Int)) (0, (List.replicate n3467 (0 : Int)))).bind fun r3664 =>
        (L114l3_0 v3437 v3438 ([] : List Int) ([] : List Int) r3442 r3443 r3664 (0, (List.replicate n3470 (0 : Int)))).bind fun r3667 =>
        (L114l4_0 v3437 v3438 ([] : List Int) ([] : List Int) r3442 r3443 r3664 (0, r3667)).bind fun r3670 =>
        some (r3664, r3670)
    )
  )
-- guidevaneref02.Gap
noncomputable def F112_0 (v3426 : Int) (v3427 : List WaterNode) (v3428 : List WaterConduit) : Option (Int) :=
  bind2 (F97_0 v3427 v3428) fun r3431 r3432 =>
  bind2 (geti v3428 r3431) fun j3433 x3434 =>
  bind2 (F114_0 v3426 v3427 v3428) fun r3675 r3676 =>
  (F22_0 x3434.fResist v3426).bind fun r3679 =>
  bind2 (geti r3676 x3434.fFrom) fun j3680 x3681 =>
  bind2 (geti r3676 x3434.fTo) fun j3683 x3684 =>
  some (aw .i64 (r3679 - (aw .i64 (x3681 - x3684))))
noncomputable def S53l0_0 (v3710 : List WaterNode) (v3711 : List WaterConduit) : (Int × Int) → Option ((Int × Int) ⊕ (Int))
  | (v3708, v3709) =>
    if v3709 ≤ v3708 then
      some (.inr v3708)
    else
      (F113_0 (aw .i64 (v3708 + v3709)) 2).bind fun r3717 =>
      (F112_0 r3717 v3710 v3711).bind fun r3720 =>
      if 0 ≤ r3720 then
        some (.inl (v3708, r3717))
      else
        some (.inl ((aw .i64 (r3717 + 1)), v3709))
noncomputable def L53l0_0 (v3710 : List WaterNode) (v3711 : List WaterConduit) (s : Int × Int) : Option (Int) := iter (S53l0_0 v3710 v3711) 1000000 s
-- guidevaneref02.Circulation
noncomputable def F53_0 (v3419 : List WaterNode) (v3420 : List WaterConduit) : Option (Int × Int × Int) :=
  bind2 (F97_0 v3419 v3420) fun r3423 r3424 =>
  if 0 ≤ r3423 then
    (F112_0 (-200000) v3419 v3420).bind fun r3689 =>
    (F112_0 200000 v3419 v3420).bind fun r3692 =>
    if r3689 = r3692 then
      some (0, 0, 11)
    else
      (L53l0_0 v3419 v3420 ((-200000), 200000)).bind fun r3725 =>
      (F112_0 r3725 v3419 v3420).bind fun r3728 =>
      if r3728 = 0 then
        some (r3725, r3725, 0)
      else
        some ((aw .i64 (r3725 - 1)), r3725, 0)
  else
    some (0, 0, 0)
-- guidevaneref02.CheckCirculation
noncomputable def S54l0_0 (v3769 : List WaterNode) (v3770 : List WaterConduit) (v3771 : List Range) (v3772 : List Range) (v3773 : List Int) (v3774 : List Int) (v3775 : List Int) (v3776 : List Int) (v3778 : List Range) : (Int × (List Range)) → Option ((Int × (List Range)) ⊕ ((List Range)))
  | (v3768, v3777) =>
    if (v3773.length : Int) ≤ v3768 then
      some (.inr v3777)
    else
      bind2 (geti v3773 v3768) fun j3780 x3781 =>
      bind2 (geti v3775 v3768) fun j3783 x3784 =>
      room ((v3777.length + 1) * 16) (
        some (.inl ((aw .i64 (v3768 + 1)), (v3777 ++ [(⟨(min x3781 x3784), (max x3781 x3784)⟩ : Range)])))
      )
noncomputable def L54l0_0 (v3769 : List WaterNode) (v3770 : List WaterConduit) (v3771 : List Range) (v3772 : List Range) (v3773 : List Int) (v3774 : List Int) (v3775 : List Int) (v3776 : List Int) (v3778 : List Range) (s : Int × (List Range)) : Option ((List Range)) := iter (S54l0_0 v3769 v3770 v3771 v3772 v3773 v3774 v3775 v3776 v3778) 1000000 s
noncomputable def S54l1_0 (v3792 : List WaterNode) (v3793 : List WaterConduit) (v3794 : List Range) (v3795 : List Range) (v3796 : List Int) (v3797 : List Int) (v3798 : List Int) (v3799 : List Int) (v3800 : List Range) : (Int × (List Range)) → Option ((Int × (List Range)) ⊕ ((List Range)))
  | (v3791, v3801) =>
    if (v3797.length : Int) ≤ v3791 then
      some (.inr v3801)
    else
      bind2 (geti v3797 v3791) fun j3803 x3804 =>
      bind2 (geti v3799 v3791) fun j3806 x3807 =>
      room ((v3801.length + 1) * 16) (
        some (.inl ((aw .i64 (v3791 + 1)), (v3801 ++ [(⟨(min x3804 x3807), (max x3804 x3807)⟩ : Range)])))
      )
noncomputable def L54l1_0 (v3792 : List WaterNode) (v3793 : List WaterConduit) (v3794 : List Range) (v3795 : List Range) (v3796 : List Int) (v3797 : List Int) (v3798 : List Int) (v3799 : List Int) (v3800 : List Range) (s : Int × (List Range)) : Option ((List Range)) := iter (S54l1_0 v3792 v3793 v3794 v3795 v3796 v3797 v3798 v3799 v3800) 1000000 s
-- guidevaneref02.Steady
noncomputable def F54_0 (v3756 : Int) (v3757 : Int) (v3758 : List WaterNode) (v3759 : List WaterConduit) : Option ((List Range) × (List Range)) :=
  bind2 (F114_0 v3756 v3758 v3759) fun r3762 r3763 =>
  bind2 (F114_0 v3757 v3758 v3759) fun r3766 r3767 =>
  (L54l0_0 v3758 v3759 ([] : List Range) ([] : List Range) r3762 r3763 r3766 r3767 ([] : List Range) (0, ([] : List Range))).bind fun r3790 =>
  (L54l1_0 v3758 v3759 ([] : List Range) ([] : List Range) r3762 r3763 r3766 r3767 r3790 (0, ([] : List Range))).bind fun r3813 =>
  some (r3790, r3813)
noncomputable def F124_0 (v3983 : Int) (v3984 : Int) (v3985 : List WaterNode) (v3986 : List WaterConduit) : Option ((Int × Int × (List Branch)) ⊕ (Int)) :=
  (F106_0 v3985 v3986).bind fun g3987_ => match g3987_ with
  | .inl (r3989, r3990, r3991) =>
    (F88_0 v3983 v3985 v3986).bind fun r3994 =>
    (F74_0 v3984 0 1000000000).bind fun r3997 =>
    (F72_0 r3997 2).bind fun r4000 =>
    (F71_0 ([r3990, r3994, r4000] : List Int)).bind fun r4003 =>
    some (.inl (r3989, r4003, r3991))
  | .inr (r4004) =>
    (F88_0 v3983 ([] : List WaterNode) ([] : List WaterConduit)).bind fun r4007 =>
    (F74_0 v3984 0 1000000000).bind fun r4010 =>
    (F72_0 r4010 2).bind fun r4013 =>
    (F71_0 ([r4004, r4007, r4013] : List Int)).bind fun r4016 =>
    some (.inr (r4016))
-- water.answer
noncomputable def F125_0 (v4034 : Int) (v4035 : Int) (v4036 : Int) : Option (Int) :=
  if v4036 ≤ v4034 then
    some 2
  else
  if v4036 ≤ v4035 then
    some 1
  else
    some 0
-- water.HeadAnswer
noncomputable def F61_0 (v3979 : Int) (v3980 : Int) (v3981 : List WaterNode) (v3982 : List WaterConduit) : Option (Int × Int) :=
  (F124_0 v3979 v3980 v3981 v3982).bind fun g4021_ => match g4021_ with
  | .inl (r4023, r4024, r4025) =>
    if r4024 = 0 then
      bind2 (F110_0 r4023 v3981 v3982 r4025) fun r4029 r4030 =>
      bind2 (geti r4030 v3979) fun j4031 x4032 =>
      (F125_0 x4032.fLo x4032.fHi v3980).bind fun r4042 =>
      some (r4042, 0)
    else
      some (0, r4024)
  | .inr (r4043) =>
    if r4043 = 0 then
      bind2 (F110_0 0 ([] : List WaterNode) ([] : List WaterConduit) ([] : List Branch)) fun r4047 r4048 =>
      bind2 (geti r4048 v3979) fun j4049 x4050 =>
      (F125_0 x4050.fLo x4050.fHi v3980).bind fun r4054 =>
      some (r4054, 0)
    else
      some (0, r4043)
-- api.WaterNode]
noncomputable def F126_0 (v4086 : List WaterNode) : Option (Unit) :=
  if v4086.length = 0 then
    none
  else
    room (v4086.length * 40) (
      some ()
    )
noncomputable def S62l0_0 (v4091 : Int) (v4092 : Int) (v4094 : List WaterNode) (v4095 : List WaterConduit) (v4096 : Int) (v4098 : List Branch) (v4099 : ByteArray) (v4100 : Bool) (v4101 : Int) (v4102 : Int) : (Int × (List WaterNode)) → Option ((Int × (List WaterNode)) ⊕ ((Int) ⊕ (Unit)))
  | (v4093, v4097) =>
    if 0 ≤ v4093 then
      bind2 (geti v4097 v4091) fun j4104 x4105 =>
      bind2 (F110_0 v4096 (v4097.set j4104 ({ x4105 with fDraw := (aw .i64 (v4102 + v4093)) } : WaterNode)) v4095 v4098) fun r4109 r4110 =>
      bind2 (geti r4110 v4091) fun j4111 x4112 =>
      (F125_0 x4112.fLo x4112.fHi v4092).bind fun r4116 =>
      if r4116 = 2 then
        some (.inr (.inl (v4093)))
      else
        some (.inl ((aw .i64 (v4093 - 1)), (v4097.set j4104 ({ x4105 with fDraw := (aw .i64 (v4102 + v4093)) } : WaterNode))))
    else
      some (.inr (.inr ()))
noncomputable def L62l0_0 (v4091 : Int) (v4092 : Int) (v4094 : List WaterNode) (v4095 : List WaterConduit) (v4096 : Int) (v4098 : List Branch) (v4099 : ByteArray) (v4100 : Bool) (v4101 : Int) (v4102 : Int) (s : Int × (List WaterNode)) : Option ((Int) ⊕ (Unit)) := iter (S62l0_0 v4091 v4092 v4094 v4095 v4096 v4098 v4099 v4100 v4101 v4102) 1000000 s
-- water.MostDraw
noncomputable def F62_0 (v4063 : Int) (v4064 : Int) (v4065 : List WaterNode) (v4066 : List WaterConduit) : Option (Int × Int) :=
  (F124_0 v4063 v4064 v4065 v4066).bind fun g4067_ => match g4067_ with
  | .inl (r4069, r4070, r4071) =>
    if r4070 = 0 then
      bind2 (geti v4065 v4063) fun j4073 x4074 =>
      (F72_0 (!x4074.fLake) 15).bind fun r4078 =>
      (F72_0 (decide (x4074.fDraw ≤ 9900)) 2).bind fun r4081 =>
      (F71_0 ([r4078, r4081] : List Int)).bind fun r4084 =>
      if r4084 = 0 then
        (F126_0 v4065).bind fun _ =>
        (L62l0_0 v4063 v4064 v4065 v4066 r4069 r4071 x4074.fName x4074.fLake x4074.fHead x4074.fDraw (100, v4065)).bind fun g4119_ => match g4119_ with
        | .inl (r4121) =>
          some (r4121, 0)
        | .inr () =>
          some (0, 12)
      else
        some (0, r4084)
    else
      some (0, r4070)
  | .inr (r4122) =>
    if r4122 = 0 then
      none
    else
      some (0, r4122)
-- guidevaneref02.HeadErr
noncomputable def F63_0 (v4130 : Int) (v4131 : Int) (v4132 : List WaterNode) (v4133 : List WaterConduit) : Option (Int) :=
  (F38_0 v4132 v4133).bind fun r4136 =>
  if r4136 = 0 then
    bind3 (F53_0 v4132 v4133) fun r4140 r4141 r4142 =>
    if r4142 = 0 then
      (F33_0 v4130 v4132 v4133).bind fun r4146 =>
      if r4146 = 0 then
        (F20_0 v4131 0 1000000000).bind fun r4150 =>
        if r4150 = true then
          some 0
        else
          some 2
      else
        some r4146
    else
      some r4142
  else
    some r4136
-- guidevaneref02.Answer
noncomputable def F65_0 (v4177 : Int) (v4178 : Int) (v4179 : List WaterNode) (v4180 : List WaterConduit) : Option (Int) :=
  bind3 (F53_0 v4179 v4180) fun r4183 r4184 r4185 =>
  bind2 (F54_0 r4183 r4184 v4179 v4180) fun r4188 r4189 =>
  bind2 (geti r4189 v4177) fun j4190 x4191 =>
  if v4178 ≤ x4191.fLo then
    some 2
  else
  if v4178 ≤ x4191.fHi then
    some 1
  else
    some 0
noncomputable def S64l0_0 (v4166 : Int) (v4167 : Int) (v4169 : List WaterNode) (v4170 : List WaterConduit) : Int → Option ((Int) ⊕ ((Int) ⊕ (Unit)))
  | v4168 =>
    if 0 ≤ v4168 then
      (F17_0 v4169 v4170).bind fun _ =>
      bind2 (geti v4169 v4166) fun j4174 x4175 =>
      (F65_0 v4166 v4167 (v4169.set j4174 ({ x4175 with fDraw := (aw .i64 (x4175.fDraw + v4168)) } : WaterNode)) v4170).bind fun r4198 =>
      if r4198 = 2 then
        some (.inr (.inl (v4168)))
      else
        some (.inl (aw .i64 (v4168 - 1)))
    else
      some (.inr (.inr ()))
noncomputable def L64l0_0 (v4166 : Int) (v4167 : Int) (v4169 : List WaterNode) (v4170 : List WaterConduit) (s : Int) : Option ((Int) ⊕ (Unit)) := iter (S64l0_0 v4166 v4167 v4169 v4170) 1000000 s
-- guidevaneref02.Most
noncomputable def F64_0 (v4157 : Int) (v4158 : Int) (v4159 : List WaterNode) (v4160 : List WaterConduit) : Option (Int × Int) :=
  bind2 (geti v4159 v4157) fun j4161 x4162 =>
  if x4162.fLake = true then
    some (0, 15)
  else
  if x4162.fDraw ≤ 9900 then
    (L64l0_0 v4157 v4158 v4159 v4160 100).bind fun g4201_ => match g4201_ with
    | .inl (r4203) =>
      some (r4203, 0)
    | .inr () =>
      some (0, 12)
  else
    some (0, 2)
-- guidevanelaw02.WaterHeads
noncomputable def F11_0 (v3968 : Int) (v3969 : Int) (v3970 : List WaterNode) (v3971 : List WaterConduit) : Option (Bool) :=
  (F15_0 v3970 v3971).bind fun r3975 =>
  if r3975 = true then
    (F17_0 v3970 v3971).bind fun _ =>
    bind2 (F61_0 v3968 v3969 v3970 v3971) fun r4059 r4060 =>
    (F17_0 v3970 v3971).bind fun _ =>
    bind2 (F62_0 v3968 v3969 v3970 v3971) fun r4128 r4129 =>
    (F63_0 v3968 v3969 v3970 v3971).bind fun r4155 =>
    if r4155 = 0 then
      bind2 (F64_0 v3968 v3969 v3970 v3971) fun r4208 r4209 =>
      if r4060 = 0 then
        (F65_0 v3968 v3969 v3970 v3971).bind fun r4213 =>
        if r4059 = r4213 then
          if r4129 = r4209 then
            some (decide (r4128 = r4208))
          else
            some false
        else
          some false
      else
        some false
    else
    if r4060 = r4155 then
      if r4129 = r4155 then
        if r4059 = 0 then
          some (decide (r4128 = 0))
        else
          some false
      else
        some false
    else
      some false
  else
    some true
end Go.AI
