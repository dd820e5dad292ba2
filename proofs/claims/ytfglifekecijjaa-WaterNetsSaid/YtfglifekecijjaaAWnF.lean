/-
  What the functions compute.
-/
import Derived.Test.YtfglifekecijjaaAWnTy
set_option linter.unusedVariables false
set_option linter.unusedSimpArgs false
set_option maxRecDepth 100000
set_option maxHeartbeats 4000000
namespace Go.AI
noncomputable def S15l0_0 (v9 : List WaterNode) (v10 : List WaterConduit) : Int → Option ((Int) ⊕ ((Unit) ⊕ (Unit)))
  | v8 =>
    if (v9.length : Int) ≤ v8 then
      some (.inr (.inl ()))
    else
      bind2 (geti v9 v8) fun j11 x12 =>
      if (x12.fName.size : Int) ≤ 20 then
        some (.inl (aw .i64 (v8 + 1)))
      else
        some (.inr (.inr ()))
noncomputable def L15l0_0 (v9 : List WaterNode) (v10 : List WaterConduit) (s : Int) : Option ((Unit) ⊕ (Unit)) := iter (S15l0_0 v9 v10) 1000000 s
noncomputable def S15l1_0 (v19 : List WaterNode) (v20 : List WaterConduit) : Int → Option ((Int) ⊕ ((Unit) ⊕ (Unit)))
  | v18 =>
    if (v20.length : Int) ≤ v18 then
      some (.inr (.inl ()))
    else
      bind2 (geti v20 v18) fun j21 x22 =>
      if (x22.fName.size : Int) ≤ 20 then
        some (.inl (aw .i64 (v18 + 1)))
      else
        some (.inr (.inr ()))
noncomputable def L15l1_0 (v19 : List WaterNode) (v20 : List WaterConduit) (s : Int) : Option ((Unit) ⊕ (Unit)) := iter (S15l1_0 v19 v20) 1000000 s
-- guidevanelaw02.Few
noncomputable def F15_0 (v6 : List WaterNode) (v7 : List WaterConduit) : Option (Bool) :=
  if (v6.length : Int) ≤ 12 then
    if (v7.length : Int) ≤ 16 then
      (L15l0_0 v6 v7 0).bind fun g16_ => match g16_ with
      | .inl () =>
        (L15l1_0 v6 v7 0).bind fun g26_ => match g26_ with
        | .inl () =>
          some true
        | .inr () =>
          some false
      | .inr () =>
        some false
    else
      some false
  else
    some false
-- guidevaneref02.Copy
noncomputable def F17_0 (v34 : List WaterNode) (v35 : List WaterConduit) : Option (Unit) :=
  room (v34.length * 40) (
    room (v35.length * 48) (
      some ()
    )
  )
-- water.unless
noncomputable def F72_0 (v42 : Bool) (v43 : Int) : Option (Int) :=
  if v42 = true then
    some 0
  else
    some v43
noncomputable def S71l0_0 (v53 : Int) (v55 : List Int) : Int → Option ((Int) ⊕ ((Unit) ⊕ (Int)))
  | v54 =>
    if v53 ≤ v54 then
      some (.inr (.inl ()))
    else
      bind2 (geti v55 v54) fun j56 x57 =>
      if x57 = 0 then
        some (.inl (aw .i64 (v54 + 1)))
      else
        some (.inr (.inr (x57)))
noncomputable def L71l0_0 (v53 : Int) (v55 : List Int) (s : Int) : Option ((Unit) ⊕ (Int)) := iter (S71l0_0 v53 v55) 1000000 s
-- water.first
noncomputable def F71_0 (v52 : List Int) : Option (Int) :=
  (L71l0_0 (v52.length : Int) v52 0).bind fun g62_ => match g62_ with
  | .inl () =>
    some 0
  | .inr (r64) =>
    some r64
-- water.within
noncomputable def F74_0 (v79 : Int) (v80 : Int) (v81 : Int) : Option (Bool) :=
  if v80 ≤ v79 then
    some (decide (v79 ≤ v81))
  else
    some false
-- water.isSized
noncomputable def F73_0 (v77 : Int) (v78 : Int) : Option (Bool) :=
  (F74_0 v77 (aw .i64 (0 - v78)) v78).bind fun r86 =>
  some r86
noncomputable def S75l0_0 (v96 : ByteArray) (v97 : Int) (v99 : List UInt8) : Int → Option ((Int) ⊕ ((Unit) ⊕ (Unit)))
  | v98 =>
    if v97 ≤ v98 then
      some (.inr (.inl ()))
    else
      bind2 (geti v99 v98) fun j100 x101 =>
      (F74_0 (aw .i64 (x101.toNat : Int)) 97 122).bind fun r105 =>
      if r105 = true then
        some (.inl (aw .i64 (v98 + 1)))
      else
        (F74_0 (aw .i64 (x101.toNat : Int)) 65 90).bind fun r108 =>
        if r108 = true then
          some (.inl (aw .i64 (v98 + 1)))
        else
        if v98 = 0 then
          some (.inr (.inr ()))
        else
        if (x101.toNat : Int) = 45 then
          some (.inl (aw .i64 (v98 + 1)))
        else
          (F74_0 (aw .i64 (x101.toNat : Int)) 48 57).bind fun r111 =>
          if r111 = true then
            some (.inl (aw .i64 (v98 + 1)))
          else
            some (.inr (.inr ()))
noncomputable def L75l0_0 (v96 : ByteArray) (v97 : Int) (v99 : List UInt8) (s : Int) : Option ((Unit) ⊕ (Unit)) := iter (S75l0_0 v96 v97 v99) 1000000 s
-- water.isName
noncomputable def F75_0 (v94 : ByteArray) : Option (Bool) :=
  roomS (v94.size) (
    (L75l0_0 v94 (v94.size : Int) (v94.data.toList) 0).bind fun g118_ => match g118_ with
    | .inl () =>
      (F74_0 (v94.size : Int) 1 12).bind fun r122 =>
      some r122
    | .inr () =>
      some false
  )
noncomputable def S16l0_0 (v69 : Int) (v71 : List WaterNode) (v72 : List WaterConduit) : (Int × (List (ByteArray × Bool))) → Option ((Int × (List (ByteArray × Bool))) ⊕ ((Unit) ⊕ (Int × Int)))
  | (v70, v73) =>
    if v69 ≤ v70 then
      some (.inr (.inl ()))
    else
      bind2 (geti v71 v70) fun j74 x75 =>
      (F73_0 x75.fDraw 10000).bind fun r90 =>
      if x75.fLake = true then
        (F74_0 x75.fHead 0 1000000).bind fun r93 =>
        (F75_0 x75.fName).bind fun r126 =>
        (F72_0 r126 4).bind fun r129 =>
        (F72_0 (!(getM x75.fName false v73)) 5).bind fun r132 =>
        (F72_0 r93 2).bind fun r135 =>
        (F72_0 (decide (x75.fDraw = 0)) 3).bind fun r138 =>
        (F71_0 ([r129, r132, r135, r138] : List Int)).bind fun r141 =>
        if r141 = 0 then
          some (.inl ((aw .i64 (v70 + 1)), (putM x75.fName true v73)))
        else
          some (.inr (.inr (v70, r141)))
      else
        (F75_0 x75.fName).bind fun r145 =>
        (F72_0 r145 4).bind fun r148 =>
        (F72_0 (!(getM x75.fName false v73)) 5).bind fun r151 =>
        (F72_0 r90 2).bind fun r154 =>
        (F72_0 (decide (x75.fHead = 0)) 3).bind fun r157 =>
        (F71_0 ([r148, r151, r154, r157] : List Int)).bind fun r160 =>
        if r160 = 0 then
          some (.inl ((aw .i64 (v70 + 1)), (putM x75.fName true v73)))
        else
          some (.inr (.inr (v70, r160)))
noncomputable def L16l0_0 (v69 : Int) (v71 : List WaterNode) (v72 : List WaterConduit) (s : Int × (List (ByteArray × Bool))) : Option ((Unit) ⊕ (Int × Int)) := iter (S16l0_0 v69 v71 v72) 1000000 s
-- water.CheckNet$1
noncomputable def F76_0 (v185 : Int) (v186 : List WaterNode) (v187 : List WaterConduit) : Option (Bool) :=
  (F74_0 v185 0 (aw .i64 ((v186.length : Int) - 1))).bind fun r190 =>
  some r190
noncomputable def S16l1_0 (v168 : Int) (v170 : List WaterNode) (v171 : List WaterConduit) : (Int × (List (ByteArray × Bool))) → Option ((Int × (List (ByteArray × Bool))) ⊕ ((Unit) ⊕ (Int × Int)))
  | (v169, v172) =>
    if v168 ≤ v169 then
      some (.inr (.inl ()))
    else
      bind2 (geti v171 v169) fun j173 x174 =>
      (F75_0 x174.fName).bind fun r178 =>
      (F72_0 r178 4).bind fun r181 =>
      (F72_0 (!(getM x174.fName false v172)) 5).bind fun r184 =>
      (F76_0 x174.fFrom v170 v171).bind fun r194 =>
      if r194 = true then
        (F76_0 x174.fTo v170 v171).bind fun r197 =>
        (F72_0 r197 6).bind fun r200 =>
        (F72_0 (!(decide (x174.fFrom = x174.fTo))) 13).bind fun r203 =>
        (F74_0 x174.fResist 0 1000).bind fun r206 =>
        (F72_0 r206 2).bind fun r209 =>
        if x174.fValve = true then
          (F72_0 true 3).bind fun r212 =>
          (F71_0 ([r181, r184, r200, r203, r209, r212] : List Int)).bind fun r215 =>
          if r215 = 0 then
            some (.inl ((aw .i64 (v169 + 1)), (putM x174.fName true v172)))
          else
            some (.inr (.inr (v169, r215)))
        else
          (F72_0 x174.fOpen 3).bind fun r219 =>
          (F71_0 ([r181, r184, r200, r203, r209, r219] : List Int)).bind fun r222 =>
          if r222 = 0 then
            some (.inl ((aw .i64 (v169 + 1)), (putM x174.fName true v172)))
          else
            some (.inr (.inr (v169, r222)))
      else
        (F72_0 false 6).bind fun r227 =>
        (F72_0 (!(decide (x174.fFrom = x174.fTo))) 13).bind fun r230 =>
        (F74_0 x174.fResist 0 1000).bind fun r233 =>
        (F72_0 r233 2).bind fun r236 =>
        if x174.fValve = true then
          (F72_0 true 3).bind fun r239 =>
          (F71_0 ([r181, r184, r227, r230, r236, r239] : List Int)).bind fun r242 =>
          if r242 = 0 then
            some (.inl ((aw .i64 (v169 + 1)), (putM x174.fName true v172)))
          else
            some (.inr (.inr (v169, r242)))
        else
          (F72_0 x174.fOpen 3).bind fun r246 =>
          (F71_0 ([r181, r184, r227, r230, r236, r246] : List Int)).bind fun r249 =>
          if r249 = 0 then
            some (.inl ((aw .i64 (v169 + 1)), (putM x174.fName true v172)))
          else
            some (.inr (.inr (v169, r249)))
noncomputable def L16l1_0 (v168 : Int) (v170 : List WaterNode) (v171 : List WaterConduit) (s : Int × (List (ByteArray × Bool))) : Option ((Unit) ⊕ (Int × Int)) := iter (S16l1_0 v168 v170 v171) 1000000 s
-- water.CheckNet
noncomputable def F16_0 (v40 : List WaterNode) (v41 : List WaterConduit) : Option (Int × Int) :=
  if (v40.length : Int) ≤ 0 then
    if (v40.length : Int) ≤ 10 then
      (F72_0 false 10).bind fun r48 =>
      (F72_0 (decide ((v41.length : Int) ≤ 14)) 8).bind fun r51 =>
      (F71_0 ([r48, r51] : List Int)).bind fun r68 =>
      if r68 = 0 then
        (L16l0_0 (v40.length : Int) v40 v41 (0, ([] : List (ByteArray × Bool)))).bind fun g166_ => match g166_ with
        | .inl () =>
          (L16l1_0 (v41.length : Int) v40 v41 (0, ([] : List (ByteArray × Bool)))).bind fun g256_ => match g256_ with
          | .inl () =>
            some (0, 0)
          | .inr (r258, r259) =>
            some (r258, r259)
        | .inr (r260, r261) =>
          some (r260, r261)
      else
        some (0, r68)
    else
      (F72_0 false 10).bind fun r265 =>
      (F72_0 false 8).bind fun r268 =>
      (F71_0 ([r265, r268] : List Int)).bind fun r271 =>
      if r271 = 0 then
        (L16l0_0 (v40.length : Int) v40 v41 (0, ([] : List (ByteArray × Bool)))).bind fun g272_ => match g272_ with
        | .inl () =>
          (L16l1_0 (v41.length : Int) v40 v41 (0, ([] : List (ByteArray × Bool)))).bind fun g274_ => match g274_ with
          | .inl () =>
            some (0, 0)
          | .inr (r276, r277) =>
            some (r276, r277)
        | .inr (r278, r279) =>
          some (r278, r279)
      else
        some (0, r271)
  else
  if (v40.length : Int) ≤ 10 then
    (F72_0 (!(decide ((v41.length : Int) ≤ 0))) 10).bind fun r284 =>
    (F72_0 (decide ((v41.length : Int) ≤ 14)) 8).bind fun r287 =>
    (F71_0 ([r284, r287] : List Int)).bind fun r290 =>
    if r290 = 0 then
      (L16l0_0 (v40.length : Int) v40 v41 (0, ([] : List (ByteArray × Bool)))).bind fun g291_ => match g291_ with
      | .inl () =>
        (L16l1_0 (v41.length : Int) v40 v41 (0, ([] : List (ByteArray × Bool)))).bind fun g293_ => match g293_ with
        | .inl () =>
          some (0, 0)
        | .inr (r295, r296) =>
          some (r295, r296)
      | .inr (r297, r298) =>
        some (r297, r298)
    else
      some (0, r290)
  else
    (F72_0 (!(decide ((v41.length : Int) ≤ 0))) 10).bind fun r302 =>
    (F72_0 false 8).bind fun r305 =>
    (F71_0 ([r302, r305] : List Int)).bind fun r308 =>
    if r308 = 0 then
      (L16l0_0 (v40.length : Int) v40 v41 (0, ([] : List (ByteArray × Bool)))).bind fun g309_ => match g309_ with
      | .inl () =>
        (L16l1_0 (v41.length : Int) v40 v41 (0, ([] : List (ByteArray × Bool)))).bind fun g311_ => match g311_ with
        | .inl () =>
          some (0, 0)
        | .inr (r313, r314) =>
          some (r313, r314)
      | .inr (r315, r316) =>
        some (r315, r316)
    else
      some (0, r308)
-- water.loss
noncomputable def F77_0 (v334 : Int) (v335 : Int) : Option (Int) :=
  some (aw .i64 ((aw .i64 (v334 * v335)) * (max v335 (aw .i64 (0 - v335)))))
-- water.LossOf
noncomputable def F18_0 (v326 : Int) (v327 : Int) : Option (Int × Int) :=
  (F74_0 v326 0 1000).bind fun r330 =>
  if r330 = true then
    (F73_0 v327 200000).bind fun r333 =>
    if r333 = true then
      (F77_0 v326 v327).bind fun r339 =>
      some (r339, 0)
    else
      some (0, 2)
  else
    some (0, 2)
noncomputable def S131l0_0 (v363 : ByteArray) : Int → Option ((Int) ⊕ ((Unit) ⊕ (Unit)))
  | v364 =>
    if (v363.size : Int) ≤ v364 then
      some (.inr (.inl ()))
    else
      bind2 (geti (v363.data.toList) v364) fun j365 b366 =>
      if 97 ≤ (b366.toNat : Int) then
        if (b366.toNat : Int) ≤ 122 then
          some (.inl (aw .i64 (v364 + 1)))
        else
        if 65 ≤ (b366.toNat : Int) then
          if (b366.toNat : Int) ≤ 90 then
            some (.inl (aw .i64 (v364 + 1)))
          else
          if v364 = 0 then
            some (.inr (.inr ()))
          else
          if (b366.toNat : Int) = 45 then
            some (.inl (aw .i64 (v364 + 1)))
          else
          if 48 ≤ (b366.toNat : Int) then
            if (b366.toNat : Int) ≤ 57 then
              some (.inl (aw .i64 (v364 + 1)))
            else
              some (.inr (.inr ()))
          else
            some (.inr (.inr ()))
        else
        if v364 = 0 then
          some (.inr (.inr ()))
        else
        if (b366.toNat : Int) = 45 then
          some (.inl (aw .i64 (v364 + 1)))
        else
        if 48 ≤ (b366.toNat : Int) then
          if (b366.toNat : Int) ≤ 57 then
            some (.inl (aw .i64 (v364 + 1)))
          else
            some (.inr (.inr ()))
        else
          some (.inr (.inr ()))
      else
      if 65 ≤ (b366.toNat : Int) then
        if (b366.toNat : Int) ≤ 90 then
          some (.inl (aw .i64 (v364 + 1)))
        else
        if v364 = 0 then
          some (.inr (.inr ()))
        else
        if (b366.toNat : Int) = 45 then
          some (.inl (aw .i64 (v364 + 1)))
        else
        if 48 ≤ (b366.toNat : Int) then
          if (b366.toNat : Int) ≤ 57 then
            some (.inl (aw .i64 (v364 + 1)))
          else
            some (.inr (.inr ()))
        else
          some (.inr (.inr ()))
      else
      if v364 = 0 then
        some (.inr (.inr ()))
      else
      if (b366.toNat : Int) = 45 then
        some (.inl (aw .i64 (v364 + 1)))
      else
      if 48 ≤ (b366.toNat : Int) then
        if (b366.toNat : Int) ≤ 57 then
          some (.inl (aw .i64 (v364 + 1)))
        else
          some (.inr (.inr ()))
      else
        some (.inr (.inr ()))
noncomputable def L131l0_0 (v363 : ByteArray) (s : Int) : Option ((Unit) ⊕ (Unit)) := iter (S131l0_0 v363) 1000000 s
-- guidevanebase.IsName
noncomputable def F131_0 (v362 : ByteArray) : Option (Bool) :=
  if 1 ≤ (v362.size : Int) then
    if (v362.size : Int) ≤ 12 then
      (L131l0_0 v362 0).bind fun g391_ => match g391_ with
      | .inl () =>
        some true
      | .inr () =>
        some false
    else
      some false
  else
    some false
noncomputable def S132l0_0 (v401 : ByteArray) (v403 : List ByteArray) : Int → Option ((Int) ⊕ ((Unit) ⊕ (Unit)))
  | v402 =>
    if (v403.length : Int) ≤ v402 then
      some (.inr (.inl ()))
    else
      bind2 (geti v403 v402) fun j404 x405 =>
      if x405 = v401 then
        some (.inr (.inr ()))
      else
        some (.inl (aw .i64 (v402 + 1)))
noncomputable def L132l0_0 (v401 : ByteArray) (v403 : List ByteArray) (s : Int) : Option ((Unit) ⊕ (Unit)) := iter (S132l0_0 v401 v403) 1000000 s
-- guidevanebase.HasText
noncomputable def F132_0 (v399 : ByteArray) (v400 : List ByteArray) : Option (Bool) :=
  (L132l0_0 v399 v400 0).bind fun g409_ => match g409_ with
  | .inl () =>
    some false
  | .inr () =>
    some true
-- guidevanebase.Within
noncomputable def F20_0 (v415 : Int) (v416 : Int) (v417 : Int) : Option (Bool) :=
  if v416 ≤ v415 then
    some (decide (v415 ≤ v417))
  else
    some false
-- guidevaneref02.nodeErr
noncomputable def F78_0 (v357 : ByteArray) (v358 : Bool) (v359 : Int) (v360 : Int) (v361 : List ByteArray) : Option (Int) :=
  (F131_0 v357).bind fun r398 =>
  if r398 = true then
    (F132_0 v357 v361).bind fun r414 =>
    if r414 = true then
      some 5
    else
    if v358 = true then
      (F20_0 v359 0 1000000).bind fun r422 =>
      if r422 = true then
        if v360 = 0 then
          some 0
        else
          some 3
      else
        some 2
    else
      (F20_0 v360 (-10000) 10000).bind fun r427 =>
      if r427 = true then
        if v359 = 0 then
          some 0
        else
          some 3
      else
        some 2
  else
    some 4
noncomputable def S19l0_0 (v351 : List WaterNode) (v352 : List WaterConduit) : (Int × (List ByteArray)) → Option ((Int × (List ByteArray)) ⊕ ((Unit) ⊕ (Int × Int)))
  | (v350, v353) =>
    if (v351.length : Int) ≤ v350 then
      some (.inr (.inl ()))
    else
      bind2 (geti v351 v350) fun j354 x355 =>
      (F78_0 x355.fName x355.fLake x355.fHead x355.fDraw v353).bind fun r436 =>
      if r436 = 0 then
        room ((v353.length + 1) * 16) (
          some (.inl ((aw .i64 (v350 + 1)), (v353 ++ [x355.fName])))
        )
      else
        some (.inr (.inr (v350, r436)))
noncomputable def L19l0_0 (v351 : List WaterNode) (v352 : List WaterConduit) (s : Int × (List ByteArray)) : Option ((Unit) ⊕ (Int × Int)) := iter (S19l0_0 v351 v352) 1000000 s
-- guidevaneref02.conduitErr
noncomputable def F79_0 (v451 : ByteArray) (v452 : Int) (v453 : Int) (v454 : Int) (v455 : Bool) (v456 : Bool) (v457 : List WaterNode) (v458 : List WaterConduit) (v459 : List ByteArray) : Option (Int) :=
  (F131_0 v451).bind fun r462 =>
  if r462 = true then
    (F132_0 v451 v459).bind fun r465 =>
    if r465 = true then
      some 5
    else
      (F20_0 v452 0 (aw .i64 ((v457.length : Int) - 1))).bind fun r468 =>
      if r468 = true then
        (F20_0 v453 0 (aw .i64 ((v457.length : Int) - 1))).bind fun r471 =>
        if r471 = true then
          if v452 = v453 then
            some 13
          else
            (F20_0 v454 0 1000).bind fun r474 =>
            if r474 = true then
              if v455 = true then
                some 0
              else
              if v456 = true then
                some 0
              else
                some 3
            else
              some 2
        else
          some 6
      else
        some 6
  else
    some 4
noncomputable def S19l1_0 (v445 : List WaterNode) (v446 : List WaterConduit) : (Int × (List ByteArray)) → Option ((Int × (List ByteArray)) ⊕ ((Unit) ⊕ (Int × Int)))
  | (v444, v447) =>
    if (v446.length : Int) ≤ v444 then
      some (.inr (.inl ()))
    else
      bind2 (geti v446 v444) fun j448 x449 =>
      (F79_0 x449.fName x449.fFrom x449.fTo x449.fResist x449.fValve x449.fOpen v445 v446 v447).bind fun r486 =>
      if r486 = 0 then
        room ((v447.length + 1) * 16) (
          some (.inl ((aw .i64 (v444 + 1)), (v447 ++ [x449.fName])))
        )
      else
        some (.inr (.inr (v444, r486)))
noncomputable def L19l1_0 (v445 : List WaterNode) (v446 : List WaterConduit) (s : Int × (List ByteArray)) : Option ((Unit) ⊕ (Int × Int)) := iter (S19l1_0 v445 v446) 1000000 s
-- guidevaneref02.CheckNet
noncomputable def F19_0 (v348 : List WaterNode) (v349 : List WaterConduit) : Option (Int × Int) :=
  if (v348.length : Int) = 0 then
    some (0, 10)
  else
  if (v349.length : Int) = 0 then
    some (0, 10)
  else
  if (v348.length : Int) ≤ 10 then
    if (v349.length : Int) ≤ 14 then
      (L19l0_0 v348 v349 (0, ([] : List ByteArray))).bind fun g442_ => match g442_ with
      | .inl () =>
        (L19l1_0 v348 v349 (0, ([] : List ByteArray))).bind fun g492_ => match g492_ with
        | .inl () =>
          some (0, 0)
        | .inr (r494, r495) =>
          some (r494, r495)
      | .inr (r496, r497) =>
        some (r496, r497)
    else
      some (0, 8)
  else
    some (0, 8)
-- guidevaneref02.FlowErr
noncomputable def F21_0 (v511 : Int) : Option (Int) :=
  (F20_0 v511 (-200000) 200000).bind fun r514 =>
  if r514 = true then
    some 0
  else
    some 2
-- guidevanebase.Size
noncomputable def F41_0 (v522 : Int) : Option (Int) :=
  some (max v522 (aw .i64 (0 - v522)))
-- guidevaneref02.Loss
noncomputable def F22_0 (v520 : Int) (v521 : Int) : Option (Int) :=
  (F41_0 v521).bind fun r526 =>
  some (aw .i64 ((aw .i64 (v520 * v521)) * r526))
-- guidevanelaw02.WaterNets
noncomputable def F3_0 (v1 : Int) (v2 : Int) (v3 : List WaterNode) (v4 : List WaterConduit) : Option (Bool) :=
  (F15_0 v3 v4).bind fun r33 =>
  if r33 = true then
    (F17_0 v3 v4).bind fun _ =>
    bind2 (F16_0 v3 v4) fun r324 r325 =>
    bind2 (F18_0 v1 v2) fun r346 r347 =>
    bind2 (F19_0 v3 v4) fun r506 r507 =>
    if r325 = r507 then
      if r324 = r506 then
        (F20_0 v1 0 1000).bind fun r510 =>
        if r510 = true then
          (F21_0 v2).bind fun r519 =>
          if r519 = 0 then
            if r347 = 0 then
              (F22_0 v1 v2).bind fun r530 =>
              some (decide (r346 = r530))
            else
              some false
          else
          if r347 = 2 then
            some (decide (r346 = 0))
          else
            some false
        else
        if r347 = 2 then
          some (decide (r346 = 0))
        else
          some false
      else
        some false
    else
      some false
  else
    some true
end Go.AI
