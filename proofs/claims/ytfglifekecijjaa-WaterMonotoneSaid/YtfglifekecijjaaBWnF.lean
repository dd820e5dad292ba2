/-
  What the functions compute.
-/
import Derived.Test.YtfglifekecijjaaBWnTy
set_option linter.unusedVariables false
set_option linter.unusedSimpArgs false
set_option maxRecDepth 100000
set_option maxHeartbeats 4000000
namespace Go.AI
noncomputable def S15l0_0 (v9 : List WaterNode) (v10 : List WaterConduit) : Int → Option ((Int) ⊕ ((Unit) ⊕ (Unit)))
  | v8 =>
    if (v9.length : Int) ≤ v8 then
      some (.inr (.inl ()))
    else
      bind2 (geti v9 v8) fun j11 x12 =>
      if (x12.fName.size : Int) ≤ 20 then
        some (.inl (aw .i64 (v8 + 1)))
      else
        some (.inr (.inr ()))
noncomputable def L15l0_0 (v9 : List WaterNode) (v10 : List WaterConduit) (s : Int) : Option ((Unit) ⊕ (Unit)) := iter (S15l0_0 v9 v10) 1000000 s
noncomputable def S15l1_0 (v19 : List WaterNode) (v20 : List WaterConduit) : Int → Option ((Int) ⊕ ((Unit) ⊕ (Unit)))
  | v18 =>
    if (v20.length : Int) ≤ v18 then
      some (.inr (.inl ()))
    else
      bind2 (geti v20 v18) fun j21 x22 =>
      if (x22.fName.size : Int) ≤ 20 then
        some (.inl (aw .i64 (v18 + 1)))
      else
        some (.inr (.inr ()))
noncomputable def L15l1_0 (v19 : List WaterNode) (v20 : List WaterConduit) (s : Int) : Option ((Unit) ⊕ (Unit)) := iter (S15l1_0 v19 v20) 1000000 s
-- guidevanelaw02.Few
noncomputable def F15_0 (v6 : List WaterNode) (v7 : List WaterConduit) : Option (Bool) :=
  if (v6.length : Int) ≤ 12 then
    if (v7.length : Int) ≤ 16 then
      (L15l0_0 v6 v7 0).bind fun g16_ => match g16_ with
      | .inl () =>
        (L15l1_0 v6 v7 0).bind fun g26_ => match g26_ with
        | .inl () =>
          some true
        | .inr () =>
          some false
      | .inr () =>
        some false
    else
      some false
  else
    some false
-- guidevaneref02.Copy
noncomputable def F17_0 (v34 : List WaterNode) (v35 : List WaterConduit) : Option (Unit) :=
  room (v34.length * 40) (
    room (v35.length * 48) (
      some ()
    )
  )
-- water.unless
noncomputable def F72_0 (v42 : Bool) (v43 : Int) : Option (Int) :=
  if v42 = true then
    some 0
  else
    some v43
noncomputable def S71l0_0 (v53 : Int) (v55 : List Int) : Int → Option ((Int) ⊕ ((Unit) ⊕ (Int)))
  | v54 =>
    if v53 ≤ v54 then
      some (.inr (.inl ()))
    else
      bind2 (geti v55 v54) fun j56 x57 =>
      if x57 = 0 then
        some (.inl (aw .i64 (v54 + 1)))
      else
        some (.inr (.inr (x57)))
noncomputable def L71l0_0 (v53 : Int) (v55 : List Int) (s : Int) : Option ((Unit) ⊕ (Int)) := iter (S71l0_0 v53 v55) 1000000 s
-- water.first
noncomputable def F71_0 (v52 : List Int) : Option (Int) :=
  (L71l0_0 (v52.length : Int) v52 0).bind fun g62_ => match g62_ with
  | .inl () =>
    some 0
  | .inr (r64) =>
    some r64
-- water.within
noncomputable def F74_0 (v79 : Int) (v80 : Int) (v81 : Int) : Option (Bool) :=
  if v80 ≤ v79 then
    some (decide (v79 ≤ v81))
  else
    some false
-- water.isSized
noncomputable def F73_0 (v77 : Int) (v78 : Int) : Option (Bool) :=
  (F74_0 v77 (aw .i64 (0 - v78)) v78).bind fun r86 =>
  some r86
noncomputable def S75l0_0 (v96 : ByteArray) (v97 : Int) (v99 : List UInt8) : Int → Option ((Int) ⊕ ((Unit) ⊕ (Unit)))
  | v98 =>
    if v97 ≤ v98 then
      some (.inr (.inl ()))
    else
      bind2 (geti v99 v98) fun j100 x101 =>
      (F74_0 (aw .i64 (x101.toNat : Int)) 97 122).bind fun r105 =>
      if r105 = true then
        some (.inl (aw .i64 (v98 + 1)))
      else
        (F74_0 (aw .i64 (x101.toNat : Int)) 65 90).bind fun r108 =>
        if r108 = true then
          some (.inl (aw .i64 (v98 + 1)))
        else
        if v98 = 0 then
          some (.inr (.inr ()))
        else
        if (x101.toNat : Int) = 45 then
          some (.inl (aw .i64 (v98 + 1)))
        else
          (F74_0 (aw .i64 (x101.toNat : Int)) 48 57).bind fun r111 =>
          if r111 = true then
            some (.inl (aw .i64 (v98 + 1)))
          else
            some (.inr (.inr ()))
noncomputable def L75l0_0 (v96 : ByteArray) (v97 : Int) (v99 : List UInt8) (s : Int) : Option ((Unit) ⊕ (Unit)) := iter (S75l0_0 v96 v97 v99) 1000000 s
-- water.isName
noncomputable def F75_0 (v94 : ByteArray) : Option (Bool) :=
  roomS (v94.size) (
    (L75l0_0 v94 (v94.size : Int) (v94.data.toList) 0).bind fun g118_ => match g118_ with
    | .inl () =>
      (F74_0 (v94.size : Int) 1 12).bind fun r122 =>
      some r122
    | .inr () =>
      some false
  )
noncomputable def S16l0_0 (v69 : Int) (v71 : List WaterNode) (v72 : List WaterConduit) : (Int × (List (ByteArray × Bool))) → Option ((Int × (List (ByteArray × Bool))) ⊕ ((Unit) ⊕ (Int × Int)))
  | (v70, v73) =>
    if v69 ≤ v70 then
      some (.inr (.inl ()))
    else
      bind2 (geti v71 v70) fun j74 x75 =>
      (F73_0 x75.fDraw 10000).bind fun r90 =>
      if x75.fLake = true then
        (F74_0 x75.fHead 0 1000000).bind fun r93 =>
        (F75_0 x75.fName).bind fun r126 =>
        (F72_0 r126 4).bind fun r129 =>
        (F72_0 (!(getM x75.fName false v73)) 5).bind fun r132 =>
        (F72_0 r93 2).bind fun r135 =>
        (F72_0 (decide (x75.fDraw = 0)) 3).bind fun r138 =>
        (F71_0 ([r129, r132, r135, r138] : List Int)).bind fun r141 =>
        if r141 = 0 then
          some (.inl ((aw .i64 (v70 + 1)), (putM x75.fName true v73)))
        else
          some (.inr (.inr (v70, r141)))
      else
        (F75_0 x75.fName).bind fun r145 =>
        (F72_0 r145 4).bind fun r148 =>
        (F72_0 (!(getM x75.fName false v73)) 5).bind fun r151 =>
        (F72_0 r90 2).bind fun r154 =>
        (F72_0 (decide (x75.fHead = 0)) 3).bind fun r157 =>
        (F71_0 ([r148, r151, r154, r157] : List Int)).bind fun r160 =>
        if r160 = 0 then
          some (.inl ((aw .i64 (v70 + 1)), (putM x75.fName true v73)))
        else
          some (.inr (.inr (v70, r160)))
noncomputable def L16l0_0 (v69 : Int) (v71 : List WaterNode) (v72 : List WaterConduit) (s : Int × (List (ByteArray × Bool))) : Option ((Unit) ⊕ (Int × Int)) := iter (S16l0_0 v69 v71 v72) 1000000 s
-- water.CheckNet$1
noncomputable def F76_0 (v185 : Int) (v186 : List WaterNode) (v187 : List WaterConduit) : Option (Bool) :=
  (F74_0 v185 0 (aw .i64 ((v186.length : Int) - 1))).bind fun r190 =>
  some r190
noncomputable def S16l1_0 (v168 : Int) (v170 : List WaterNode) (v171 : List WaterConduit) : (Int × (List (ByteArray × Bool))) → Option ((Int × (List (ByteArray × Bool))) ⊕ ((Unit) ⊕ (Int × Int)))
  | (v169, v172) =>
    if v168 ≤ v169 then
      some (.inr (.inl ()))
    else
      bind2 (geti v171 v169) fun j173 x174 =>
      (F75_0 x174.fName).bind fun r178 =>
      (F72_0 r178 4).bind fun r181 =>
      (F72_0 (!(getM x174.fName false v172)) 5).bind fun r184 =>
      (F76_0 x174.fFrom v170 v171).bind fun r194 =>
      if r194 = true then
        (F76_0 x174.fTo v170 v171).bind fun r197 =>
        (F72_0 r197 6).bind fun r200 =>
        (F72_0 (!(decide (x174.fFrom = x174.fTo))) 13).bind fun r203 =>
        (F74_0 x174.fResist 0 1000).bind fun r206 =>
        (F72_0 r206 2).bind fun r209 =>
        if x174.fValve = true then
          (F72_0 true 3).bind fun r212 =>
          (F71_0 ([r181, r184, r200, r203, r209, r212] : List Int)).bind fun r215 =>
          if r215 = 0 then
            some (.inl ((aw .i64 (v169 + 1)), (putM x174.fName true v172)))
          else
            some (.inr (.inr (v169, r215)))
        else
          (F72_0 x174.fOpen 3).bind fun r219 =>
          (F71_0 ([r181, r184, r200, r203, r209, r219] : List Int)).bind fun r222 =>
          if r222 = 0 then
            some (.inl ((aw .i64 (v169 + 1)), (putM x174.fName true v172)))
          else
            some (.inr (.inr (v169, r222)))
      else
        (F72_0 false 6).bind fun r227 =>
        (F72_0 (!(decide (x174.fFrom = x174.fTo))) 13).bind fun r230 =>
        (F74_0 x174.fResist 0 1000).bind fun r233 =>
        (F72_0 r233 2).bind fun r236 =>
        if x174.fValve = true then
          (F72_0 true 3).bind fun r239 =>
          (F71_0 ([r181, r184, r227, r230, r236, r239] : List Int)).bind fun r242 =>
          if r242 = 0 then
            some (.inl ((aw .i64 (v169 + 1)), (putM x174.fName true v172)))
          else
            some (.inr (.inr (v169, r242)))
        else
          (F72_0 x174.fOpen 3).bind fun r246 =>
          (F71_0 ([r181, r184, r227, r230, r236, r246] : List Int)).bind fun r249 =>
          if r249 = 0 then
            some (.inl ((aw .i64 (v169 + 1)), (putM x174.fName true v172)))
          else
            some (.inr (.inr (v169, r249)))
noncomputable def L16l1_0 (v168 : Int) (v170 : List WaterNode) (v171 : List WaterConduit) (s : Int × (List (ByteArray × Bool))) : Option ((Unit) ⊕ (Int × Int)) := iter (S16l1_0 v168 v170 v171) 1000000 s
-- water.CheckNet
noncomputable def F16_0 (v40 : List WaterNode) (v41 : List WaterConduit) : Option (Int × Int) :=
  if (v40.length : Int) ≤ 0 then
    if (v40.length : Int) ≤ 10 then
      (F72_0 false 10).bind fun r48 =>
      (F72_0 (decide ((v41.length : Int) ≤ 14)) 8).bind fun r51 =>
      (F71_0 ([r48, r51] : List Int)).bind fun r68 =>
      if r68 = 0 then
        (L16l0_0 (v40.length : Int) v40 v41 (0, ([] : List (ByteArray × Bool)))).bind fun g166_ => match g166_ with
        | .inl () =>
          (L16l1_0 (v41.length : Int) v40 v41 (0, ([] : List (ByteArray × Bool)))).bind fun g256_ => match g256_ with
          | .inl () =>
            some (0, 0)
          | .inr (r258, r259) =>
            some (r258, r259)
        | .inr (r260, r261) =>
          some (r260, r261)
      else
        some (0, r68)
    else
      (F72_0 false 10).bind fun r265 =>
      (F72_0 false 8).bind fun r268 =>
      (F71_0 ([r265, r268] : List Int)).bind fun r271 =>
      if r271 = 0 then
        (L16l0_0 (v40.length : Int) v40 v41 (0, ([] : List (ByteArray × Bool)))).bind fun g272_ => match g272_ with
        | .inl () =>
          (L16l1_0 (v41.length : Int) v40 v41 (0, ([] : List (ByteArray × Bool)))).bind fun g274_ => match g274_ with
          | .inl () =>
            some (0, 0)
          | .inr (r276, r277) =>
            some (r276, r277)
        | .inr (r278, r279) =>
          some (r278, r279)
      else
        some (0, r271)
  else
  if (v40.length : Int) ≤ 10 then
    (F72_0 (!(decide ((v41.length : Int) ≤ 0))) 10).bind fun r284 =>
    (F72_0 (decide ((v41.length : Int) ≤ 14)) 8).bind fun r287 =>
    (F71_0 ([r284, r287] : List Int)).bind fun r290 =>
    if r290 = 0 then
      (L16l0_0 (v40.length : Int) v40 v41 (0, ([] : List (ByteArray × Bool)))).bind fun g291_ => match g291_ with
      | .inl () =>
        (L16l1_0 (v41.length : Int) v40 v41 (0, ([] : List (ByteArray × Bool)))).bind fun g293_ => match g293_ with
        | .inl () =>
          some (0, 0)
        | .inr (r295, r296) =>
          some (r295, r296)
      | .inr (r297, r298) =>
        some (r297, r298)
    else
      some (0, r290)
  else
    (F72_0 (!(decide ((v41.length : Int) ≤ 0))) 10).bind fun r302 =>
    (F72_0 false 8).bind fun r305 =>
    (F71_0 ([r302, r305] : List Int)).bind fun r308 =>
    if r308 = 0 then
      (L16l0_0 (v40.length : Int) v40 v41 (0, ([] : List (ByteArray × Bool)))).bind fun g309_ => match g309_ with
      | .inl () =>
        (L16l1_0 (v41.length : Int) v40 v41 (0, ([] : List (ByteArray × Bool)))).bind fun g311_ => match g311_ with
        | .inl () =>
          some (0, 0)
        | .inr (r313, r314) =>
          some (r313, r314)
      | .inr (r315, r316) =>
        some (r315, r316)
    else
      some (0, r308)
-- water.loss
noncomputable def F77_0 (v334 : Int) (v335 : Int) : Option (Int) :=
  some (aw .i64 ((aw .i64 (v334 * v335)) * (max v335 (aw .i64 (0 - v335)))))
-- water.LossOf
noncomputable def F18_0 (v326 : Int) (v327 : Int) : Option (Int × Int) :=
  (F74_0 v326 0 1000).bind fun r330 =>
  if r330 = true then
    (F73_0 v327 200000).bind fun r333 =>
    if r333 = true then
      (F77_0 v326 v327).bind fun r339 =>
      some (r339, 0)
    else
      some (0, 2)
  else
    some (0, 2)
noncomputable def S131l0_0 (v363 : ByteArray) : Int → Option ((Int) ⊕ ((Unit) ⊕ (Unit)))
  | v364 =>
    if (v363.size : Int) ≤ v364 then
      some (.inr (.inl ()))
    else
      bind2 (geti (v363.data.toList) v364) fun j365 b366 =>
      if 97 ≤ (b366.toNat : Int) then
        if (b366.toNat : Int) ≤ 122 then
          some (.inl (aw .i64 (v364 + 1)))
        else
        if 65 ≤ (b366.toNat : Int) then
          if (b366.toNat : Int) ≤ 90 then
            some (.inl (aw .i64 (v364 + 1)))
          else
          if v364 = 0 then
            some (.inr (.inr ()))
          else
          if (b366.toNat : Int) = 45 then
            some (.inl (aw .i64 (v364 + 1)))
          else
          if 48 ≤ (b366.toNat : Int) then
            if (b366.toNat : Int) ≤ 57 then
              some (.inl (aw .i64 (v364 + 1)))
            else
              some (.inr (.inr ()))
          else
            some (.inr (.inr ()))
        else
        if v364 = 0 then
          some (.inr (.inr ()))
        else
        if (b366.toNat : Int) = 45 then
          some (.inl (aw .i64 (v364 + 1)))
        else
        if 48 ≤ (b366.toNat : Int) then
          if (b366.toNat : Int) ≤ 57 then
            some (.inl (aw .i64 (v364 + 1)))
          else
            some (.inr (.inr ()))
        else
          some (.inr (.inr ()))
      else
      if 65 ≤ (b366.toNat : Int) then
        if (b366.toNat : Int) ≤ 90 then
          some (.inl (aw .i64 (v364 + 1)))
        else
        if v364 = 0 then
          some (.inr (.inr ()))
        else
        if (b366.toNat : Int) = 45 then
          some (.inl (aw .i64 (v364 + 1)))
        else
        if 48 ≤ (b366.toNat : Int) then
          if (b366.toNat : Int) ≤ 57 then
            some (.inl (aw .i64 (v364 + 1)))
          else
            some (.inr (.inr ()))
        else
          some (.inr (.inr ()))
      else
      if v364 = 0 then
        some (.inr (.inr ()))
      else
      if (b366.toNat : Int) = 45 then
        some (.inl (aw .i64 (v364 + 1)))
      else
      if 48 ≤ (b366.toNat : Int) then
        if (b366.toNat : Int) ≤ 57 then
          some (.inl (aw .i64 (v364 + 1)))
        else
          some (.inr (.inr ()))
      else
        some (.inr (.inr ()))
noncomputable def L131l0_0 (v363 : ByteArray) (s : Int) : Option ((Unit) ⊕ (Unit)) := iter (S131l0_0 v363) 1000000 s
-- guidevanebase.IsName
noncomputable def F131_0 (v362 : ByteArray) : Option (Bool) :=
  if 1 ≤ (v362.size : Int) then
    if (v362.size : Int) ≤ 12 then
      (L131l0_0 v362 0).bind fun g391_ => match g391_ with
      | .inl () =>
        some true
      | .inr () =>
        some false
    else
      some false
  else
    some false
noncomputable def S132l0_0 (v401 : ByteArray) (v403 : List ByteArray) : Int → Option ((Int) ⊕ ((Unit) ⊕ (Unit)))
  | v402 =>
    if (v403.length : Int) ≤ v402 then
      some (.inr (.inl ()))
    else
      bind2 (geti v403 v402) fun j404 x405 =>
      if x405 = v401 then
        some (.inr (.inr ()))
      else
        some (.inl (aw .i64 (v402 + 1)))
noncomputable def L132l0_0 (v401 : ByteArray) (v403 : List ByteArray) (s : Int) : Option ((Unit) ⊕ (Unit)) := iter (S132l0_0 v401 v403) 1000000 s
-- guidevanebase.HasText
noncomputable def F132_0 (v399 : ByteArray) (v400 : List ByteArray) : Option (Bool) :=
  (L132l0_0 v399 v400 0).bind fun g409_ => match g409_ with
  | .inl () =>
    some false
  | .inr () =>
    some true
-- guidevanebase.Within
noncomputable def F20_0 (v415 : Int) (v416 : Int) (v417 : Int) : Option (Bool) :=
  if v416 ≤ v415 then
    some (decide (v415 ≤ v417))
  else
    some false
-- guidevaneref02.nodeErr
noncomputable def F78_0 (v357 : ByteArray) (v358 : Bool) (v359 : Int) (v360 : Int) (v361 : List ByteArray) : Option (Int) :=
  (F131_0 v357).bind fun r398 =>
  if r398 = true then
    (F132_0 v357 v361).bind fun r414 =>
    if r414 = true then
      some 5
    else
    if v358 = true then
      (F20_0 v359 0 1000000).bind fun r422 =>
      if r422 = true then
        if v360 = 0 then
          some 0
        else
          some 3
      else
        some 2
    else
      (F20_0 v360 (-10000) 10000).bind fun r427 =>
      if r427 = true then
        if v359 = 0 then
          some 0
        else
          some 3
      else
        some 2
  else
    some 4
noncomputable def S19l0_0 (v351 : List WaterNode) (v352 : List WaterConduit) : (Int × (List ByteArray)) → Option ((Int × (List ByteArray)) ⊕ ((Unit) ⊕ (Int × Int)))
  | (v350, v353) =>
    if (v351.length : Int) ≤ v350 then
      some (.inr (.inl ()))
    else
      bind2 (geti v351 v350) fun j354 x355 =>
      (F78_0 x355.fName x355.fLake x355.fHead x355.fDraw v353).bind fun r436 =>
      if r436 = 0 then
        room ((v353.length + 1) * 16) (
          some (.inl ((aw .i64 (v350 + 1)), (v353 ++ [x355.fName])))
        )
      else
        some (.inr (.inr (v350, r436)))
noncomputable def L19l0_0 (v351 : List WaterNode) (v352 : List WaterConduit) (s : Int × (List ByteArray)) : Option ((Unit) ⊕ (Int × Int)) := iter (S19l0_0 v351 v352) 1000000 s
-- guidevaneref02.conduitErr
noncomputable def F79_0 (v451 : ByteArray) (v452 : Int) (v453 : Int) (v454 : Int) (v455 : Bool) (v456 : Bool) (v457 : List WaterNode) (v458 : List WaterConduit) (v459 : List ByteArray) : Option (Int) :=
  (F131_0 v451).bind fun r462 =>
  if r462 = true then
    (F132_0 v451 v459).bind fun r465 =>
    if r465 = true then
      some 5
    else
      (F20_0 v452 0 (aw .i64 ((v457.length : Int) - 1))).bind fun r468 =>
      if r468 = true then
        (F20_0 v453 0 (aw .i64 ((v457.length : Int) - 1))).bind fun r471 =>
        if r471 = true then
          if v452 = v453 then
            some 13
          else
            (F20_0 v454 0 1000).bind fun r474 =>
            if r474 = true then
              if v455 = true then
                some 0
              else
              if v456 = true then
                some 0
              else
                some 3
            else
              some 2
        else
          some 6
      else
        some 6
  else
    some 4
noncomputable def S19l1_0 (v445 : List WaterNode) (v446 : List WaterConduit) : (Int × (List ByteArray)) → Option ((Int × (List ByteArray)) ⊕ ((Unit) ⊕ (Int × Int)))
  | (v444, v447) =>
    if (v446.length : Int) ≤ v444 then
      some (.inr (.inl ()))
    else
      bind2 (geti v446 v444) fun j448 x449 =>
      (F79_0 x449.fName x449.fFrom x449.fTo x449.fResist x449.fValve x449.fOpen v445 v446 v447).bind fun r486 =>
      if r486 = 0 then
        room ((v447.length + 1) * 16) (
          some (.inl ((aw .i64 (v444 + 1)), (v447 ++ [x449.fName])))
        )
      else
        some (.inr (.inr (v444, r486)))
noncomputable def L19l1_0 (v445 : List WaterNode) (v446 : List WaterConduit) (s : Int × (List ByteArray)) : Option ((Unit) ⊕ (Int × Int)) := iter (S19l1_0 v445 v446) 1000000 s
-- guidevaneref02.CheckNet
noncomputable def F19_0 (v348 : List WaterNode) (v349 : List WaterConduit) : Option (Int × Int) :=
  if (v348.length : Int) = 0 then
    some (0, 10)
  else
  if (v349.length : Int) = 0 then
    some (0, 10)
  else
  if (v348.length : Int) ≤ 10 then
    if (v349.length : Int) ≤ 14 then
      (L19l0_0 v348 v349 (0, ([] : List ByteArray))).bind fun g442_ => match g442_ with
      | .inl () =>
        (L19l1_0 v348 v349 (0, ([] : List ByteArray))).bind fun g492_ => match g492_ with
        | .inl () =>
          some (0, 0)
        | .inr (r494, r495) =>
          some (r494, r495)
      | .inr (r496, r497) =>
        some (r496, r497)
    else
      some (0, 8)
  else
    some (0, 8)
-- guidevaneref02.FlowErr
noncomputable def F21_0 (v511 : Int) : Option (Int) :=
  (F20_0 v511 (-200000) 200000).bind fun r514 =>
  if r514 = true then
    some 0
  else
    some 2
-- guidevanebase.Size
noncomputable def F41_0 (v522 : Int) : Option (Int) :=
  some (max v522 (aw .i64 (0 - v522)))
-- guidevaneref02.Loss
noncomputable def F22_0 (v520 : Int) (v521 : Int) : Option (Int) :=
  (F41_0 v521).bind fun r526 =>
  some (aw .i64 ((aw .i64 (v520 * v521)) * r526))
-- guidevanelaw02.WaterNets
noncomputable def F3_0 (v1 : Int) (v2 : Int) (v3 : List WaterNode) (v4 : List WaterConduit) : Option (Bool) :=
  (F15_0 v3 v4).bind fun r33 =>
  if r33 = true then
    (F17_0 v3 v4).bind fun _ =>
    bind2 (F16_0 v3 v4) fun r324 r325 =>
    bind2 (F18_0 v1 v2) fun r346 r347 =>
    bind2 (F19_0 v3 v4) fun r506 r507 =>
    if r325 = r507 then
      if r324 = r506 then
        (F20_0 v1 0 1000).bind fun r510 =>
        if r510 = true then
          (F21_0 v2).bind fun r519 =>
          if r519 = 0 then
            if r347 = 0 then
              (F22_0 v1 v2).bind fun r530 =>
              some (decide (r346 = r530))
            else
              some false
          else
          if r347 = 2 then
            some (decide (r346 = 0))
          else
            some false
        else
        if r347 = 2 then
          some (decide (r346 = 0))
        else
          some false
      else
        some false
    else
      some false
  else
    some true
-- guidevaneref02.ResistErr
noncomputable def F44_0 (v551 : Int) : Option (Int) :=
  (F20_0 v551 1 1000).bind fun r554 =>
  if r554 = true then
    some 0
  else
    some 2
noncomputable def S23l0_0 (v547 : List Int) : Int → Option ((Int) ⊕ ((Unit) ⊕ (Int)))
  | v546 =>
    if (v547.length : Int) ≤ v546 then
      some (.inr (.inl ()))
    else
      bind2 (geti v547 v546) fun j548 x549 =>
      (F44_0 x549).bind fun r559 =>
      if r559 = 0 then
        some (.inl (aw .i64 (v546 + 1)))
      else
        some (.inr (.inr (r559)))
noncomputable def L23l0_0 (v547 : List Int) (s : Int) : Option ((Unit) ⊕ (Int)) := iter (S23l0_0 v547) 1000000 s
-- guidevaneref02.ResistsErr
noncomputable def F23_0 (v545 : List Int) : Option (Int) :=
  if (v545.length : Int) = 0 then
    some 10
  else
  if (v545.length : Int) ≤ 8 then
    (L23l0_0 v545 0).bind fun g563_ => match g563_ with
    | .inl () =>
      some 0
    | .inr (r565) =>
      some r565
  else
    some 8
-- guidevaneref02.DropErr
noncomputable def F24_0 (v573 : Int) : Option (Int) :=
  (F20_0 v573 0 1000000000).bind fun r576 =>
  if r576 = true then
    some 0
  else
    some 2
-- guidevanebase.CopyInts
noncomputable def F26_0 (v591 : List Int) : Option (Unit) :=
  room (v591.length * 8) (
    some ()
  )
-- water.resistsErr$1
noncomputable def F133_0 (v607 : Int) : Option (Bool) :=
  (F74_0 v607 1 1000).bind fun r610 =>
  some (!r610)
noncomputable def S149l0_0 (v601 : Int) (v603 : List Int) : Int → Option ((Int) ⊕ ((Unit) ⊕ (Int)))
  | v602 =>
    if v601 ≤ v602 then
      some (.inr (.inl ()))
    else
      bind2 (geti v603 v602) fun j604 x605 =>
      (F133_0 x605).bind fun r614 =>
      if r614 = true then
        some (.inr (.inr (v602)))
      else
        some (.inl (aw .i64 (v602 + 1)))
noncomputable def L149l0_0 (v601 : Int) (v603 : List Int) (s : Int) : Option ((Unit) ⊕ (Int)) := iter (S149l0_0 v601 v603) 1000000 s
-- slices.IndexFunc[[]int,int]
noncomputable def F149_0 (v600 : List Int) : Option (Int) :=
  (L149l0_0 (v600.length : Int) v600 0).bind fun g618_ => match g618_ with
  | .inl () =>
    some (-1)
  | .inr (r620) =>
    some r620
-- slices.ContainsFunc[[]int,int]
noncomputable def F119_0 (v599 : List Int) : Option (Bool) :=
  (F149_0 v599).bind fun r624 =>
  some (decide (0 ≤ r624))
-- water.resistsErr
noncomputable def F80_0 (v598 : List Int) : Option (Int) :=
  (F119_0 v598).bind fun r628 =>
  (F72_0 (!(decide ((v598.length : Int) ≤ 0))) 10).bind fun r631 =>
  (F72_0 (decide ((v598.length : Int) ≤ 8)) 8).bind fun r634 =>
  (F72_0 (!r628) 2).bind fun r637 =>
  (F71_0 ([r631, r634, r637] : List Int)).bind fun r640 =>
  some r640
-- water.dropErr
noncomputable def F81_0 (v645 : Int) : Option (Int) :=
  (F74_0 v645 0 1000000000).bind fun r648 =>
  (F72_0 r648 2).bind fun r651 =>
  some r651
-- water.through$1
noncomputable def F134_0 (v683 : Int) (v684 : Int) (v685 : Int) : Option (Bool) :=
  some (decide (v685 ≤ (aw .i64 ((aw .i64 (v684 * v683)) * v683))))
noncomputable def S84l0_0 (v680 : Int) (v681 : Int) : (Int × Int) → Option ((Int × Int) ⊕ (Int))
  | (v678, v679) =>
    if v679 ≤ v678 then
      some (.inr v678)
    else
      (F134_0 (aw .i64 (v678 + (aw .i64 (Int.tdiv (aw .i64 (v679 - v678)) 2)))) v680 v681).bind fun r689 =>
      if r689 = true then
        some (.inl (v678, (aw .i64 (v678 + (aw .i64 (Int.tdiv (aw .i64 (v679 - v678)) 2))))))
      else
        some (.inl ((aw .i64 ((aw .i64 (v678 + (aw .i64 (Int.tdiv (aw .i64 (v679 - v678)) 2)))) + 1)), v679))
noncomputable def L84l0_0 (v680 : Int) (v681 : Int) (s : Int × Int) : Option (Int) := iter (S84l0_0 v680 v681) 1000000 s
-- water.least
noncomputable def F84_0 (v674 : Int) (v675 : Int) (v676 : Int) (v677 : Int) : Option (Int) :=
  (L84l0_0 v676 v677 (v674, v675)).bind fun r695 =>
  some r695
-- water.through
noncomputable def F83_0 (v672 : Int) (v673 : Int) : Option (Int × Int) :=
  (F84_0 0 31623 v672 v673).bind fun r699 =>
  if (aw .i64 ((aw .i64 (v672 * r699)) * r699)) ≤ v673 then
    some (r699, r699)
  else
    some ((aw .i64 (r699 - 1)), r699)
noncomputable def S82l0_0 (v708 : Int) (v709 : Int) (v711 : List Int) : (Int × Int × Int) → Option ((Int × Int × Int) ⊕ (Int × Int))
  | (v710, v714, v715) =>
    if v709 ≤ v710 then
      some (.inr (v714, v715))
    else
      bind2 (geti v711 v710) fun j716 x717 =>
      bind2 (F83_0 x717 v708) fun r721 r722 =>
      some (.inl ((aw .i64 (v710 + 1)), (aw .i64 (v714 + r721)), (aw .i64 (v715 + r722))))
noncomputable def L82l0_0 (v708 : Int) (v709 : Int) (v711 : List Int) (s : Int × Int × Int) : Option (Int × Int) := iter (S82l0_0 v708 v709 v711) 1000000 s
-- water.parallel
noncomputable def F82_0 (v659 : Int) (v660 : List Int) : Option (Int × Int) :=
  bind2 (L82l0_0 v659 (v660.length : Int) v660 (0, 0, 0)) fun r728 r729 =>
  some (r728, r729)
-- water.ParallelOf
noncomputable def F25_0 (v596 : Int) (v597 : List Int) : Option (Int × Int × Int) :=
  (F80_0 v597).bind fun r644 =>
  (F81_0 v596).bind fun r655 =>
  (F71_0 ([r644, r655] : List Int)).bind fun r658 =>
  if r658 = 0 then
    bind2 (F82_0 v596 v597) fun r734 r735 =>
    some (r734, r735, 0)
  else
    some (0, 0, r658)
-- guidevanebase.CopyInts
noncomputable def F26_1 (v755 : Nat) (v756 : Nat) (v757 : List Int) : Option ((List Int)) :=
  (partL v757 0 v755).bind fun l759 =>
  room (v755 * 8) (
    some l759
  )
-- water.FlowThrough
noncomputable def F27_0 (v786 : Int) (v787 : Int) : Option (Int × Int × Int) :=
  (F80_0 ([v786] : List Int)).bind fun r790 =>
  (F81_0 v787).bind fun r793 =>
  (F71_0 ([r790, r793] : List Int)).bind fun r796 =>
  if r796 = 0 then
    bind2 (F83_0 v786 v787) fun r799 r800 =>
    some (r799, r800, 0)
  else
    some (0, 0, r796)
noncomputable def S4l0_0 (v777 : Int) (v779 : List Int) (v780 : Int) (v781 : Int) : Int → Option ((Int) ⊕ ((Unit) ⊕ (Unit)))
  | v778 =>
    if (v779.length : Int) ≤ v778 then
      some (.inr (.inl ()))
    else
      bind2 (geti v779 v778) fun j782 x783 =>
      bind3 (F27_0 x783 v780) fun r807 r808 r809 =>
      if r809 = 0 then
        (F20_0 r807 0 r808).bind fun r812 =>
        if r812 = true then
          if r808 ≤ 40000 then
            if (aw .i64 ((aw .i64 (x783 * r807)) * r807)) ≤ v780 then
              if v780 ≤ (aw .i64 ((aw .i64 (x783 * r808)) * r808)) then
                some (.inl (aw .i64 (v778 + 1)))
              else
                some (.inr (.inr ()))
            else
              some (.inr (.inr ()))
          else
            some (.inr (.inr ()))
        else
          some (.inr (.inr ()))
      else
        some (.inr (.inr ()))
noncomputable def L4l0_0 (v777 : Int) (v779 : List Int) (v780 : Int) (v781 : Int) (s : Int) : Option ((Unit) ⊕ (Unit)) := iter (S4l0_0 v777 v779 v780 v781) 1000000 s
-- water.DropFor$1
noncomputable def F85_0 (v848 : Int) (v849 : List Int) (v850 : Int) : Option (Bool) :=
  bind2 (F82_0 v848 v849) fun r853 r854 =>
  some (decide (v850 ≤ r854))
noncomputable def S84l0_1 (v845 : List Int) (v846 : Int) : (Int × Int) → Option ((Int × Int) ⊕ (Int))
  | (v843, v844) =>
    if v844 ≤ v843 then
      some (.inr v843)
    else
      (F85_0 (aw .i64 (v843 + (aw .i64 (Int.tdiv (aw .i64 (v844 - v843)) 2)))) v845 v846).bind fun r858 =>
      if r858 = true then
        some (.inl (v843, (aw .i64 (v843 + (aw .i64 (Int.tdiv (aw .i64 (v844 - v843)) 2))))))
      else
        some (.inl ((aw .i64 ((aw .i64 (v843 + (aw .i64 (Int.tdiv (aw .i64 (v844 - v843)) 2)))) + 1)), v844))
noncomputable def L84l0_1 (v845 : List Int) (v846 : Int) (s : Int × Int) : Option (Int) := iter (S84l0_1 v845 v846) 1000000 s
-- water.least
noncomputable def F84_1 (v839 : Int) (v840 : Int) (v841 : List Int) (v842 : Int) : Option (Int) :=
  (L84l0_1 v841 v842 (v839, v840)).bind fun r864 =>
  some r864
-- water.DropFor$2
noncomputable def F86_0 (v878 : Int) (v879 : List Int) (v880 : Int) : Option (Bool) :=
  bind2 (F82_0 v878 v879) fun r883 r884 =>
  some (decide (v880 ≤ r883))
noncomputable def S84l0_2 (v875 : List Int) (v876 : Int) : (Int × Int) → Option ((Int × Int) ⊕ (Int))
  | (v873, v874) =>
    if v874 ≤ v873 then
      some (.inr v873)
    else
      (F86_0 (aw .i64 (v873 + (aw .i64 (Int.tdiv (aw .i64 (v874 - v873)) 2)))) v875 v876).bind fun r888 =>
      if r888 = true then
        some (.inl (v873, (aw .i64 (v873 + (aw .i64 (Int.tdiv (aw .i64 (v874 - v873)) 2))))))
      else
        some (.inl ((aw .i64 ((aw .i64 (v873 + (aw .i64 (Int.tdiv (aw .i64 (v874 - v873)) 2)))) + 1)), v874))
noncomputable def L84l0_2 (v875 : List Int) (v876 : Int) (s : Int × Int) : Option (Int) := iter (S84l0_2 v875 v876) 1000000 s
-- water.least
noncomputable def F84_2 (v869 : Int) (v870 : Int) (v871 : List Int) (v872 : Int) : Option (Int) :=
  (L84l0_2 v871 v872 (v869, v870)).bind fun r894 =>
  some r894
-- water.DropFor
noncomputable def F28_0 (v825 : Int) (v826 : List Int) : Option (Int × Int × Int) :=
  (F80_0 v826).bind fun r829 =>
  (F74_0 v825 0 10000).bind fun r832 =>
  (F72_0 r832 2).bind fun r835 =>
  (F71_0 ([r829, r835] : List Int)).bind fun r838 =>
  if r838 = 0 then
    (F84_1 0 1000000001 v826 v825).bind fun r868 =>
    (F84_2 r868 1000000001 v826 v825).bind fun r898 =>
    if r898 ≤ 1000000000 then
      some (r868, r898, 0)
    else
      some (0, 0, 12)
  else
    some (0, 0, r838)
-- guidevanelaw02.WaterMonotone
noncomputable def F4_0 (v540 : Int) (v541 : Int) (v542 : Int) (v543 : List Int) : Option (Bool) :=
  (F23_0 v543).bind fun r571 =>
  if r571 = 0 then
    (F24_0 v540).bind fun r581 =>
    if r581 = 0 then
      (F24_0 v541).bind fun r585 =>
      if r585 = 0 then
        if v540 ≤ v541 then
          (F20_0 v542 0 10000).bind fun r590 =>
          if r590 = true then
            (F26_0 v543).bind fun _ =>
            bind3 (F25_0 v540 v543) fun r742 r743 r744 =>
            (F26_0 v543).bind fun _ =>
            bind3 (F25_0 v541 v543) fun r750 r751 r752 =>
            (inx 1 (v543.length + 1)).bind fun j753 =>
            (F26_1 j753 v543.length v543).bind fun r764 =>
            bind3 (F25_0 v540 r764) fun r768 r769 r770 =>
            if r744 = 0 then
              if r752 = 0 then
                if r770 = 0 then
                  (F20_0 r742 0 r743).bind fun r773 =>
                  if r773 = true then
                    if r742 ≤ r750 then
                      if r743 ≤ r751 then
                        if r768 ≤ r742 then
                          if r769 ≤ r743 then
                            (F20_0 (aw .i64 (r743 - r742)) 0 (v543.length : Int)).bind fun r776 =>
                            if r776 = true then
                              (L4l0_0 v542 v543 v540 v541 0).bind fun g821_ => match g821_ with
                              | .inl () =>
                                (F26_0 v543).bind fun _ =>
                                bind3 (F28_0 v542 v543) fun r906 r907 r908 =>
                                if r908 = 0 then
                                  (F20_0 r906 0 r907).bind fun r911 =>
                                  if r911 = true then
                                    if r907 ≤ 1000000000 then
                                      (F26_0 v543).bind fun _ =>
                                      bind3 (F25_0 r906 v543) fun r916 r917 r918 =>
                                      (F26_0 v543).bind fun _ =>
                                      bind3 (F25_0 r907 v543) fun r923 r924 r925 =>
                                      if r918 = 0 then
                                        if r925 = 0 then
                                          if v542 ≤ r917 then
                                            some (decide (v542 ≤ r923))
                                          else
                                            some false
                                        else
                                          some false
                                      else
                                        some false
                                    else
                                      some false
                                  else
                                    some false
                                else
                                  some (decide (r908 = 12))
                              | .inr () =>
                                some false
                            else
                              some false
                          else
                            some false
                        else
                          some false
                      else
                        some false
                    else
                      some false
                  else
                    some false
                else
                  some false
              else
                some false
            else
              some false
          else
            some true
        else
          some true
      else
        some true
    else
      some true
  else
    some true
-- water.open
noncomputable def F87_0 (v960 : List WaterNode) (v961 : List WaterConduit) : Option (Int) :=
  bind2 (F16_0 v960 v961) fun r964 r965 =>
  some r965
-- water.net).nodeErr
noncomputable def F88_0 (v970 : Int) (v971 : List WaterNode) (v972 : List WaterConduit) : Option (Int) :=
  (F74_0 v970 0 (aw .i64 ((v971.length : Int) - 1))).bind fun r975 =>
  (F72_0 r975 6).bind fun r978 =>
  some r978
noncomputable def S90l0_0 (v992 : Int) (v994 : List WaterNode) (v995 : List WaterConduit) (v996 : List Int) : (Int × (List Bool)) → Option ((Int × (List Bool)) ⊕ ((List Bool)))
  | (v993, v997) =>
    if v992 ≤ v993 then
      some (.inr v997)
    else
      bind2 (geti v996 v993) fun j998 x999 =>
      bind2 (geti v997 x999) fun j1001 x1002 =>
      some (.inl ((aw .i64 (v993 + 1)), (v997.set j1001 true)))
noncomputable def L90l0_0 (v992 : Int) (v994 : List WaterNode) (v995 : List WaterConduit) (v996 : List Int) (s : Int × (List Bool)) : Option ((List Bool)) := iter (S90l0_0 v992 v994 v995 v996) 1000000 s
-- water.net).isOpen
noncomputable def F91_0 (v1024 : Int) (v1025 : List WaterNode) (v1026 : List WaterConduit) : Option (Bool) :=
  bind2 (geti v1026 v1024) fun j1027 x1028 =>
  some x1028.fOpen
noncomputable def S90l1_0 (v1015 : Int) (v1017 : List WaterNode) (v1018 : List WaterConduit) (v1019 : List Int) : (Bool × Int × (List Bool)) → Option ((Bool × Int × (List Bool)) ⊕ (Bool × (List Bool)))
  | (v1014, v1016, v1020) =>
    if v1015 ≤ v1016 then
      some (.inr (v1014, v1020))
    else
      bind2 (geti v1018 v1016) fun j1021 x1022 =>
      (F91_0 v1016 v1017 v1018).bind fun r1033 =>
      if r1033 = true then
        bind2 (geti v1020 x1022.fFrom) fun j1034 x1035 =>
        bind2 (geti v1020 x1022.fTo) fun j1037 x1038 =>
        if (x1035 == x1038) = true then
          some (.inl (v1014, (aw .i64 (v1016 + 1)), v1020))
        else
          ((v1020.set j1034 true)[j1037]?).bind fun x1040 =>
          some (.inl (true, (aw .i64 (v1016 + 1)), ((v1020.set j1034 true).set j1037 true)))
      else
        some (.inl (v1014, (aw .i64 (v1016 + 1)), v1020))
noncomputable def L90l1_0 (v1015 : Int) (v1017 : List WaterNode) (v1018 : List WaterConduit) (v1019 : List Int) (s : Bool × Int × (List Bool)) : Option (Bool × (List Bool)) := iter (S90l1_0 v1015 v1017 v1018 v1019) 1000000 s
noncomputable def S90l2_0 (v1010 : List WaterNode) (v1011 : List WaterConduit) (v1012 : List Int) : (Bool × (List Bool)) → Option ((Bool × (List Bool)) ⊕ ((List Bool)))
  | (v1009, v1013) =>
    if v1009 = true then
      bind2 (L90l1_0 (v1011.length : Int) v1010 v1011 v1012 (false, 0, v1013)) fun r1049 r1050 =>
      some (.inl (r1049, r1050))
    else
      some (.inr v1013)
noncomputable def L90l2_0 (v1010 : List WaterNode) (v1011 : List WaterConduit) (v1012 : List Int) (s : Bool × (List Bool)) : Option ((List Bool)) := iter (S90l2_0 v1010 v1011 v1012) 1000000 s
-- water.net).reached
noncomputable def F90_0 (v986 : List WaterNode) (v987 : List WaterConduit) (v988 : List Int) : Option ((List Bool)) :=
  (inx (v986.length : Int) 140737488355329).bind fun n989 =>
  room (n989) (
    (L90l0_0 (v988.length : Int) v986 v987 v988 (0, (List.replicate n989 false))).bind fun r1008 =>
    (L90l2_0 v986 v987 v988 (true, r1008)).bind fun r1055 =>
    some r1055
  )
noncomputable def S89l0_0 (v1061 : Int) (v1063 : List Bool) : (Int × (List Int)) → Option ((Int × (List Int)) ⊕ ((List Int)))
  | (v1062, v1064) =>
    if v1061 ≤ v1062 then
      some (.inr v1064)
    else
      bind2 (geti v1063 v1062) fun j1065 x1066 =>
      if x1066 = true then
        room ((v1064.length + 1) * 8) (
          some (.inl ((aw .i64 (v1062 + 1)), (v1064 ++ [v1062])))
        )
      else
        some (.inl ((aw .i64 (v1062 + 1)), v1064))
noncomputable def L89l0_0 (v1061 : Int) (v1063 : List Bool) (s : Int × (List Int)) : Option ((List Int)) := iter (S89l0_0 v1061 v1063) 1000000 s
-- water.where
noncomputable def F89_0 (v1060 : List Bool) : Option ((List Int)) :=
  (L89l0_0 (v1060.length : Int) v1060 (0, ([] : List Int))).bind fun r1074 =>
  some r1074
-- water.ReachedFrom
noncomputable def F29_0 (v957 : Int) (v958 : List WaterNode) (v959 : List WaterConduit) : Option (Int × (List Int)) :=
  (F87_0 v958 v959).bind fun r969 =>
  (F88_0 v957 v958 v959).bind fun r982 =>
  (F71_0 ([r969, r982] : List Int)).bind fun r985 =>
  if r985 = 0 then
    (F90_0 v958 v959 ([v957] : List Int)).bind fun r1059 =>
    (F89_0 r1059).bind fun r1078 =>
    some (0, r1078)
  else
    some (r985, ([] : List Int))
noncomputable def S135l0_0 (v1097 : Int) (v1099 : List WaterNode) (v1100 : List WaterConduit) : (Int × (List Int)) → Option ((Int × (List Int)) ⊕ ((List Int)))
  | (v1098, v1101) =>
    if v1097 ≤ v1098 then
      some (.inr v1101)
    else
      bind2 (geti v1099 v1098) fun j1102 x1103 =>
      if x1103.fLake = true then
        room ((v1101.length + 1) * 8) (
          some (.inl ((aw .i64 (v1098 + 1)), (v1101 ++ [v1098])))
        )
      else
        some (.inl ((aw .i64 (v1098 + 1)), v1101))
noncomputable def L135l0_0 (v1097 : Int) (v1099 : List WaterNode) (v1100 : List WaterConduit) (s : Int × (List Int)) : Option ((List Int)) := iter (S135l0_0 v1097 v1099 v1100) 1000000 s
-- water.net).lakes
noncomputable def F135_0 (v1095 : List WaterNode) (v1096 : List WaterConduit) : Option ((List Int)) :=
  (L135l0_0 (v1095.length : Int) v1095 v1096 (0, ([] : List Int))).bind fun r1111 =>
  some r1111
noncomputable def S92l0_0 (v1119 : Int) (v1121 : List WaterNode) (v1122 : List WaterConduit) (v1123 : List Bool) : (Int × (List Bool)) → Option ((Int × (List Bool)) ⊕ ((List Bool)))
  | (v1120, v1124) =>
    if v1119 ≤ v1120 then
      some (.inr v1124)
    else
      bind2 (geti v1122 v1120) fun j1125 x1126 =>
      bind2 (geti v1123 x1126.fTo) fun j1128 x1129 =>
      if x1129 = true then
        room ((v1124.length + 1)) (
          some (.inl ((aw .i64 (v1120 + 1)), (v1124 ++ [true])))
        )
      else
      if x1126.fOpen = true then
        bind2 (geti v1123 x1126.fFrom) fun j1132 x1133 =>
        room ((v1124.length + 1)) (
          some (.inl ((aw .i64 (v1120 + 1)), (v1124 ++ [x1133])))
        )
      else
        room ((v1124.length + 1)) (
          some (.inl ((aw .i64 (v1120 + 1)), (v1124 ++ [false])))
        )
noncomputable def L92l0_0 (v1119 : Int) (v1121 : List WaterNode) (v1122 : List WaterConduit) (v1123 : List Bool) (s : Int × (List Bool)) : Option ((List Bool)) := iter (S92l0_0 v1119 v1121 v1122 v1123) 1000000 s
-- water.net).wet
noncomputable def F92_0 (v1093 : List WaterNode) (v1094 : List WaterConduit) : Option ((List Bool)) :=
  (F135_0 v1093 v1094).bind fun r1115 =>
  (F90_0 v1093 v1094 r1115).bind fun r1118 =>
  (L92l0_0 (v1094.length : Int) v1093 v1094 r1118 (0, ([] : List Bool))).bind fun r1143 =>
  some r1143
-- water.WetIn
noncomputable def F30_0 (v1088 : List WaterNode) (v1089 : List WaterConduit) : Option (Int × (List Int)) :=
  (F87_0 v1088 v1089).bind fun r1092 =>
  if r1092 = 0 then
    (F92_0 v1088 v1089).bind fun r1147 =>
    (F89_0 r1147).bind fun r1150 =>
    some (0, r1150)
  else
    some (r1092, ([] : List Int))
-- api.WaterConduit]
noncomputable def F136_0 (v1182 : List WaterConduit) : Option (Unit) :=
  if v1182.length = 0 then
    none
  else
    room (v1182.length * 48) (
      some ()
    )
-- water.net).turned
noncomputable def F93_0 (v1178 : Int) (v1179 : Bool) (v1180 : List WaterNode) (v1181 : List WaterConduit) : Option ((List WaterConduit)) :=
  (F136_0 v1181).bind fun _ =>
  bind2 (geti v1181 v1178) fun j1187 x1188 =>
  some (v1181.set j1187 ({ x1188 with fOpen := v1179 } : WaterConduit))
noncomputable def S31l0_0 (v1203 : Int) (v1205 : List WaterNode) (v1206 : List WaterConduit) (v1207 : List Bool) : (Int × (List Bool)) → Option ((Int × (List Bool)) ⊕ ((List Bool)))
  | (v1204, v1208) =>
    if v1203 ≤ v1204 then
      some (.inr v1208)
    else
      bind2 (geti v1208 v1204) fun j1209 x1210 =>
      if x1210 = true then
        bind2 (geti v1207 v1204) fun j1212 x1213 =>
        some (.inl ((aw .i64 (v1204 + 1)), (v1208.set j1209 (!x1213))))
      else
        some (.inl ((aw .i64 (v1204 + 1)), (v1208.set j1209 false)))
noncomputable def L31l0_0 (v1203 : Int) (v1205 : List WaterNode) (v1206 : List WaterConduit) (v1207 : List Bool) (s : Int × (List Bool)) : Option ((List Bool)) := iter (S31l0_0 v1203 v1205 v1206 v1207) 1000000 s
-- water.FilledBy
noncomputable def F31_0 (v1160 : Int) (v1161 : List WaterNode) (v1162 : List WaterConduit) : Option (Int × (List Int)) :=
  (F87_0 v1161 v1162).bind fun r1165 =>
  (F74_0 v1160 0 (aw .i64 ((v1162.length : Int) - 1))).bind fun r1168 =>
  (F72_0 r1168 6).bind fun r1171 =>
  (F71_0 ([r1165, r1171] : List Int)).bind fun r1174 =>
  if r1174 = 0 then
    bind2 (geti v1162 v1160) fun j1175 x1176 =>
    if x1176.fValve = true then
      (F93_0 v1160 false v1161 v1162).bind fun r1193 =>
      (F92_0 v1161 r1193).bind fun r1196 =>
      (F93_0 v1160 true v1161 v1162).bind fun r1199 =>
      (F92_0 v1161 r1199).bind fun r1202 =>
      (L31l0_0 (r1202.length : Int) v1161 v1162 r1196 (0, r1202)).bind fun r1220 =>
      (F89_0 r1220).bind fun r1223 =>
      some (0, r1223)
    else
      some (12, ([] : List Int))
  else
    some (r1174, ([] : List Int))
-- guidevaneref02.NetErr
noncomputable def F32_0 (v1232 : List WaterNode) (v1233 : List WaterConduit) : Option (Int) :=
  bind2 (F19_0 v1232 v1233) fun r1236 r1237 =>
  some r1237
-- guidevaneref02.NodeErr
noncomputable def F33_0 (v1242 : Int) (v1243 : List WaterNode) (v1244 : List WaterConduit) : Option (Int) :=
  (F20_0 v1242 0 (aw .i64 ((v1243.length : Int) - 1))).bind fun r1247 =>
  if r1247 = true then
    some 0
  else
    some 6
noncomputable def S95l0_0 (v1271 : Int) (v1273 : List WaterNode) (v1274 : List WaterConduit) (v1275 : List Bool) : (Int × (List Bool)) → Option ((Int × (List Bool)) ⊕ ((List Bool)))
  | (v1272, v1276) =>
    if (v1274.length : Int) ≤ v1272 then
      some (.inr v1276)
    else
      bind2 (geti v1274 v1272) fun j1277 x1278 =>
      if x1278.fOpen = true then
        bind2 (geti v1276 x1278.fFrom) fun j1280 x1281 =>
        if x1281 = true then
          bind2 (geti (v1276.set j1280 true) x1278.fTo) fun j1283 x1284 =>
          some (.inl ((aw .i64 (v1272 + 1)), ((v1276.set j1280 true).set j1283 true)))
        else
          bind2 (geti v1276 x1278.fTo) fun j1286 x1287 =>
          if x1287 = true then
            ((v1276.set j1280 true)[j1286]?).bind fun x1289 =>
            some (.inl ((aw .i64 (v1272 + 1)), ((v1276.set j1280 true).set j1286 true)))
          else
            some (.inl ((aw .i64 (v1272 + 1)), v1276))
      else
        some (.inl ((aw .i64 (v1272 + 1)), v1276))
noncomputable def L95l0_0 (v1271 : Int) (v1273 : List WaterNode) (v1274 : List WaterConduit) (v1275 : List Bool) (s : Int × (List Bool)) : Option ((List Bool)) := iter (S95l0_0 v1271 v1273 v1274 v1275) 1000000 s
noncomputable def S95l1_0 (v1267 : List WaterNode) (v1268 : List WaterConduit) (v1269 : List Bool) : (Int × (List Bool)) → Option ((Int × (List Bool)) ⊕ ((List Bool)))
  | (v1266, v1270) =>
    if (v1267.length : Int) ≤ v1266 then
      some (.inr v1270)
    else
      (L95l0_0 v1266 v1267 v1268 v1269 (0, v1270)).bind fun r1298 =>
      some (.inl ((aw .i64 (v1266 + 1)), r1298))
noncomputable def L95l1_0 (v1267 : List WaterNode) (v1268 : List WaterConduit) (v1269 : List Bool) (s : Int × (List Bool)) : Option ((List Bool)) := iter (S95l1_0 v1267 v1268 v1269) 1000000 s
-- guidevaneref02.reach
noncomputable def F95_0 (v1262 : List WaterNode) (v1263 : List WaterConduit) (v1264 : List Bool) : Option ((List Bool)) :=
  room (v1264.length) (
    (L95l1_0 v1262 v1263 v1264 (0, v1264)).bind fun r1303 =>
    some r1303
  )
noncomputable def S94l0_0 (v1310 : List Bool) : (Int × (List Int)) → Option ((Int × (List Int)) ⊕ ((List Int)))
  | (v1309, v1311) =>
    if (v1310.length : Int) ≤ v1309 then
      some (.inr v1311)
    else
      bind2 (geti v1310 v1309) fun j1312 x1313 =>
      if x1313 = true then
        room ((v1311.length + 1) * 8) (
          some (.inl ((aw .i64 (v1309 + 1)), (v1311 ++ [v1309])))
        )
      else
        some (.inl ((aw .i64 (v1309 + 1)), v1311))
noncomputable def L94l0_0 (v1310 : List Bool) (s : Int × (List Int)) : Option ((List Int)) := iter (S94l0_0 v1310) 1000000 s
-- guidevaneref02.indexes
noncomputable def F94_0 (v1308 : List Bool) : Option ((List Int)) :=
  (L94l0_0 v1308 (0, ([] : List Int))).bind fun r1321 =>
  some r1321
-- guidevaneref02.Reached
noncomputable def F35_0 (v1253 : Int) (v1254 : List WaterNode) (v1255 : List WaterConduit) : Option ((List Int)) :=
  (inx (v1254.length : Int) 140737488355329).bind fun n1256 =>
  room (n1256) (
    bind2 (geti (List.replicate n1256 false) v1253) fun j1259 x1260 =>
    (F95_0 v1254 v1255 ((List.replicate n1256 false).set j1259 true)).bind fun r1307 =>
    (F94_0 r1307).bind fun r1325 =>
    some r1325
  )
noncomputable def S34l0_0 (v1333 : List Int) (v1334 : List Int) : Int → Option ((Int) ⊕ ((Unit) ⊕ (Unit)))
  | v1332 =>
    if (v1333.length : Int) ≤ v1332 then
      some (.inr (.inl ()))
    else
      bind2 (geti v1333 v1332) fun j1335 x1336 =>
      bind2 (geti v1334 v1332) fun j1338 x1339 =>
      if x1336 = x1339 then
        some (.inl (aw .i64 (v1332 + 1)))
      else
        some (.inr (.inr ()))
noncomputable def L34l0_0 (v1333 : List Int) (v1334 : List Int) (s : Int) : Option ((Unit) ⊕ (Unit)) := iter (S34l0_0 v1333 v1334) 1000000 s
-- guidevanebase.Ints
noncomputable def F34_0 (v1330 : List Int) (v1331 : List Int) : Option (Bool) :=
  if (v1330.length : Int) = (v1331.length : Int) then
    (L34l0_0 v1330 v1331 0).bind fun g1343_ => match g1343_ with
    | .inl () =>
      some true
    | .inr () =>
      some false
  else
    some false
noncomputable def S96l0_0 (v1358 : List WaterNode) (v1359 : List WaterConduit) : (Int × (List Bool)) → Option ((Int × (List Bool)) ⊕ ((List Bool)))
  | (v1357, v1360) =>
    if (v1358.length : Int) ≤ v1357 then
      some (.inr v1360)
    else
      bind2 (geti v1358 v1357) fun j1361 x1362 =>
      bind2 (geti v1360 v1357) fun j1364 x1365 =>
      some (.inl ((aw .i64 (v1357 + 1)), (v1360.set j1364 x1362.fLake)))
noncomputable def L96l0_0 (v1358 : List WaterNode) (v1359 : List WaterConduit) (s : Int × (List Bool)) : Option ((List Bool)) := iter (S96l0_0 v1358 v1359) 1000000 s
noncomputable def S96l1_0 (v1379 : List WaterNode) (v1380 : List WaterConduit) (v1381 : List Bool) : (Int × (List Bool)) → Option ((Int × (List Bool)) ⊕ ((List Bool)))
  | (v1378, v1382) =>
    if (v1380.length : Int) ≤ v1378 then
      some (.inr v1382)
    else
      bind2 (geti v1380 v1378) fun j1383 x1384 =>
      bind2 (geti v1381 x1384.fTo) fun j1386 x1387 =>
      if x1387 = true then
        bind2 (geti v1382 v1378) fun j1389 x1390 =>
        some (.inl ((aw .i64 (v1378 + 1)), (v1382.set j1389 true)))
      else
      if x1384.fOpen = true then
        bind2 (geti v1381 x1384.fFrom) fun j1392 x1393 =>
        bind2 (geti v1382 v1378) fun j1395 x1396 =>
        some (.inl ((aw .i64 (v1378 + 1)), (v1382.set j1395 x1393)))
      else
        bind2 (geti v1382 v1378) fun j1398 x1399 =>
        some (.inl ((aw .i64 (v1378 + 1)), (v1382.set j1398 false)))
noncomputable def L96l1_0 (v1379 : List WaterNode) (v1380 : List WaterConduit) (v1381 : List Bool) (s : Int × (List Bool)) : Option ((List Bool)) := iter (S96l1_0 v1379 v1380 v1381) 1000000 s
-- guidevaneref02.wet
noncomputable def F96_0 (v1352 : List WaterNode) (v1353 : List WaterConduit) : Option ((List Bool)) :=
  (inx (v1352.length : Int) 140737488355329).bind fun n1354 =>
  room (n1354) (
    (L96l0_0 v1352 v1353 (0, (List.replicate n1354 false))).bind fun r1371 =>
    (F95_0 v1352 v1353 r1371).bind fun r1374 =>
    (inx (v1353.length : Int) 140737488355329).bind fun n1375 =>
    room (n1375) (
      (L96l1_0 v1352 v1353 r1374 (0, (List.replicate n1375 false))).bind fun r1407 =>
      some r1407
    )
  )
-- guidevaneref02.Wet
noncomputable def F36_0 (v1350 : List WaterNode) (v1351 : List WaterConduit) : Option ((List Int)) :=
  (F96_0 v1350 v1351).bind fun r1411 =>
  (F94_0 r1411).bind fun r1414 =>
  some r1414
noncomputable def S37l0_0 (v1445 : List WaterNode) (v1446 : List WaterConduit) (v1448 : List Bool) : (Int × (List Bool)) → Option ((Int × (List Bool)) ⊕ ((List Bool)))
  | (v1444, v1447) =>
    if (v1447.length : Int) ≤ v1444 then
      some (.inr v1447)
    else
      bind2 (geti v1447 v1444) fun j1449 x1450 =>
      if x1450 = true then
        bind2 (geti v1448 v1444) fun j1452 x1453 =>
        some (.inl ((aw .i64 (v1444 + 1)), (v1447.set j1449 (!x1453))))
      else
        some (.inl ((aw .i64 (v1444 + 1)), (v1447.set j1449 false)))
noncomputable def L37l0_0 (v1445 : List WaterNode) (v1446 : List WaterConduit) (v1448 : List Bool) (s : Int × (List Bool)) : Option ((List Bool)) := iter (S37l0_0 v1445 v1446 v1448) 1000000 s
-- guidevaneref02.Filled
noncomputable def F37_0 (v1428 : Int) (v1429 : List WaterNode) (v1430 : List WaterConduit) : Option ((List Int)) :=
  (F17_0 v1429 v1430).bind fun _ =>
  (F17_0 v1429 v1430).bind fun _ =>
  bind2 (geti v1430 v1428) fun j1435 x1436 =>
  (F96_0 v1429 (v1430.set j1435 ({ x1436 with fOpen := true } : WaterConduit))).bind fun r1440 =>
  (F96_0 v1429 (v1430.set j1435 ({ x1436 with fOpen := false } : WaterConduit))).bind fun r1443 =>
  (L37l0_0 v1429 v1430 r1443 (0, r1440)).bind fun r1460 =>
  (F94_0 r1460).bind fun r1463 =>
  some r1463
-- guidevanelaw02.WaterReaches
noncomputable def F5_0 (v947 : Int) (v948 : Int) (v949 : List WaterNode) (v950 : List WaterConduit) : Option (Bool) :=
  (F15_0 v949 v950).bind fun r954 =>
  if r954 = true then
    (F17_0 v949 v950).bind fun _ =>
    bind2 (F29_0 v947 v949 v950) fun r1084 r1085 =>
    (F17_0 v949 v950).bind fun _ =>
    bind2 (F30_0 v949 v950) fun r1156 r1157 =>
    (F17_0 v949 v950).bind fun _ =>
    bind2 (F31_0 v948 v949 v950) fun r1230 r1231 =>
    (F32_0 v949 v950).bind fun r1241 =>
    if r1241 = 0 then
      (F33_0 v947 v949 v950).bind fun r1252 =>
      if r1252 = 0 then
        if r1084 = 0 then
          (F35_0 v947 v949 v950).bind fun r1329 =>
          (F34_0 r1085 r1329).bind fun r1349 =>
          if r1349 = true then
            if r1156 = 0 then
              (F36_0 v949 v950).bind fun r1418 =>
              (F34_0 r1157 r1418).bind fun r1421 =>
              if r1421 = true then
                (F20_0 v948 0 (aw .i64 ((v950.length : Int) - 1))).bind fun r1424 =>
                if r1424 = true then
                  bind2 (geti v950 v948) fun j1425 x1426 =>
                  if x1426.fValve = true then
                    if r1230 = 0 then
                      (F37_0 v948 v949 v950).bind fun r1467 =>
                      (F34_0 r1231 r1467).bind fun r1470 =>
                      some r1470
                    else
                      some false
                  else
                  if r1230 = 12 then
                    some (decide ((r1231.length : Int) = 0))
                  else
                    some false
                else
                if r1230 = 6 then
                  some (decide ((r1231.length : Int) = 0))
                else
                  some false
              else
                some false
            else
              some false
          else
            some false
        else
          some false
      else
      if r1084 = r1252 then
        if (r1085.length : Int) = 0 then
          if r1156 = 0 then
            (F36_0 v949 v950).bind fun r1482 =>
            (F34_0 r1157 r1482).bind fun r1485 =>
            if r1485 = true then
              (F20_0 v948 0 (aw .i64 ((v950.length : Int) - 1))).bind fun r1488 =>
              if r1488 = true then
                bind2 (geti v950 v948) fun j1489 x1490 =>
                if x1490.fValve = true then
                  if r1230 = 0 then
                    (F37_0 v948 v949 v950).bind fun r1494 =>
                    (F34_0 r1231 r1494).bind fun r1497 =>
                    some r1497
                  else
                    some false
                else
                if r1230 = 12 then
                  some (decide ((r1231.length : Int) = 0))
                else
                  some false
              else
              if r1230 = 6 then
                some (decide ((r1231.length : Int) = 0))
              else
                some false
            else
              some false
          else
            some false
        else
          some false
      else
        some false
    else
    if r1084 = r1241 then
      if r1156 = r1241 then
        if r1230 = r1241 then
          some (decide ((aw .i64 ((aw .i64 ((r1085.length : Int) + (r1157.length : Int))) + (r1231.length : Int))) = 0))
        else
          some false
      else
        some false
    else
      some false
  else
    some true
noncomputable def S137l0_0 (v1536 : List WaterNode) (v1537 : List WaterConduit) : (Int × Int × (List Bool)) → Option ((Int × Int × (List Bool)) ⊕ (Int × (List Bool)))
  | (v1534, v1535, v1538) =>
    if (v1536.length : Int) ≤ v1535 then
      some (.inr (v1534, v1538))
    else
      bind2 (geti v1536 v1535) fun j1539 x1540 =>
      bind2 (geti v1538 v1535) fun j1542 x1543 =>
      ((v1538.set j1542 x1540.fLake)[j1542]?).bind fun x1545 =>
      if x1545 = true then
        some (.inl (v1534, (aw .i64 (v1535 + 1)), (v1538.set j1542 x1540.fLake)))
      else
        some (.inl ((aw .i64 (v1534 + 1)), (aw .i64 (v1535 + 1)), (v1538.set j1542 x1540.fLake)))
noncomputable def L137l0_0 (v1536 : List WaterNode) (v1537 : List WaterConduit) (s : Int × Int × (List Bool)) : Option (Int × (List Bool)) := iter (S137l0_0 v1536 v1537) 1000000 s
noncomputable def S137l1_0 (v1562 : Int) (v1565 : List WaterNode) (v1566 : List WaterConduit) : (Bool × Int × (List Bool) × (List Int) × (List Int)) → Option ((Bool × Int × (List Bool) × (List Int) × (List Int)) ⊕ (Bool × (List Bool) × (List Int) × (List Int)))
  | (v1563, v1564, v1567, v1568, v1569) =>
    if (v1566.length : Int) ≤ v1564 then
      some (.inr (v1563, v1567, v1568, v1569))
    else
    if v1563 = true then
      some (.inr (v1563, v1567, v1568, v1569))
    else
      bind2 (geti v1566 v1564) fun j1570 x1571 =>
      if x1571.fOpen = true then
        bind2 (geti v1567 x1571.fFrom) fun j1573 x1574 =>
        bind2 (geti v1567 x1571.fTo) fun j1576 x1577 =>
        if (x1574 == x1577) = true then
          some (.inl (v1563, (aw .i64 (v1564 + 1)), v1567, v1568, v1569))
        else
        if x1577 = true then
          room ((v1568.length + 1) * 8) (
            room ((v1569.length + 1) * 8) (
              some (.inl (true, (aw .i64 (v1564 + 1)), (v1567.set j1573 true), (v1568 ++ [v1564]), (v1569 ++ [x1571.fFrom])))
            )
          )
        else
          room ((v1568.length + 1) * 8) (
            room ((v1569.length + 1) * 8) (
              some (.inl (true, (aw .i64 (v1564 + 1)), (v1567.set j1576 true), (v1568 ++ [v1564]), (v1569 ++ [x1571.fTo])))
            )
          )
      else
        some (.inl (v1563, (aw .i64 (v1564 + 1)), v1567, v1568, v1569))
noncomputable def L137l1_0 (v1562 : Int) (v1565 : List WaterNode) (v1566 : List WaterConduit) (s : Bool × Int × (List Bool) × (List Int) × (List Int)) : Option (Bool × (List Bool) × (List Int) × (List Int)) := iter (S137l1_0 v1562 v1565 v1566) 1000000 s
noncomputable def S137l2_0 (v1555 : Int) (v1557 : List WaterNode) (v1558 : List WaterConduit) : (Bool × (List Bool) × (List Int) × (List Int)) → Option ((Bool × (List Bool) × (List Int) × (List Int)) ⊕ ((List Int) × (List Int)))
  | (v1556, v1559, v1560, v1561) =>
    if v1556 = true then
      bind4 (L137l1_0 v1555 v1557 v1558 (false, 0, v1559, v1560, v1561)) fun r1594 r1595 r1596 r1597 =>
      some (.inl (r1594, r1595, r1596, r1597))
    else
      some (.inr (v1560, v1561))
noncomputable def L137l2_0 (v1555 : Int) (v1557 : List WaterNode) (v1558 : List WaterConduit) (s : Bool × (List Bool) × (List Int) × (List Int)) : Option ((List Int) × (List Int)) := iter (S137l2_0 v1555 v1557 v1558) 1000000 s
-- guidevaneref02.Tree
noncomputable def F137_0 (v1529 : List WaterNode) (v1530 : List WaterConduit) : Option (Bool × (List Int) × (List Int)) :=
  (inx (v1529.length : Int) 140737488355329).bind fun n1531 =>
  room (n1531) (
    bind2 (L137l0_0 v1529 v1530 (0, 0, (List.replicate n1531 false))) fun r1553 r1554 =>
    bind2 (L137l2_0 r1553 v1529 v1530 (true, r1554, ([] : List Int), ([] : List Int))) fun r1603 r1604 =>
    some ((decide ((r1604.length : Int) = r1553)), r1603, r1604)
  )
noncomputable def S68l0_0 (v1623 : Int) (v1625 : List Int) : Int → Option ((Int) ⊕ ((Unit) ⊕ (Unit)))
  | v1624 =>
    if (v1625.length : Int) ≤ v1624 then
      some (.inr (.inl ()))
    else
      bind2 (geti v1625 v1624) fun j1626 x1627 =>
      if x1627 = v1623 then
        some (.inr (.inr ()))
      else
        some (.inl (aw .i64 (v1624 + 1)))
noncomputable def L68l0_0 (v1623 : Int) (v1625 : List Int) (s : Int) : Option ((Unit) ⊕ (Unit)) := iter (S68l0_0 v1623 v1625) 1000000 s
-- guidevanebase.Has
noncomputable def F68_0 (v1621 : Int) (v1622 : List Int) : Option (Bool) :=
  (L68l0_0 v1621 v1622 0).bind fun g1631_ => match g1631_ with
  | .inl () =>
    some false
  | .inr () =>
    some true
noncomputable def S97l0_0 (v1615 : List WaterNode) (v1616 : List WaterConduit) (v1617 : List Int) : (Int × Int) → Option ((Int × Int) ⊕ ((Int) ⊕ (Int)))
  | (v1613, v1614) =>
    if (v1616.length : Int) ≤ v1614 then
      some (.inr (.inl (v1613)))
    else
      bind2 (geti v1616 v1614) fun j1618 x1619 =>
      if x1619.fOpen = true then
        (F68_0 v1614 v1617).bind fun r1636 =>
        if r1636 = true then
          some (.inl (v1613, (aw .i64 (v1614 + 1))))
        else
        if 0 ≤ v1613 then
          some (.inr (.inr (v1613)))
        else
          some (.inl (v1614, (aw .i64 (v1614 + 1))))
      else
        some (.inl (v1613, (aw .i64 (v1614 + 1))))
noncomputable def L97l0_0 (v1615 : List WaterNode) (v1616 : List WaterConduit) (v1617 : List Int) (s : Int × Int) : Option ((Int) ⊕ (Int)) := iter (S97l0_0 v1615 v1616 v1617) 1000000 s
-- guidevaneref02.Closing
noncomputable def F97_0 (v1527 : List WaterNode) (v1528 : List WaterConduit) : Option (Int × Int) :=
  bind3 (F137_0 v1527 v1528) fun r1610 r1611 r1612 =>
  if r1610 = true then
    (L97l0_0 v1527 v1528 r1611 ((-1), 0)).bind fun g1643_ => match g1643_ with
    | .inl (r1645) =>
      some (r1645, 0)
    | .inr (r1646) =>
      some ((-1), 8)
  else
    some ((-1), 14)
-- guidevaneref02.FormErr
noncomputable def F38_0 (v1522 : List WaterNode) (v1523 : List WaterConduit) : Option (Int) :=
  (F32_0 v1522 v1523).bind fun r1526 =>
  if r1526 = 0 then
    bind2 (F97_0 v1522 v1523) fun r1652 r1653 =>
    some r1653
  else
    some r1526
noncomputable def S151l0_0 (v1709 : Int) (v1711 : List WaterNode) (v1712 : List WaterConduit) (v1714 : List WaterNode) (v1715 : List WaterConduit) (v1716 : List Branch) (v1718 : List Branch) (v1720 : List Int) : (Int × (List Bool)) → Option ((Int × (List Bool)) ⊕ ((List Bool)))
  | (v1710, v1719) =>
    if v1709 ≤ v1710 then
      some (.inr v1719)
    else
      bind2 (geti v1720 v1710) fun j1721 x1722 =>
      bind2 (geti v1719 x1722) fun j1724 x1725 =>
      some (.inl ((aw .i64 (v1710 + 1)), (v1719.set j1724 true)))
noncomputable def L151l0_0 (v1709 : Int) (v1711 : List WaterNode) (v1712 : List WaterConduit) (v1714 : List WaterNode) (v1715 : List WaterConduit) (v1716 : List Branch) (v1718 : List Branch) (v1720 : List Int) (s : Int × (List Bool)) : Option ((List Bool)) := iter (S151l0_0 v1709 v1711 v1712 v1714 v1715 v1716 v1718 v1720) 1000000 s
-- water.net).grow$1
noncomputable def F159_0 (v1750 : ByteArray) (v1751 : Int) (v1752 : Int) (v1753 : Int) (v1754 : Bool) (v1755 : Bool) (v1756 : List Bool) : Option (Bool) :=
  if v1755 = true then
    bind2 (geti v1756 v1751) fun j1757 x1758 =>
    bind2 (geti v1756 v1752) fun j1760 x1761 =>
    some (!(x1758 == x1761))
  else
    some false
noncomputable def S158l0_0 (v1743 : Int) (v1745 : List WaterConduit) (v1746 : List Bool) : Int → Option ((Int) ⊕ ((Unit) ⊕ (Int)))
  | v1744 =>
    if v1743 ≤ v1744 then
      some (.inr (.inl ()))
    else
      bind2 (geti v1745 v1744) fun j1747 x1748 =>
      (F159_0 x1748.fName x1748.fFrom x1748.fTo x1748.fResist x1748.fValve x1748.fOpen v1746).bind fun r1767 =>
      if r1767 = true then
        some (.inr (.inr (v1744)))
      else
        some (.inl (aw .i64 (v1744 + 1)))
noncomputable def L158l0_0 (v1743 : Int) (v1745 : List WaterConduit) (v1746 : List Bool) (s : Int) : Option ((Unit) ⊕ (Int)) := iter (S158l0_0 v1743 v1745 v1746) 1000000 s
-- api.WaterConduit]
noncomputable def F158_0 (v1741 : List WaterConduit) (v1742 : List Bool) : Option (Int) :=
  (L158l0_0 (v1741.length : Int) v1741 v1742 0).bind fun g1771_ => match g1771_ with
  | .inl () =>
    some (-1)
  | .inr (r1773) =>
    some r1773
noncomputable def S162l0_0 (v1794 : Bool) (v1795 : Int) (v1797 : List Bool) : Int → Option ((Int) ⊕ ((Unit) ⊕ (Int)))
  | v1796 =>
    if v1795 ≤ v1796 then
      some (.inr (.inl ()))
    else
      bind2 (geti v1797 v1796) fun j1798 x1799 =>
      if (v1794 == x1799) = true then
        some (.inr (.inr (v1796)))
      else
        some (.inl (aw .i64 (v1796 + 1)))
noncomputable def L162l0_0 (v1794 : Bool) (v1795 : Int) (v1797 : List Bool) (s : Int) : Option ((Unit) ⊕ (Int)) := iter (S162l0_0 v1794 v1795 v1797) 1000000 s
-- slices.Index[[]bool,bool]
noncomputable def F162_0 (v1792 : Bool) (v1793 : List Bool) : Option (Int) :=
  (L162l0_0 v1792 (v1793.length : Int) v1793 0).bind fun g1804_ => match g1804_ with
  | .inl () =>
    some (-1)
  | .inr (r1806) =>
    some r1806
-- slices.Contains[[]bool,bool]
noncomputable def F160_0 (v1790 : Bool) (v1791 : List Bool) : Option (Bool) :=
  (F162_0 v1790 v1791).bind fun r1810 =>
  some (decide (0 ≤ r1810))
noncomputable def S151l1_0 (v1819 : List WaterNode) (v1820 : List WaterConduit) (v1822 : List WaterNode) (v1823 : List WaterConduit) (v1824 : List Branch) : ((List Branch) × (List Bool)) → Option (((List Branch) × (List Bool)) ⊕ (Int × (List Branch)))
  | (v1826, v1827) =>
    (F158_0 v1820 v1827).bind fun r1830 =>
    if 0 ≤ r1830 then
      bind2 (geti v1820 r1830) fun j1831 x1832 =>
      bind2 (geti v1827 x1832.fTo) fun j1834 x1835 =>
      if x1835 = true then
        bind2 (geti v1827 x1832.fFrom) fun j1837 x1838 =>
        room ((v1826.length + 1) * 16) (
          some (.inl ((v1826 ++ [(⟨r1830, x1832.fFrom⟩ : Branch)]), (v1827.set j1837 true)))
        )
      else
        room ((v1826.length + 1) * 16) (
          some (.inl ((v1826 ++ [(⟨r1830, x1832.fTo⟩ : Branch)]), (v1827.set j1834 true)))
        )
    else
      (F160_0 false v1827).bind fun r1845 =>
      (F72_0 (!r1845) 14).bind fun r1848 =>
      some (.inr (r1848, v1826))
noncomputable def L151l1_0 (v1819 : List WaterNode) (v1820 : List WaterConduit) (v1822 : List WaterNode) (v1823 : List WaterConduit) (v1824 : List Branch) (s : (List Branch) × (List Bool)) : Option (Int × (List Branch)) := iter (S151l1_0 v1819 v1820 v1822 v1823 v1824) 1000000 s
-- water.net).grow
noncomputable def F151_0 (v1682 : List WaterNode) (v1683 : List WaterConduit) : Option (Int × (List Branch)) :=
  (inx (v1682.length : Int) 140737488355329).bind fun n1684 =>
  room (n1684) (
    (F135_0 v1682 v1683).bind fun r1689 =>
    (L151l0_0 (r1689.length : Int) v1682 v1683 ([] : List WaterNode) ([] : List WaterConduit) ([] : List Branch) ([] : List Branch) r1689 (0, (List.replicate n1684 false))).bind fun r1731 =>
    bind2 (L151l1_0 v1682 v1683 ([] : List WaterNode) ([] : List WaterConduit) ([] : List Branch) (([] : List Branch), r1731)) fun r1854 r1855 =>
    some (r1854, r1855)
  )
-- water.net).closed$1
noncomputable def F153_0 (v1886 : Int) (v1887 : Int) (v1888 : Int) : Option (Bool) :=
  some (decide (v1886 = v1888))
noncomputable def S161l0_0 (v1879 : Int) (v1881 : List Branch) (v1882 : Int) : Int → Option ((Int) ⊕ ((Unit) ⊕ (Int)))
  | v1880 =>
    if v1879 ≤ v1880 then
      some (.inr (.inl ()))
    else
      bind2 (geti v1881 v1880) fun j1883 x1884 =>
      (F153_0 x1884.fconduit x1884.fnode v1882).bind fun r1892 =>
      if r1892 = true then
        some (.inr (.inr (v1880)))
      else
        some (.inl (aw .i64 (v1880 + 1)))
noncomputable def L161l0_0 (v1879 : Int) (v1881 : List Branch) (v1882 : Int) (s : Int) : Option ((Unit) ⊕ (Int)) := iter (S161l0_0 v1879 v1881 v1882) 1000000 s
-- water.branch]
noncomputable def F161_0 (v1877 : List Branch) (v1878 : Int) : Option (Int) :=
  (L161l0_0 (v1877.length : Int) v1877 v1878 0).bind fun g1896_ => match g1896_ with
  | .inl () =>
    some (-1)
  | .inr (r1898) =>
    some r1898
-- water.branch]
noncomputable def F152_0 (v1875 : List Branch) (v1876 : Int) : Option (Bool) :=
  (F161_0 v1875 v1876).bind fun r1902 =>
  some (decide (0 ≤ r1902))
noncomputable def S138l0_0 (v1911 : Int) (v1913 : List WaterNode) (v1914 : List WaterConduit) (v1916 : List WaterNode) (v1917 : List WaterConduit) (v1918 : List Branch) (v1920 : List Branch) : (Int × Int) → Option ((Int × Int) ⊕ ((Int) ⊕ (Int × Int)))
  | (v1912, v1919) =>
    if v1911 ≤ v1912 then
      some (.inr (.inl (v1919)))
    else
      bind2 (geti v1914 v1912) fun j1921 x1922 =>
      (F152_0 v1920 v1912).bind fun r1926 =>
      if x1922.fOpen = true then
        if r1926 = true then
          some (.inl ((aw .i64 (v1912 + 1)), v1919))
        else
        if 0 ≤ v1919 then
          some (.inr (.inr (v1919, v1919)))
        else
          some (.inl ((aw .i64 (v1912 + 1)), v1912))
      else
        some (.inl ((aw .i64 (v1912 + 1)), v1919))
noncomputable def L138l0_0 (v1911 : Int) (v1913 : List WaterNode) (v1914 : List WaterConduit) (v1916 : List WaterNode) (v1917 : List WaterConduit) (v1918 : List Branch) (v1920 : List Branch) (s : Int × Int) : Option ((Int) ⊕ (Int × Int)) := iter (S138l0_0 v1911 v1913 v1914 v1916 v1917 v1918 v1920) 1000000 s
-- water.net).closed
noncomputable def F138_0 (v1680 : List WaterNode) (v1681 : List WaterConduit) : Option (Int × Int × (List Branch)) :=
  bind2 (F151_0 v1680 v1681) fun r1860 r1861 =>
  if r1860 = 0 then
    (L138l0_0 (v1681.length : Int) v1680 v1681 ([] : List WaterNode) ([] : List WaterConduit) ([] : List Branch) r1861 (0, (-1))).bind fun g1934_ => match g1934_ with
    | .inl (r1936) =>
      some (r1936, 0, r1861)
    | .inr (r1937, r1938) =>
      some (r1937, 8, r1861)
  else
    some ((-1), r1860, r1861)
-- water.openTree
noncomputable def F99_0 (v1675 : List WaterNode) (v1676 : List WaterConduit) : Option ((Int × Int × (List Branch)) ⊕ (Int)) :=
  (F87_0 v1675 v1676).bind fun r1679 =>
  if r1679 = 0 then
    bind3 (F138_0 v1675 v1676) fun r1945 r1946 r1947 =>
    some (.inl (r1945, r1946, r1947))
  else
    some (.inr (r1679))
-- water.openClosing
noncomputable def F98_0 (v1673 : List WaterNode) (v1674 : List WaterConduit) : Option ((Int × Int × (List Branch)) ⊕ (Int)) :=
  (F99_0 v1673 v1674).bind fun g1953_ => match g1953_ with
  | .inl (r1955, r1956, r1957) =>
    (F72_0 (decide (0 ≤ r1955)) 12).bind fun r1960 =>
    (F71_0 ([r1956, r1960] : List Int)).bind fun r1963 =>
    some (.inl (r1955, r1963, r1957))
  | .inr (r1964) =>
    (F72_0 (decide (0 ≤ 0)) 12).bind fun r1967 =>
    (F71_0 ([r1964, r1967] : List Int)).bind fun r1970 =>
    some (.inr (r1970))
-- water.ClosingOf
noncomputable def F39_0 (v1671 : List WaterNode) (v1672 : List WaterConduit) : Option (Int × Int) :=
  (F98_0 v1671 v1672).bind fun g1975_ => match g1975_ with
  | .inl (r1977, r1978, r1979) =>
    if r1978 = 0 then
      some (r1977, 0)
    else
      some (0, r1978)
  | .inr (r1981) =>
    if r1981 = 0 then
      some (0, 0)
    else
      some (0, r1981)
-- water.circulationErr
noncomputable def F100_0 (v2000 : Int) : Option (Int) :=
  (F73_0 v2000 200000).bind fun r2003 =>
  (F72_0 r2003 2).bind fun r2006 =>
  some r2006
noncomputable def S101l0_0 (v2031 : Int) (v2032 : Int) (v2034 : List WaterNode) (v2035 : List WaterConduit) (v2036 : List Branch) (v2037 : Int) (v2038 : List Int) (v2039 : List Int) (v2040 : List Int) : (Int × (List Int) × (List Int)) → Option ((Int × (List Int) × (List Int)) ⊕ ((List Int) × (List Int)))
  | (v2033, v2041, v2042) =>
    if v2032 ≤ v2033 then
      some (.inr (v2041, v2042))
    else
      bind2 (geti v2034 v2033) fun j2043 x2044 =>
      bind2 (geti v2042 v2033) fun j2046 x2047 =>
      bind2 (geti v2041 v2033) fun j2049 x2050 =>
      some (.inl ((aw .i64 (v2033 + 1)), (v2041.set j2049 (aw .i64 (1000 * x2044.fHead))), (v2042.set j2046 x2044.fDraw)))
noncomputable def L101l0_0 (v2031 : Int) (v2032 : Int) (v2034 : List WaterNode) (v2035 : List WaterConduit) (v2036 : List Branch) (v2037 : Int) (v2038 : List Int) (v2039 : List Int) (v2040 : List Int) (s : Int × (List Int) × (List Int)) : Option ((List Int) × (List Int)) := iter (S101l0_0 v2031 v2032 v2034 v2035 v2036 v2037 v2038 v2039 v2040) 1000000 s
-- water.branch]
noncomputable def F139_0 (v2071 : List Branch) : Option (Unit) :=
  some ()
-- water.tree).other
noncomputable def F140_0 (v2096 : Int) (v2097 : Int) (v2098 : Int) (v2099 : List WaterNode) (v2100 : List WaterConduit) (v2101 : List Branch) : Option (Int × Int) :=
  bind2 (geti v2100 v2097) fun j2102 x2103 =>
  if x2103.fTo = v2098 then
    some (x2103.fFrom, 1)
  else
    some (x2103.fTo, (-1))
noncomputable def S154l0_0 (v2163 : Int) (v2164 : List WaterNode) (v2165 : List WaterConduit) (v2166 : List Branch) (v2167 : List Int) (v2168 : List Int) (v2170 : List Int) : (Int × (List Int) × (List Int)) → Option ((Int × (List Int) × (List Int)) ⊕ ((List Int) × (List Int)))
  | (v2162, v2169, v2171) =>
    if 0 ≤ v2162 then
      bind2 (geti v2166 v2162) fun j2172 x2173 =>
      bind2 (F140_0 v2163 x2173.fconduit x2173.fnode v2164 v2165 v2166) fun r2177 r2178 =>
      bind2 (geti v2171 x2173.fnode) fun j2179 x2180 =>
      bind2 (geti v2169 x2173.fconduit) fun j2182 x2183 =>
      bind2 (geti v2171 r2177) fun j2185 x2186 =>
      some (.inl ((aw .i64 (v2162 - 1)), (v2169.set j2182 (aw .i64 (r2178 * x2180))), (v2171.set j2185 (aw .i64 (x2186 + x2180)))))
    else
      some (.inr (v2169, v2171))
noncomputable def L154l0_0 (v2163 : Int) (v2164 : List WaterNode) (v2165 : List WaterConduit) (v2166 : List Branch) (v2167 : List Int) (v2168 : List Int) (v2170 : List Int) (s : Int × (List Int) × (List Int)) : Option ((List Int) × (List Int)) := iter (S154l0_0 v2163 v2164 v2165 v2166 v2167 v2168 v2170) 1000000 s
-- water.branch]$1
noncomputable def F154_2 (v2153 : Int) (v2154 : List WaterNode) (v2155 : List WaterConduit) (v2156 : List Branch) (v2157 : List Int) (v2158 : List Int) (v2159 : List Int) (v2160 : List Int) (v2161 : List Int) : Option ((List Int) × (List Int)) :=
  bind2 (L154l0_0 v2153 v2154 v2155 v2156 v2157 v2158 v2160 ((aw .i64 ((v2156.length : Int) - 1)), v2159, v2161)) fun r2193 r2194 =>
  some (r2193, r2194)
noncomputable def S101l2_0 (v2201 : Int) (v2203 : List WaterNode) (v2204 : List WaterConduit) (v2205 : List Branch) (v2206 : Int) (v2207 : List Int) (v2208 : List Int) (v2209 : List Int) : (Int × (List Int)) → Option ((Int × (List Int)) ⊕ ((List Int)))
  | (v2202, v2210) =>
    if v2201 ≤ v2202 then
      some (.inr v2210)
    else
      bind2 (geti v2205 v2202) fun j2211 x2212 =>
      bind2 (F140_0 v2206 x2212.fconduit x2212.fnode v2203 v2204 v2205) fun r2216 r2217 =>
      bind2 (geti v2210 r2216) fun j2218 x2219 =>
      bind2 (geti v2204 x2212.fconduit) fun j2221 x2222 =>
      bind2 (geti v2209 x2212.fconduit) fun j2224 x2225 =>
      (F77_0 x2222.fResist (aw .i64 (r2217 * x2225))).bind fun r2229 =>
      bind2 (geti v2210 x2212.fnode) fun j2230 x2231 =>
      some (.inl ((aw .i64 (v2202 + 1)), (v2210.set j2230 (aw .i64 (x2219 - r2229)))))
noncomputable def L101l2_0 (v2201 : Int) (v2203 : List WaterNode) (v2204 : List WaterConduit) (v2205 : List Branch) (v2206 : Int) (v2207 : List Int) (v2208 : List Int) (v2209 : List Int) (s : Int × (List Int)) : Option ((List Int)) := iter (S101l2_0 v2201 v2203 v2204 v2205 v2206 v2207 v2208 v2209) 1000000 s
-- water.tree).state
noncomputable def F101_0 (v2017 : Int) (v2018 : Int) (v2019 : List WaterNode) (v2020 : List WaterConduit) (v2021 : List Branch) : Option ((List Int) × (List Int)) :=
  (inx (v2020.length : Int) 140737488355329).bind fun n2022 =>
  room (n2022 * 8) (
    (inx (v2019.length : Int) 140737488355329).bind fun n2025 =>
    room (n2025 * 8) (
      (inx (v2019.length : Int) 140737488355329).bind fun n2028 =>
      room (n2028 * 8) (
        bind2 (L101l0_0 v2018 (v2019.length : Int) v2019 v2020 v2021 v2017 ([] : List Int) ([] : List Int) (List.replicate n2022 0) (0, (List.replicate n2025 0), (List.replicate n2028 0))) fun r2057 r2058 =>
        if 0 ≤ v2017 then
          bind2 (geti v2020 v2017) fun j2059 x2060 =>
          bind2 (geti (List.replicate n2022 0) v2017) fun j2062 x2063 =>
          bind2 (geti r2058 x2060.fFrom) fun j2065 x2066 =>
          bind2 (geti (r2058.set j2065 (aw .i64 (x2066 + v2018))) x2060.fTo) fun j2068 x2069 =>
          (F139_0 v2021).bind fun _ =>
          bind2 (F154_2 v2017 v2019 v2020 v2021 ([] : List Int) ([] : List Int) ((List.replicate n2022 0).set j2062 v2018) r2057 ((r2058.set j2065 (aw .i64 (x2066 + v2018))).set j2068 (aw .i64 (x2069 - v2018)))) fun r2199 r2200 =>
          (L101l2_0 (v2021.length : Int) v2019 v2020 v2021 v2017 ([] : List Int) ([] : List Int) r2199 (0, r2057)).bind fun r2237 =>
          some (r2199, r2237)
        else
          (F139_0 v2021).bind fun _ =>
          bind2 (F154_2 v2017 v2019 v2020 v2021 ([] : List Int) ([] : List Int) (List.replicate n2022 0) r2057 r2058) fun r2242 r2243 =>
          (L101l2_0 (v2021.length : Int) v2019 v2020 v2021 v2017 ([] : List Int) ([] : List Int) r2242 (0, r2057)).bind fun r2246 =>
          some (r2242, r2246)
      )
    )
  )
-- water.StateAt
noncomputable def F40_0 (v1992 : Int) (v1993 : List WaterNode) (v1994 : List WaterConduit) : Option (((List Int) × (List Int)) ⊕ (Int)) :=
  (F99_0 v1993 v1994).bind fun g1995_ => match g1995_ with
  | .inl (r1997, r1998, r1999) =>
    (F100_0 v1992).bind fun r2010 =>
    if v1992 = 0 then
      (F72_0 true 3).bind fun r2013 =>
      (F71_0 ([r1998, r2010, r2013] : List Int)).bind fun r2016 =>
      if r2016 = 0 then
        bind2 (F101_0 r1997 v1992 v1993 v1994 r1999) fun r2252 r2253 =>
        some (.inl (r2252, r2253))
      else
        some (.inr (r2016))
    else
      (F72_0 (decide (0 ≤ r1997)) 3).bind fun r2257 =>
      (F71_0 ([r1998, r2010, r2257] : List Int)).bind fun r2260 =>
      if r2260 = 0 then
        bind2 (F101_0 r1997 v1992 v1993 v1994 r1999) fun r2263 r2264 =>
        some (.inl (r2263, r2264))
      else
        some (.inr (r2260))
  | .inr (r2267) =>
    (F100_0 v1992).bind fun r2270 =>
    if v1992 = 0 then
      (F72_0 true 3).bind fun r2273 =>
      (F71_0 ([r2267, r2270, r2273] : List Int)).bind fun r2276 =>
      if r2276 = 0 then
        bind2 (F101_0 0 v1992 ([] : List WaterNode) ([] : List WaterConduit) ([] : List Branch)) fun r2279 r2280 =>
        some (.inl (r2279, r2280))
      else
        some (.inr (r2276))
    else
      (F72_0 (decide (0 ≤ 0)) 3).bind fun r2284 =>
      (F71_0 ([r2267, r2270, r2284] : List Int)).bind fun r2287 =>
      if r2287 = 0 then
        bind2 (F101_0 0 v1992 ([] : List WaterNode) ([] : List WaterConduit) ([] : List Branch)) fun r2290 r2291 =>
        some (.inl (r2290, r2291))
      else
        some (.inr (r2287))
noncomputable def S6l0_0 (v2312 : Int) (v2313 : Int) (v2315 : List WaterNode) (v2316 : List WaterConduit) (v2317 : Int) (v2318 : Int) (v2319 : List Int) (v2320 : List Int) : (Int × (List Int)) → Option ((Int × (List Int)) ⊕ (((List Int)) ⊕ ((List Int))))
  | (v2314, v2321) =>
    if (v2316.length : Int) ≤ v2314 then
      some (.inr (.inl (v2321)))
    else
      bind2 (geti v2316 v2314) fun j2322 x2323 =>
      bind2 (geti v2319 v2314) fun j2325 x2326 =>
      (F20_0 x2326 (-1000000) 1000000).bind fun r2330 =>
      if r2330 = true then
        if x2323.fOpen = true then
          if v2314 = v2312 then
            if x2326 = v2313 then
              bind2 (geti v2321 x2323.fFrom) fun j2331 x2332 =>
              bind2 (geti v2321 x2323.fTo) fun j2334 x2335 =>
              ((v2321.set j2331 (aw .i64 (x2332 - x2326)))[j2334]?).bind fun x2337 =>
              bind2 (geti v2320 x2323.fFrom) fun j2339 x2340 =>
              (F20_0 x2340 (-1152921504606846976) 1152921504606846976).bind fun r2344 =>
              if r2344 = true then
                bind2 (geti v2320 x2323.fTo) fun j2345 x2346 =>
                (F20_0 x2346 (-1152921504606846976) 1152921504606846976).bind fun r2350 =>
                if r2350 = true then
                  some (.inl ((aw .i64 (v2314 + 1)), ((v2321.set j2331 (aw .i64 (x2332 - x2326))).set j2334 (aw .i64 (x2335 + x2326)))))
                else
                  some (.inr (.inr ((v2321.set j2331 (aw .i64 (x2332 - x2326))).set j2334 (aw .i64 (x2335 + x2326)))))
              else
                some (.inr (.inr ((v2321.set j2331 (aw .i64 (x2332 - x2326))).set j2334 (aw .i64 (x2335 + x2326)))))
            else
              some (.inr (.inr (v2321)))
          else
            bind2 (geti v2321 x2323.fFrom) fun j2354 x2355 =>
            bind2 (geti v2321 x2323.fTo) fun j2357 x2358 =>
            ((v2321.set j2354 (aw .i64 (x2355 - x2326)))[j2357]?).bind fun x2360 =>
            bind2 (geti v2320 x2323.fFrom) fun j2362 x2363 =>
            (F20_0 x2363 (-1152921504606846976) 1152921504606846976).bind fun r2367 =>
            if r2367 = true then
              bind2 (geti v2320 x2323.fTo) fun j2368 x2369 =>
              (F20_0 x2369 (-1152921504606846976) 1152921504606846976).bind fun r2373 =>
              if r2373 = true then
                (F41_0 x2326).bind fun r2376 =>
                if (aw .i64 (x2363 - x2369)) = (aw .i64 ((aw .i64 (x2323.fResist * x2326)) * r2376)) then
                  some (.inl ((aw .i64 (v2314 + 1)), ((v2321.set j2354 (aw .i64 (x2355 - x2326))).set j2357 (aw .i64 (x2358 + x2326)))))
                else
                  some (.inr (.inr ((v2321.set j2354 (aw .i64 (x2355 - x2326))).set j2357 (aw .i64 (x2358 + x2326)))))
              else
                some (.inr (.inr ((v2321.set j2354 (aw .i64 (x2355 - x2326))).set j2357 (aw .i64 (x2358 + x2326)))))
            else
              some (.inr (.inr ((v2321.set j2354 (aw .i64 (x2355 - x2326))).set j2357 (aw .i64 (x2358 + x2326)))))
        else
        if x2326 = 0 then
          if v2314 = v2312 then
            if x2326 = v2313 then
              bind2 (geti v2321 x2323.fFrom) fun j2381 x2382 =>
              bind2 (geti v2321 x2323.fTo) fun j2384 x2385 =>
              ((v2321.set j2381 (aw .i64 (x2382 - x2326)))[j2384]?).bind fun x2387 =>
              bind2 (geti v2320 x2323.fFrom) fun j2389 x2390 =>
              (F20_0 x2390 (-1152921504606846976) 1152921504606846976).bind fun r2394 =>
              if r2394 = true then
                bind2 (geti v2320 x2323.fTo) fun j2395 x2396 =>
                (F20_0 x2396 (-1152921504606846976) 1152921504606846976).bind fun r2400 =>
                if r2400 = true then
                  some (.inl ((aw .i64 (v2314 + 1)), ((v2321.set j2381 (aw .i64 (x2382 - x2326))).set j2384 (aw .i64 (x2385 + x2326)))))
                else
                  some (.inr (.inr ((v2321.set j2381 (aw .i64 (x2382 - x2326))).set j2384 (aw .i64 (x2385 + x2326)))))
              else
                some (.inr (.inr ((v2321.set j2381 (aw .i64 (x2382 - x2326))).set j2384 (aw .i64 (x2385 + x2326)))))
            else
              some (.inr (.inr (v2321)))
          else
            bind2 (geti v2321 x2323.fFrom) fun j2404 x2405 =>
            bind2 (geti v2321 x2323.fTo) fun j2407 x2408 =>
            ((v2321.set j2404 (aw .i64 (x2405 - x2326)))[j2407]?).bind fun x2410 =>
            bind2 (geti v2320 x2323.fFrom) fun j2412 x2413 =>
            (F20_0 x2413 (-1152921504606846976) 1152921504606846976).bind fun r2417 =>
            if r2417 = true then
              bind2 (geti v2320 x2323.fTo) fun j2418 x2419 =>
              (F20_0 x2419 (-1152921504606846976) 1152921504606846976).bind fun r2423 =>
              if r2423 = true then
                some (.inl ((aw .i64 (v2314 + 1)), ((v2321.set j2404 (aw .i64 (x2405 - x2326))).set j2407 (aw .i64 (x2408 + x2326)))))
              else
                some (.inr (.inr ((v2321.set j2404 (aw .i64 (x2405 - x2326))).set j2407 (aw .i64 (x2408 + x2326)))))
            else
              some (.inr (.inr ((v2321.set j2404 (aw .i64 (x2405 - x2326))).set j2407 (aw .i64 (x2408 + x2326)))))
        else
          some (.inr (.inr (v2321)))
      else
        some (.inr (.inr (v2321)))
noncomputable def L6l0_0 (v2312 : Int) (v2313 : Int) (v2315 : List WaterNode) (v2316 : List WaterConduit) (v2317 : Int) (v2318 : Int) (v2319 : List Int) (v2320 : List Int) (s : Int × (List Int)) : Option (((List Int)) ⊕ ((List Int))) := iter (S6l0_0 v2312 v2313 v2315 v2316 v2317 v2318 v2319 v2320) 1000000 s
noncomputable def S6l1_0 (v2436 : Int) (v2437 : Int) (v2439 : List WaterNode) (v2440 : List WaterConduit) (v2441 : Int) (v2442 : Int) (v2443 : List Int) (v2444 : List Int) (v2445 : List Int) : Int → Option ((Int) ⊕ ((Unit) ⊕ (Unit)))
  | v2438 =>
    if (v2439.length : Int) ≤ v2438 then
      some (.inr (.inl ()))
    else
      bind2 (geti v2439 v2438) fun j2446 x2447 =>
      if x2447.fLake = true then
        bind2 (geti v2444 v2438) fun j2449 x2450 =>
        if x2450 = (aw .i64 (1000 * x2447.fHead)) then
          some (.inl (aw .i64 (v2438 + 1)))
        else
          some (.inr (.inr ()))
      else
        bind2 (geti v2445 v2438) fun j2453 x2454 =>
        if x2454 = x2447.fDraw then
          some (.inl (aw .i64 (v2438 + 1)))
        else
          some (.inr (.inr ()))
noncomputable def L6l1_0 (v2436 : Int) (v2437 : Int) (v2439 : List WaterNode) (v2440 : List WaterConduit) (v2441 : Int) (v2442 : Int) (v2443 : List Int) (v2444 : List Int) (v2445 : List Int) (s : Int) : Option ((Unit) ⊕ (Unit)) := iter (S6l1_0 v2436 v2437 v2439 v2440 v2441 v2442 v2443 v2444 v2445) 1000000 s
-- water.tree).gap
noncomputable def F102_0 (v2477 : Int) (v2478 : Int) (v2479 : List WaterNode) (v2480 : List WaterConduit) (v2481 : List Branch) : Option (Int) :=
  bind2 (geti v2480 v2477) fun j2482 x2483 =>
  bind2 (F101_0 v2477 v2478 v2479 v2480 v2481) fun r2487 r2488 =>
  (F77_0 x2483.fResist v2478).bind fun r2491 =>
  bind2 (geti r2488 x2483.fFrom) fun j2492 x2493 =>
  bind2 (geti r2488 x2483.fTo) fun j2495 x2496 =>
  some (aw .i64 (r2491 - (aw .i64 (x2493 - x2496))))
-- water.GapAt
noncomputable def F42_0 (v2463 : Int) (v2464 : List WaterNode) (v2465 : List WaterConduit) : Option (Int × Int) :=
  (F98_0 v2464 v2465).bind fun g2466_ => match g2466_ with
  | .inl (r2468, r2469, r2470) =>
    (F100_0 v2463).bind fun r2473 =>
    (F71_0 ([r2469, r2473] : List Int)).bind fun r2476 =>
    if r2476 = 0 then
      (F102_0 r2468 v2463 v2464 v2465 r2470).bind fun r2501 =>
      some (r2501, 0)
    else
      some (0, r2476)
  | .inr (r2503) =>
    (F100_0 v2463).bind fun r2506 =>
    (F71_0 ([r2503, r2506] : List Int)).bind fun r2509 =>
    if r2509 = 0 then
      (F102_0 0 v2463 ([] : List WaterNode) ([] : List WaterConduit) ([] : List Branch)).bind fun r2512 =>
      some (r2512, 0)
    else
      some (0, r2509)
noncomputable def S6l0_1 (v2554 : Int) (v2555 : Int) (v2557 : List WaterNode) (v2558 : List WaterConduit) (v2559 : Int) (v2560 : Int) (v2561 : List Int) (v2562 : List Int) : (Int × (List Int)) → Option ((Int × (List Int)) ⊕ (((List Int)) ⊕ ((List Int))))
  | (v2556, v2563) =>
    if (v2558.length : Int) ≤ v2556 then
      some (.inr (.inl (v2563)))
    else
      bind2 (geti v2558 v2556) fun j2564 x2565 =>
      bind2 (geti v2561 v2556) fun j2567 x2568 =>
      (F20_0 x2568 (-1000000) 1000000).bind fun r2572 =>
      if r2572 = true then
        if x2565.fOpen = true then
          if v2556 = v2554 then
            if x2568 = v2555 then
              bind2 (geti v2563 x2565.fFrom) fun j2573 x2574 =>
              bind2 (geti v2563 x2565.fTo) fun j2576 x2577 =>
              ((v2563.set j2573 (aw .i64 (x2574 - x2568)))[j2576]?).bind fun x2579 =>
              bind2 (geti v2562 x2565.fFrom) fun j2581 x2582 =>
              (F20_0 x2582 (-1152921504606846976) 1152921504606846976).bind fun r2586 =>
              if r2586 = true then
                bind2 (geti v2562 x2565.fTo) fun j2587 x2588 =>
                (F20_0 x2588 (-1152921504606846976) 1152921504606846976).bind fun r2592 =>
                if r2592 = true then
                  some (.inl ((aw .i64 (v2556 + 1)), ((v2563.set j2573 (aw .i64 (x2574 - x2568))).set j2576 (aw .i64 (x2577 + x2568)))))
                else
                  some (.inr (.inr ((v2563.set j2573 (aw .i64 (x2574 - x2568))).set j2576 (aw .i64 (x2577 + x2568)))))
              else
                some (.inr (.inr ((v2563.set j2573 (aw .i64 (x2574 - x2568))).set j2576 (aw .i64 (x2577 + x2568)))))
            else
              some (.inr (.inr (v2563)))
          else
            bind2 (geti v2563 x2565.fFrom) fun j2596 x2597 =>
            bind2 (geti v2563 x2565.fTo) fun j2599 x2600 =>
            ((v2563.set j2596 (aw .i64 (x2597 - x2568)))[j2599]?).bind fun x2602 =>
            bind2 (geti v2562 x2565.fFrom) fun j2604 x2605 =>
            (F20_0 x2605 (-1152921504606846976) 1152921504606846976).bind fun r2609 =>
            if r2609 = true then
              bind2 (geti v2562 x2565.fTo) fun j2610 x2611 =>
              (F20_0 x2611 (-1152921504606846976) 1152921504606846976).bind fun r2615 =>
              if r2615 = true then
                (F41_0 x2568).bind fun r2618 =>
                if (aw .i64 (x2605 - x2611)) = (aw .i64 ((aw .i64 (x2565.fResist * x2568)) * r2618)) then
                  some (.inl ((aw .i64 (v2556 + 1)), ((v2563.set j2596 (aw .i64 (x2597 - x2568))).set j2599 (aw .i64 (x2600 + x2568)))))
                else
                  some (.inr (.inr ((v2563.set j2596 (aw .i64 (x2597 - x2568))).set j2599 (aw .i64 (x2600 + x2568)))))
              else
                some (.inr (.inr ((v2563.set j2596 (aw .i64 (x2597 - x2568))).set j2599 (aw .i64 (x2600 + x2568)))))
            else
              some (.inr (.inr ((v2563.set j2596 (aw .i64 (x2597 - x2568))).set j2599 (aw .i64 (x2600 + x2568)))))
        else
        if x2568 = 0 then
          if v2556 = v2554 then
            if x2568 = v2555 then
              bind2 (geti v2563 x2565.fFrom) fun j2623 x2624 =>
              bind2 (geti v2563 x2565.fTo) fun j2626 x2627 =>
              ((v2563.set j2623 (aw .i64 (x2624 - x2568)))[j2626]?).bind fun x2629 =>
              bind2 (geti v2562 x2565.fFrom) fun j2631 x2632 =>
              (F20_0 x2632 (-1152921504606846976) 1152921504606846976).bind fun r2636 =>
              if r2636 = true then
                bind2 (geti v2562 x2565.fTo) fun j2637 x2638 =>
                (F20_0 x2638 (-1152921504606846976) 1152921504606846976).bind fun r2642 =>
                if r2642 = true then
                  some (.inl ((aw .i64 (v2556 + 1)), ((v2563.set j2623 (aw .i64 (x2624 - x2568))).set j2626 (aw .i64 (x2627 + x2568)))))
                else
                  some (.inr (.inr ((v2563.set j2623 (aw .i64 (x2624 - x2568))).set j2626 (aw .i64 (x2627 + x2568)))))
              else
                some (.inr (.inr ((v2563.set j2623 (aw .i64 (x2624 - x2568))).set j2626 (aw .i64 (x2627 + x2568)))))
            else
              some (.inr (.inr (v2563)))
          else
            bind2 (geti v2563 x2565.fFrom) fun j2646 x2647 =>
            bind2 (geti v2563 x2565.fTo) fun j2649 x2650 =>
            ((v2563.set j2646 (aw .i64 (x2647 - x2568)))[j2649]?).bind fun x2652 =>
            bind2 (geti v2562 x2565.fFrom) fun j2654 x2655 =>
            (F20_0 x2655 (-1152921504606846976) 1152921504606846976).bind fun r2659 =>
            if r2659 = true then
              bind2 (geti v2562 x2565.fTo) fun j2660 x2661 =>
              (F20_0 x2661 (-1152921504606846976) 1152921504606846976).bind fun r2665 =>
              if r2665 = true then
                some (.inl ((aw .i64 (v2556 + 1)), ((v2563.set j2646 (aw .i64 (x2647 - x2568))).set j2649 (aw .i64 (x2650 + x2568)))))
              else
                some (.inr (.inr ((v2563.set j2646 (aw .i64 (x2647 - x2568))).set j2649 (aw .i64 (x2650 + x2568)))))
            else
              some (.inr (.inr ((v2563.set j2646 (aw .i64 (x2647 - x2568))).set j2649 (aw .i64 (x2650 + x2568)))))
        else
          some (.inr (.inr (v2563)))
      else
        some (.inr (.inr (v2563)))
noncomputable def L6l0_1 (v2554 : Int) (v2555 : Int) (v2557 : List WaterNode) (v2558 : List WaterConduit) (v2559 : Int) (v2560 : Int) (v2561 : List Int) (v2562 : List Int) (s : Int × (List Int)) : Option (((List Int)) ⊕ ((List Int))) := iter (S6l0_1 v2554 v2555 v2557 v2558 v2559 v2560 v2561 v2562) 1000000 s
noncomputable def S6l1_1 (v2678 : Int) (v2679 : Int) (v2681 : List WaterNode) (v2682 : List WaterConduit) (v2683 : Int) (v2684 : Int) (v2685 : List Int) (v2686 : List Int) (v2687 : List Int) : Int → Option ((Int) ⊕ ((Unit) ⊕ (Unit)))
  | v2680 =>
    if (v2681.length : Int) ≤ v2680 then
      some (.inr (.inl ()))
    else
      bind2 (geti v2681 v2680) fun j2688 x2689 =>
      if x2689.fLake = true then
        bind2 (geti v2686 v2680) fun j2691 x2692 =>
        if x2692 = (aw .i64 (1000 * x2689.fHead)) then
          some (.inl (aw .i64 (v2680 + 1)))
        else
          some (.inr (.inr ()))
      else
        bind2 (geti v2687 v2680) fun j2695 x2696 =>
        if x2696 = x2689.fDraw then
          some (.inl (aw .i64 (v2680 + 1)))
        else
          some (.inr (.inr ()))
noncomputable def L6l1_1 (v2678 : Int) (v2679 : Int) (v2681 : List WaterNode) (v2682 : List WaterConduit) (v2683 : Int) (v2684 : Int) (v2685 : List Int) (v2686 : List Int) (v2687 : List Int) (s : Int) : Option ((Unit) ⊕ (Unit)) := iter (S6l1_1 v2678 v2679 v2681 v2682 v2683 v2684 v2685 v2686 v2687) 1000000 s
-- guidevanelaw02.WaterKept
noncomputable def F6_0 (v1514 : Int) (v1515 : Int) (v1516 : List WaterNode) (v1517 : List WaterConduit) : Option (Bool) :=
  (F15_0 v1516 v1517).bind fun r1521 =>
  if r1521 = true then
    (F38_0 v1516 v1517).bind fun r1658 =>
    if r1658 = 0 then
      (F21_0 v1514).bind fun r1662 =>
      if r1662 = 0 then
        (F21_0 v1515).bind fun r1666 =>
        if r1666 = 0 then
          if v1514 ≤ v1515 then
            (F17_0 v1516 v1517).bind fun _ =>
            bind2 (F39_0 v1516 v1517) fun r1987 r1988 =>
            if r1988 = 0 then
              (F17_0 v1516 v1517).bind fun _ =>
              (F40_0 v1514 v1516 v1517).bind fun g2297_ => match g2297_ with
              | .inl (r2299, r2300) =>
                if (r2299.length : Int) = (v1517.length : Int) then
                  if (r2300.length : Int) = (v1516.length : Int) then
                    (inx (v1516.length : Int) 140737488355329).bind fun n2309 =>
                    room (n2309 * 8) (
                      (L6l0_0 r1987 v1514 v1516 v1517 v1514 v1515 r2299 r2300 (0, (List.replicate n2309 0))).bind fun g2433_ => match g2433_ with
                      | .inl (r2435) =>
                        (L6l1_0 r1987 v1514 v1516 v1517 v1514 v1515 r2299 r2300 r2435 0).bind fun g2459_ => match g2459_ with
                        | .inl () =>
                          if 0 ≤ r1987 then
                            (F17_0 v1516 v1517).bind fun _ =>
                            bind2 (F42_0 v1514 v1516 v1517) fun r2518 r2519 =>
                            (F17_0 v1516 v1517).bind fun _ =>
                            bind2 (F42_0 v1515 v1516 v1517) fun r2525 r2526 =>
                            if r2519 = 0 then
                              if r2526 = 0 then
                                if r2518 ≤ r2525 then
                                  (F20_0 r1987 0 (aw .i64 ((v1517.length : Int) - 1))).bind fun r2529 =>
                                  if r2529 = true then
                                    bind2 (geti v1517 r1987) fun j2530 x2531 =>
                                    (F41_0 v1514).bind fun r2535 =>
                                    bind2 (geti r2300 x2531.fFrom) fun j2536 x2537 =>
                                    bind2 (geti r2300 x2531.fTo) fun j2539 x2540 =>
                                    some (decide (r2518 = (aw .i64 ((aw .i64 ((aw .i64 (x2531.fResist * v1514)) * r2535)) - (aw .i64 (x2537 - x2540))))))
                                  else
                                    some false
                                else
                                  some false
                              else
                                some false
                            else
                              some false
                          else
                            some true
                        | .inr () =>
                          some false
                      | .inr (r2547) =>
                        some false
                    )
                  else
                    some false
                else
                  some false
              | .inr (r2550) =>
                if r2550 = 0 then
                  if 0 = (v1517.length : Int) then
                    if 0 = (v1516.length : Int) then
                      (inx (v1516.length : Int) 140737488355329).bind fun n2551 =>
                      room (n2551 * 8) (
                        (L6l0_1 r1987 v1514 v1516 v1517 v1514 v1515 ([] : List Int) ([] : List Int) (0, (List.replicate n2551 0))).bind fun g2675_ => match g2675_ with
                        | .inl (r2677) =>
                          (L6l1_1 r1987 v1514 v1516 v1517 v1514 v1515 ([] : List Int) ([] : List Int) r2677 0).bind fun g2701_ => match g2701_ with
                          | .inl () =>
                            if 0 ≤ r1987 then
                              (F17_0 v1516 v1517).bind fun _ =>
                              bind2 (F42_0 v1514 v1516 v1517) fun r2707 r2708 =>
                              (F17_0 v1516 v1517).bind fun _ =>
                              bind2 (F42_0 v1515 v1516 v1517) fun r2714 r2715 =>
                              if r2708 = 0 then
                                if r2715 = 0 then
                                  if r2707 ≤ r2714 then
                                    (F20_0 r1987 0 (aw .i64 ((v1517.length : Int) - 1))).bind fun r2718 =>
                                    if r2718 = true then
                                      bind2 (geti v1517 r1987) fun j2719 x2720 =>
                                      (F41_0 v1514).bind fun r2724 =>
                                      bind2 (geti ([] : List Int) x2720.fFrom) fun j2725 x2726 =>
                                      bind2 (geti ([] : List Int) x2720.fTo) fun j2728 x2729 =>
                                      some (decide (r2707 = (aw .i64 ((aw .i64 ((aw .i64 (x2720.fResist * v1514)) * r2724)) - (aw .i64 (x2726 - x2729))))))
                                    else
                                      some false
                                  else
                                    some false
                                else
                                  some false
                              else
                                some false
                            else
                              some true
                          | .inr () =>
                            some false
                        | .inr (r2736) =>
                          some false
                      )
                    else
                      some false
                  else
                    some false
                else
                  some false
            else
              (F17_0 v1516 v1517).bind fun _ =>
              (F40_0 0 v1516 v1517).bind fun g2742_ => match g2742_ with
              | .inl (r2744, r2745) =>
                if r1988 = 12 then
                  if (r2744.length : Int) = (v1517.length : Int) then
                    if (r2745.length : Int) = (v1516.length : Int) then
                      (inx (v1516.length : Int) 140737488355329).bind fun n2754 =>
                      room (n2754 * 8) (
                        (L6l0_0 (-1) 0 v1516 v1517 v1514 v1515 r2744 r2745 (0, (List.replicate n2754 0))).bind fun g2757_ => match g2757_ with
                        | .inl (r2759) =>
                          (L6l1_0 (-1) 0 v1516 v1517 v1514 v1515 r2744 r2745 r2759 0).bind fun g2760_ => match g2760_ with
                          | .inl () =>
                            some true
                          | .inr () =>
                            some false
                        | .inr (r2763) =>
                          some false
                      )
                    else
                      some false
                  else
                    some false
                else
                  some false
              | .inr (r2767) =>
                if r1988 = 12 then
                  if r2767 = 0 then
                    if 0 = (v1517.length : Int) then
                      if 0 = (v1516.length : Int) then
                        (inx (v1516.length : Int) 140737488355329).bind fun n2768 =>
                        room (n2768 * 8) (
                          (L6l0_1 (-1) 0 v1516 v1517 v1514 v1515 ([] : List Int) ([] : List Int) (0, (List.replicate n2768 0))).bind fun g2771_ => match g2771_ with
                          | .inl (r2773) =>
                            (L6l1_1 (-1) 0 v1516 v1517 v1514 v1515 ([] : List Int) ([] : List Int) r2773 0).bind fun g2774_ => match g2774_ with
                            | .inl () =>
                              some true
                            | .inr () =>
                              some false
                          | .inr (r2777) =>
                            some false
                        )
                      else
                        some false
                    else
                      some false
                  else
                    some false
                else
                  some false
          else
            some true
        else
          some true
      else
        some true
    else
      some true
  else
    some true
noncomputable def S43l0_0 (v2800 : Int) (v2802 : List Int) : (Int × Int) → Option ((Int × Int) ⊕ (Int))
  | (v2799, v2801) =>
    if v2800 ≤ v2801 then
      some (.inr v2799)
    else
      bind2 (geti v2802 v2801) fun j2803 x2804 =>
      some (.inl ((aw .i64 (v2799 + x2804)), (aw .i64 (v2801 + 1))))
noncomputable def L43l0_0 (v2800 : Int) (v2802 : List Int) (s : Int × Int) : Option (Int) := iter (S43l0_0 v2800 v2802) 1000000 s
-- water.SerialOf
noncomputable def F43_0 (v2795 : List Int) : Option (Int × Int) :=
  (F80_0 v2795).bind fun r2798 =>
  if r2798 = 0 then
    (L43l0_0 (v2795.length : Int) v2795 (0, 0)).bind fun r2810 =>
    some (r2810, 0)
  else
    some (0, r2798)
noncomputable def S103l0_0 (v2862 : Int) : (Int × Int) → Option ((Int × Int) ⊕ (Int))
  | (v2863, v2864) =>
    if v2864 ≤ 0 then
      some (.inr v2863)
    else
    if (aw .i64 ((aw .i64 (v2863 + v2864)) * (aw .i64 (v2863 + v2864)))) ≤ v2862 then
      some (.inl ((aw .i64 (v2863 + v2864)), (aw .i64 (Int.tdiv v2864 2))))
    else
      some (.inl (v2863, (aw .i64 (Int.tdiv v2864 2))))
noncomputable def L103l0_0 (v2862 : Int) (s : Int × Int) : Option (Int) := iter (S103l0_0 v2862) 1000000 s
-- guidevanebase.Root
noncomputable def F103_0 (v2861 : Int) : Option (Int) :=
  (L103l0_0 v2861 (0, 1073741824)).bind fun r2872 =>
  some r2872
-- guidevanebase.Floor
noncomputable def F113_0 (v2879 : Int) (v2880 : Int) : Option (Int) :=
  if v2880 = 0 then
    none
  else
    if 0 ≤ (Int.tmod v2879 v2880) then
      some (aw .i64 (Int.tdiv v2879 v2880))
    else
      some (aw .i64 ((aw .i64 (Int.tdiv v2879 v2880)) - 1))
-- guidevanebase.Ceil
noncomputable def F105_0 (v2877 : Int) (v2878 : Int) : Option (Int) :=
  (F113_0 (aw .i64 (0 - v2877)) v2878).bind fun r2888 =>
  some (aw .i64 (0 - r2888))
-- guidevanebase.RootUp
noncomputable def F104_0 (v2893 : Int) : Option (Int) :=
  (F103_0 v2893).bind fun r2896 =>
  if v2893 ≤ (aw .i64 (r2896 * r2896)) then
    some r2896
  else
    some (aw .i64 (r2896 + 1))
-- guidevaneref02.Through
noncomputable def F45_0 (v2858 : Int) (v2859 : Int) : Option (Int × Int) :=
  if v2858 = 0 then
    none
  else
    (F103_0 (aw .i64 (Int.tdiv v2859 v2858))).bind fun r2876 =>
    (F105_0 v2859 v2858).bind fun r2892 =>
    (F104_0 r2892).bind fun r2901 =>
    some (r2876, r2901)
noncomputable def S7l0_0 (v2832 : Int) (v2833 : Int) (v2834 : Int) (v2835 : Int) (v2836 : Int) (v2837 : Int) (v2839 : List Int) (v2840 : Int) (v2841 : Int) (v2842 : Int) (v2843 : Int) : Int → Option ((Int) ⊕ ((Unit) ⊕ (Unit)))
  | v2838 =>
    if (v2839.length : Int) ≤ v2838 then
      some (.inr (.inl ()))
    else
      bind2 (geti v2839 v2838) fun j2844 x2845 =>
      bind3 (F27_0 x2845 v2832) fun r2849 r2850 r2851 =>
      (F44_0 x2845).bind fun r2854 =>
      if r2854 = 0 then
        (F24_0 v2832).bind fun r2857 =>
        if r2857 = 0 then
          if r2851 = 0 then
            bind2 (F45_0 x2845 v2832) fun r2907 r2908 =>
            if r2849 = r2907 then
              if r2850 = r2908 then
                some (.inl (aw .i64 (v2838 + 1)))
              else
                some (.inr (.inr ()))
            else
              some (.inr (.inr ()))
          else
            some (.inr (.inr ()))
        else
        if r2851 = r2857 then
          if r2849 = 0 then
            if r2850 = 0 then
              some (.inl (aw .i64 (v2838 + 1)))
            else
              some (.inr (.inr ()))
          else
            some (.inr (.inr ()))
        else
          some (.inr (.inr ()))
      else
      if r2851 = r2854 then
        if r2849 = 0 then
          if r2850 = 0 then
            some (.inl (aw .i64 (v2838 + 1)))
          else
            some (.inr (.inr ()))
        else
          some (.inr (.inr ()))
      else
        some (.inr (.inr ()))
noncomputable def L7l0_0 (v2832 : Int) (v2833 : Int) (v2834 : Int) (v2835 : Int) (v2836 : Int) (v2837 : Int) (v2839 : List Int) (v2840 : Int) (v2841 : Int) (v2842 : Int) (v2843 : Int) (s : Int) : Option ((Unit) ⊕ (Unit)) := iter (S7l0_0 v2832 v2833 v2834 v2835 v2836 v2837 v2839 v2840 v2841 v2842 v2843) 1000000 s
noncomputable def S7l1_0 (v2926 : Int) (v2927 : Int) (v2928 : Int) (v2929 : Int) (v2930 : Int) (v2931 : Int) (v2934 : List Int) (v2935 : Int) (v2936 : Int) (v2937 : Int) (v2938 : Int) : (Int × Int) → Option ((Int × Int) ⊕ (Int))
  | (v2932, v2933) =>
    if (v2934.length : Int) ≤ v2933 then
      some (.inr v2932)
    else
      bind2 (geti v2934 v2933) fun j2939 x2940 =>
      some (.inl ((aw .i64 (v2932 + x2940)), (aw .i64 (v2933 + 1))))
noncomputable def L7l1_0 (v2926 : Int) (v2927 : Int) (v2928 : Int) (v2929 : Int) (v2930 : Int) (v2931 : Int) (v2934 : List Int) (v2935 : Int) (v2936 : Int) (v2937 : Int) (v2938 : Int) (s : Int × Int) : Option (Int) := iter (S7l1_0 v2926 v2927 v2928 v2929 v2930 v2931 v2934 v2935 v2936 v2937 v2938) 1000000 s
noncomputable def S46l0_0 (v2967 : Int) (v2969 : List Int) : (Int × Int × Int) → Option ((Int × Int × Int) ⊕ (Int × Int))
  | (v2968, v2972, v2973) =>
    if (v2969.length : Int) ≤ v2968 then
      some (.inr (v2972, v2973))
    else
      bind2 (geti v2969 v2968) fun j2974 x2975 =>
      bind2 (F45_0 x2975 v2967) fun r2979 r2980 =>
      some (.inl ((aw .i64 (v2968 + 1)), (aw .i64 (v2972 + r2979)), (aw .i64 (v2973 + r2980))))
noncomputable def L46l0_0 (v2967 : Int) (v2969 : List Int) (s : Int × Int × Int) : Option (Int × Int) := iter (S46l0_0 v2967 v2969) 1000000 s
-- guidevaneref02.Parallel
noncomputable def F46_0 (v2950 : Int) (v2951 : List Int) : Option (Int × Int) :=
  bind2 (L46l0_0 v2950 v2951 (0, 0, 0)) fun r2986 r2987 =>
  some (r2986, r2987)
noncomputable def S47l0_0 (v3018 : Int) (v3021 : List Int) : (Int × Int) → Option ((Int × Int) ⊕ (Int))
  | (v3019, v3020) =>
    if v3020 ≤ v3019 then
      some (.inr v3019)
    else
      bind2 (F46_0 (aw .i64 (Int.tdiv (aw .i64 (v3019 + v3020)) 2)) v3021) fun r3029 r3030 =>
      if v3018 ≤ r3030 then
        some (.inl (v3019, (aw .i64 (Int.tdiv (aw .i64 (v3019 + v3020)) 2))))
      else
        some (.inl ((aw .i64 ((aw .i64 (Int.tdiv (aw .i64 (v3019 + v3020)) 2)) + 1)), v3020))
noncomputable def L47l0_0 (v3018 : Int) (v3021 : List Int) (s : Int × Int) : Option (Int) := iter (S47l0_0 v3018 v3021) 1000000 s
noncomputable def S47l1_0 (v3052 : Int) (v3055 : List Int) (v3058 : Int) : (Int × Int) → Option ((Int × Int) ⊕ (Int))
  | (v3053, v3054) =>
    if v3054 ≤ v3053 then
      some (.inr v3053)
    else
      bind2 (F46_0 (aw .i64 (Int.tdiv (aw .i64 (v3053 + v3054)) 2)) v3055) fun r3063 r3064 =>
      if v3052 ≤ r3063 then
        some (.inl (v3053, (aw .i64 (Int.tdiv (aw .i64 (v3053 + v3054)) 2))))
      else
        some (.inl ((aw .i64 ((aw .i64 (Int.tdiv (aw .i64 (v3053 + v3054)) 2)) + 1)), v3054))
noncomputable def L47l1_0 (v3052 : Int) (v3055 : List Int) (v3058 : Int) (s : Int × Int) : Option (Int) := iter (S47l1_0 v3052 v3055 v3058) 1000000 s
-- guidevaneref02.Drop
noncomputable def F47_0 (v2997 : Int) (v2998 : List Int) : Option (Int × Int × Bool) :=
  bind2 (F46_0 1000000000 v2998) fun r3001 r3002 =>
  if v2997 ≤ r3001 then
    (L47l0_0 v2997 v2998 (0, 1000000000)).bind fun r3036 =>
    (L47l1_0 v2997 v2998 r3036 (0, 1000000000)).bind fun r3070 =>
    some (r3036, r3070, true)
  else
    some (0, 0, false)
-- guidevanelaw02.WaterSplits
noncomputable def F7_0 (v2789 : Int) (v2790 : Int) (v2791 : List Int) : Option (Bool) :=
  if (v2791.length : Int) ≤ 10 then
    (F26_0 v2791).bind fun _ =>
    bind2 (F43_0 v2791) fun r2816 r2817 =>
    (F26_0 v2791).bind fun _ =>
    bind3 (F25_0 v2789 v2791) fun r2822 r2823 r2824 =>
    (F26_0 v2791).bind fun _ =>
    bind3 (F28_0 v2790 v2791) fun r2829 r2830 r2831 =>
    (L7l0_0 v2789 v2790 r2816 r2817 r2824 r2831 v2791 r2822 r2823 r2829 r2830 0).bind fun g2921_ => match g2921_ with
    | .inl () =>
      (F23_0 v2791).bind fun r2925 =>
      if r2925 = 0 then
        (L7l1_0 v2789 v2790 r2816 r2817 r2824 r2831 v2791 r2822 r2823 r2829 r2830 (0, 0)).bind fun r2946 =>
        if r2817 = 0 then
          if r2816 = r2946 then
            (F24_0 v2789).bind fun r2949 =>
            if r2949 = 0 then
              if r2824 = 0 then
                bind2 (F46_0 v2789 v2791) fun r2992 r2993 =>
                if r2822 = r2992 then
                  if r2823 = r2993 then
                    (F20_0 v2790 0 10000).bind fun r2996 =>
                    if r2996 = true then
                      bind3 (F47_0 v2790 v2791) fun r3077 r3078 r3079 =>
                      if r3079 = true then
                        if r2831 = 0 then
                          if r2829 = r3077 then
                            if r2830 = r3078 then
                              some true
                            else
                              some false
                          else
                            some false
                        else
                          some false
                      else
                      if r2831 = 12 then
                        some ((decide (r2829 = 0)) && (decide (r2830 = 0)))
                      else
                        some false
                    else
                    if r2831 = 2 then
                      some ((decide (r2829 = 0)) && (decide (r2830 = 0)))
                    else
                      some false
                  else
                    some false
                else
                  some false
              else
                some false
            else
            if r2824 = r2949 then
              if r2822 = 0 then
                if r2823 = 0 then
                  (F20_0 v2790 0 10000).bind fun r3092 =>
                  if r3092 = true then
                    bind3 (F47_0 v2790 v2791) fun r3095 r3096 r3097 =>
                    if r3097 = true then
                      if r2831 = 0 then
                        if r2829 = r3095 then
                          if r2830 = r3096 then
                            some true
                          else
                            some false
                        else
                          some false
                      else
                        some false
                    else
                    if r2831 = 12 then
                      some ((decide (r2829 = 0)) && (decide (r2830 = 0)))
                    else
                      some false
                  else
                  if r2831 = 2 then
                    some ((decide (r2829 = 0)) && (decide (r2830 = 0)))
                  else
                    some false
                else
                  some false
              else
                some false
            else
              some false
          else
            some false
        else
          some false
      else
      if r2817 = r2925 then
        if r2824 = r2925 then
          if r2831 = r2925 then
            if r2816 = 0 then
              if r2822 = 0 then
                if r2823 = 0 then
                  some ((decide (r2829 = 0)) && (decide (r2830 = 0)))
                else
                  some false
              else
                some false
            else
              some false
          else
            some false
        else
          some false
      else
        some false
    | .inr () =>
      some false
  else
    some true
-- water.tree).isFlat
noncomputable def F108_0 (v3139 : Int) (v3140 : List WaterNode) (v3141 : List WaterConduit) (v3142 : List Branch) : Option (Bool) :=
  if 0 ≤ v3139 then
    (F102_0 v3139 (-200000) v3140 v3141 v3142).bind fun r3145 =>
    (F102_0 v3139 200000 v3140 v3141 v3142).bind fun r3148 =>
    some (decide (r3145 = r3148))
  else
    some false
-- water.openFlowing
noncomputable def F106_0 (v3132 : List WaterNode) (v3133 : List WaterConduit) : Option ((Int × Int × (List Branch)) ⊕ (Int)) :=
  (F99_0 v3132 v3133).bind fun g3134_ => match g3134_ with
  | .inl (r3136, r3137, r3138) =>
    if r3137 = 0 then
      (F108_0 r3136 v3132 v3133 r3138).bind fun r3153 =>
      (F72_0 (!r3153) 11).bind fun r3156 =>
      some (.inl (r3136, r3156, r3138))
    else
      some (.inl (r3136, r3137, r3138))
  | .inr (r3158) =>
    if r3158 = 0 then
      (F108_0 0 ([] : List WaterNode) ([] : List WaterConduit) ([] : List Branch)).bind fun r3161 =>
      (F72_0 (!r3161) 11).bind fun r3164 =>
      some (.inr (r3164))
    else
      some (.inr (r3158))
-- water.tree).circulation$1
noncomputable def F141_0 (v3192 : Int) (v3193 : Int) (v3194 : List WaterNode) (v3195 : List WaterConduit) (v3196 : List Branch) : Option (Bool) :=
  (F102_0 v3193 v3192 v3194 v3195 v3196).bind fun r3199 =>
  some (decide (0 ≤ r3199))
noncomputable def S84l0_3 (v3187 : Int) (v3188 : List WaterNode) (v3189 : List WaterConduit) (v3190 : List Branch) : (Int × Int) → Option ((Int × Int) ⊕ (Int))
  | (v3185, v3186) =>
    if v3186 ≤ v3185 then
      some (.inr v3185)
    else
      (F141_0 (aw .i64 (v3185 + (aw .i64 (Int.tdiv (aw .i64 (v3186 - v3185)) 2)))) v3187 v3188 v3189 v3190).bind fun r3203 =>
      if r3203 = true then
        some (.inl (v3185, (aw .i64 (v3185 + (aw .i64 (Int.tdiv (aw .i64 (v3186 - v3185)) 2))))))
      else
        some (.inl ((aw .i64 ((aw .i64 (v3185 + (aw .i64 (Int.tdiv (aw .i64 (v3186 - v3185)) 2)))) + 1)), v3186))
noncomputable def L84l0_3 (v3187 : Int) (v3188 : List WaterNode) (v3189 : List WaterConduit) (v3190 : List Branch) (s : Int × Int) : Option (Int) := iter (S84l0_3 v3187 v3188 v3189 v3190) 1000000 s
-- water.least
noncomputable def F84_3 (v3179 : Int) (v3180 : Int) (v3181 : Int) (v3182 : List WaterNode) (v3183 : List WaterConduit) (v3184 : List Branch) : Option (Int) :=
  (L84l0_3 v3181 v3182 v3183 v3184 (v3179, v3180)).bind fun r3209 =>
  some r3209
-- water.tree).circulation
noncomputable def F107_0 (v3175 : Int) (v3176 : List WaterNode) (v3177 : List WaterConduit) (v3178 : List Branch) : Option (Int × Int) :=
  if 0 ≤ v3175 then
    (F84_3 (-200000) 200000 v3175 v3176 v3177 v3178).bind fun r3213 =>
    (F102_0 v3175 r3213 v3176 v3177 v3178).bind fun r3216 =>
    if r3216 = 0 then
      some (r3213, r3213)
    else
      some ((aw .i64 (r3213 - 1)), r3213)
  else
    some (0, 0)
-- water.CirculationOf
noncomputable def F48_0 (v3130 : List WaterNode) (v3131 : List WaterConduit) : Option (Int × Int × Int) :=
  (F106_0 v3130 v3131).bind fun g3170_ => match g3170_ with
  | .inl (r3172, r3173, r3174) =>
    if r3173 = 0 then
      bind2 (F107_0 r3172 v3130 v3131 r3174) fun r3223 r3224 =>
      some (r3223, r3224, 0)
    else
      some (0, 0, r3173)
  | .inr (r3226) =>
    if r3226 = 0 then
      bind2 (F107_0 0 ([] : List WaterNode) ([] : List WaterConduit) ([] : List Branch)) fun r3229 r3230 =>
      some (r3229, r3230, 0)
    else
      some (0, 0, r3226)
-- water.tree).proves
noncomputable def F109_0 (v3269 : Int) (v3270 : Int) (v3271 : Int) (v3272 : List WaterNode) (v3273 : List WaterConduit) (v3274 : List Branch) : Option (Bool) :=
  if 0 ≤ v3269 then
    if v3270 = v3271 then
      (F102_0 v3269 v3270 v3272 v3273 v3274).bind fun r3277 =>
      some (decide (r3277 = 0))
    else
    if v3271 = (aw .i64 (v3270 + 1)) then
      (F102_0 v3269 v3270 v3272 v3273 v3274).bind fun r3280 =>
      if 0 ≤ r3280 then
        some false
      else
        (F102_0 v3269 v3271 v3272 v3273 v3274).bind fun r3283 =>
        some (!(decide (r3283 ≤ 0)))
    else
      some false
  else
    some ((decide (v3270 = 0)) && (decide (v3271 = 0)))
-- water.CheckCirculation
noncomputable def F49_0 (v3242 : Int) (v3243 : Int) (v3244 : List WaterNode) (v3245 : List WaterConduit) : Option (Int) :=
  (F99_0 v3244 v3245).bind fun g3246_ => match g3246_ with
  | .inl (r3248, r3249, r3250) =>
    (F100_0 v3242).bind fun r3253 =>
    (F100_0 v3243).bind fun r3256 =>
    (F72_0 (decide (v3242 ≤ v3243)) 9).bind fun r3259 =>
    (F71_0 ([r3249, r3253, r3256, r3259] : List Int)).bind fun r3262 =>
    if r3262 = 0 then
      (F108_0 r3248 v3244 v3245 r3250).bind fun r3265 =>
      (F72_0 (!r3265) 11).bind fun r3268 =>
      (F109_0 r3248 v3242 v3243 v3244 v3245 r3250).bind fun r3291 =>
      (F72_0 r3291 19).bind fun r3294 =>
      (F71_0 ([r3268, r3294] : List Int)).bind fun r3297 =>
      some r3297
    else
      some r3262
  | .inr (r3299) =>
    (F100_0 v3242).bind fun r3302 =>
    (F100_0 v3243).bind fun r3305 =>
    (F72_0 (decide (v3242 ≤ v3243)) 9).bind fun r3308 =>
    (F71_0 ([r3299, r3302, r3305, r3308] : List Int)).bind fun r3311 =>
    if r3311 = 0 then
      (F108_0 0 ([] : List WaterNode) ([] : List WaterConduit) ([] : List Branch)).bind fun r3314 =>
      (F72_0 (!r3314) 11).bind fun r3317 =>
      (F109_0 0 v3242 v3243 ([] : List WaterNode) ([] : List WaterConduit) ([] : List Branch)).bind fun r3320 =>
      (F72_0 r3320 19).bind fun r3323 =>
      (F71_0 ([r3317, r3323] : List Int)).bind fun r3326 =>
      some r3326
    else
      some r3311
noncomputable def S142l0_0 (v3359 : Int) (v3361 : List Int) (v3362 : List Int) : (Int × (List Range)) → Option ((Int × (List Range)) ⊕ ((List Range)))
  | (v3360, v3363) =>
    if v3359 ≤ v3360 then
      some (.inr v3363)
    else
      bind2 (geti v3361 v3360) fun j3364 x3365 =>
      bind2 (geti v3362 v3360) fun j3367 x3368 =>
      room ((v3363.length + 1) * 16) (
        some (.inl ((aw .i64 (v3360 + 1)), (v3363 ++ [(⟨(min x3365 x3368), (max x3365 x3368)⟩ : Range)])))
      )
noncomputable def L142l0_0 (v3359 : Int) (v3361 : List Int) (v3362 : List Int) (s : Int × (List Range)) : Option ((List Range)) := iter (S142l0_0 v3359 v3361 v3362) 1000000 s
-- water.ranges
noncomputable def F142_0 (v3357 : List Int) (v3358 : List Int) : Option ((List Range)) :=
  (L142l0_0 (v3357.length : Int) v3357 v3358 (0, ([] : List Range))).bind fun r3375 =>
  some r3375
-- water.tree).steady
noncomputable def F110_0 (v3341 : Int) (v3342 : List WaterNode) (v3343 : List WaterConduit) (v3344 : List Branch) : Option ((List Range) × (List Range)) :=
  bind2 (F107_0 v3341 v3342 v3343 v3344) fun r3347 r3348 =>
  bind2 (F101_0 v3341 r3347 v3342 v3343 v3344) fun r3351 r3352 =>
  bind2 (F101_0 v3341 r3348 v3342 v3343 v3344) fun r3355 r3356 =>
  (F142_0 r3351 r3355).bind fun r3379 =>
  (F142_0 r3352 r3356).bind fun r3382 =>
  some (r3379, r3382)
-- water.SteadyOf
noncomputable def F50_0 (v3334 : List WaterNode) (v3335 : List WaterConduit) : Option (Int × (List Range) × (List Range)) :=
  (F106_0 v3334 v3335).bind fun g3336_ => match g3336_ with
  | .inl (r3338, r3339, r3340) =>
    if r3339 = 0 then
      bind2 (F110_0 r3338 v3334 v3335 r3340) fun r3387 r3388 =>
      some (0, r3387, r3388)
    else
      some (r3339, ([] : List Range), ([] : List Range))
  | .inr (r3390) =>
    if r3390 = 0 then
      bind2 (F110_0 0 ([] : List WaterNode) ([] : List WaterConduit) ([] : List Branch)) fun r3393 r3394 =>
      some (0, r3393, r3394)
    else
      some (r3390, ([] : List Range), ([] : List Range))
noncomputable def S114l0_0 (v3445 : Int) (v3446 : Int) (v3448 : List WaterNode) (v3449 : List WaterConduit) (v3450 : List Int) (v3451 : List Int) (v3452 : List Int) (v3453 : List Int) : (Int × (List Int)) → Option ((Int × (List Int)) ⊕ ((List Int)))
  | (v3447, v3454) =>
    if (v3448.length : Int) ≤ v3447 then
      some (.inr v3454)
    else
      bind2 (geti v3448 v3447) fun j3455 x3456 =>
      room ((v3454.length + 1) * 8) (
        some (.inl ((aw .i64 (v3447 + 1)), (v3454 ++ [x3456.fDraw])))
      )
noncomputable def L114l0_0 (v3445 : Int) (v3446 : Int) (v3448 : List WaterNode) (v3449 : List WaterConduit) (v3450 : List Int) (v3451 : List Int) (v3452 : List Int) (v3453 : List Int) (s : Int × (List Int)) : Option ((List Int)) := iter (S114l0_0 v3445 v3446 v3448 v3449 v3450 v3451 v3452 v3453) 1000000 s
noncomputable def S155l0_0 (v3527 : Int) (v3529 : List Int) : Int → Option ((Int) ⊕ ((Unit) ⊕ (Int)))
  | v3528 =>
    if (v3529.length : Int) ≤ v3528 then
      some (.inr (.inl ()))
    else
      bind2 (geti v3529 v3528) fun j3530 x3531 =>
      if x3531 = v3527 then
        some (.inr (.inr (v3528)))
      else
        some (.inl (aw .i64 (v3528 + 1)))
noncomputable def L155l0_0 (v3527 : Int) (v3529 : List Int) (s : Int) : Option ((Unit) ⊕ (Int)) := iter (S155l0_0 v3527 v3529) 1000000 s
-- guidevaneref02.at
noncomputable def F155_0 (v3525 : Int) (v3526 : List Int) : Option (Int) :=
  (L155l0_0 v3525 v3526 0).bind fun g3536_ => match g3536_ with
  | .inl () =>
    some (-1)
  | .inr (r3538) =>
    some r3538
noncomputable def S143l0_0 (v3511 : Int) (v3512 : List WaterNode) (v3513 : List WaterConduit) (v3514 : List Int) (v3515 : List Int) : Int → Option ((Int) ⊕ (Int))
  | v3510 =>
    if v3510 ≤ v3511 then
      some (.inr v3510)
    else
      bind2 (geti v3514 v3510) fun j3516 x3517 =>
      bind2 (geti v3513 x3517) fun j3519 x3520 =>
      bind2 (geti v3515 v3510) fun j3522 x3523 =>
      if x3520.fFrom = x3523 then
        (F155_0 x3520.fTo v3515).bind fun r3542 =>
        some (.inl r3542)
      else
        (F155_0 x3520.fFrom v3515).bind fun r3545 =>
        some (.inl r3545)
noncomputable def L143l0_0 (v3511 : Int) (v3512 : List WaterNode) (v3513 : List WaterConduit) (v3514 : List Int) (v3515 : List Int) (s : Int) : Option (Int) := iter (S143l0_0 v3511 v3512 v3513 v3514 v3515) 1000000 s
-- guidevaneref02.through
noncomputable def F143_0 (v3504 : Int) (v3505 : Int) (v3506 : List WaterNode) (v3507 : List WaterConduit) (v3508 : List Int) (v3509 : List Int) : Option (Bool) :=
  (L143l0_0 v3505 v3506 v3507 v3508 v3509 v3504).bind fun r3551 =>
  some (decide (r3551 = v3505))
noncomputable def S114l1_0 (v3492 : Int) (v3495 : List WaterNode) (v3496 : List WaterConduit) (v3497 : List Int) (v3498 : List Int) (v3499 : List Int) (v3500 : List Int) (v3501 : List Int) (v3502 : List Int) (v3503 : List Int) : (Int × Int) → Option ((Int × Int) ⊕ (Int))
  | (v3493, v3494) =>
    if (v3499.length : Int) ≤ v3494 then
      some (.inr v3493)
    else
      (F143_0 v3494 v3492 v3495 v3496 v3499 v3500).bind fun r3555 =>
      if r3555 = true then
        bind2 (geti v3500 v3494) fun j3556 x3557 =>
        bind2 (geti v3501 x3557) fun j3559 x3560 =>
        some (.inl ((aw .i64 (v3493 + x3560)), (aw .i64 (v3494 + 1))))
      else
        some (.inl (v3493, (aw .i64 (v3494 + 1))))
noncomputable def L114l1_0 (v3492 : Int) (v3495 : List WaterNode) (v3496 : List WaterConduit) (v3497 : List Int) (v3498 : List Int) (v3499 : List Int) (v3500 : List Int) (v3501 : List Int) (v3502 : List Int) (v3503 : List Int) (s : Int × Int) : Option (Int) := iter (S114l1_0 v3492 v3495 v3496 v3497 v3498 v3499 v3500 v3501 v3502 v3503) 1000000 s
noncomputable def S114l2_0 (v3483 : List WaterNode) (v3484 : List WaterConduit) (v3485 : List Int) (v3486 : List Int) (v3487 : List Int) (v3488 : List Int) (v3489 : List Int) (v3491 : List Int) : (Int × (List Int)) → Option ((Int × (List Int)) ⊕ ((List Int)))
  | (v3482, v3490) =>
    if (v3487.length : Int) ≤ v3482 then
      some (.inr v3490)
    else
      (L114l1_0 v3482 v3483 v3484 v3485 v3486 v3487 v3488 v3489 v3490 v3491 (0, v3482)).bind fun r3567 =>
      bind2 (geti v3487 v3482) fun j3568 x3569 =>
      bind2 (geti v3484 x3569) fun j3571 x3572 =>
      bind2 (geti v3488 v3482) fun j3574 x3575 =>
      if x3572.fTo = x3575 then
        bind2 (geti v3490 x3569) fun j3577 x3578 =>
        some (.inl ((aw .i64 (v3482 + 1)), (v3490.set j3577 r3567)))
      else
        bind2 (geti v3490 x3569) fun j3580 x3581 =>
        some (.inl ((aw .i64 (v3482 + 1)), (v3490.set j3580 (aw .i64 (0 - r3567)))))
noncomputable def L114l2_0 (v3483 : List WaterNode) (v3484 : List WaterConduit) (v3485 : List Int) (v3486 : List Int) (v3487 : List Int) (v3488 : List Int) (v3489 : List Int) (v3491 : List Int) (s : Int × (List Int)) : Option ((List Int)) := iter (S114l2_0 v3483 v3484 v3485 v3486 v3487 v3488 v3489 v3491) 1000000 s
noncomputable def S114l3_0 (v3590 : List WaterNode) (v3591 : List WaterConduit) (v3592 : List Int) (v3593 : List Int) (v3594 : List Int) (v3595 : List Int) (v3596 : List Int) : (Int × (List Int)) → Option ((Int × (List Int)) ⊕ ((List Int)))
  | (v3589, v3597) =>
    if (v3590.length : Int) ≤ v3589 then
      some (.inr v3597)
    else
      bind2 (geti v3590 v3589) fun j3598 x3599 =>
      if x3599.fLake = true then
        bind2 (geti v3597 v3589) fun j3601 x3602 =>
        some (.inl ((aw .i64 (v3589 + 1)), (v3597.set j3601 (aw .i64 (1000 * x3599.fHead)))))
      else
        some (.inl ((aw .i64 (v3589 + 1)), v3597))
noncomputable def L114l3_0 (v3590 : List WaterNode) (v3591 : List WaterConduit) (v3592 : List Int) (v3593 : List Int) (v3594 : List Int) (v3595 : List Int) (v3596 : List Int) (s : Int × (List Int)) : Option ((List Int)) := iter (S114l3_0 v3590 v3591 v3592 v3593 v3594 v3595 v3596) 1000000 s
noncomputable def S114l4_0 (v3611 : List WaterNode) (v3612 : List WaterConduit) (v3613 : List Int) (v3614 : List Int) (v3615 : List Int) (v3616 : List Int) (v3617 : List Int) : (Int × (List Int)) → Option ((Int × (List Int)) ⊕ ((List Int)))
  | (v3610, v3618) =>
    if (v3615.length : Int) ≤ v3610 then
      some (.inr v3618)
    else
      bind2 (geti v3615 v3610) fun j3619 x3620 =>
      bind2 (geti v3612 x3620) fun j3622 x3623 =>
      bind2 (geti v3616 v3610) fun j3625 x3626 =>
      if x3623.fTo = x3626 then
        bind2 (geti v3618 x3623.fFrom) fun j3628 x3629 =>
        bind2 (geti v3617 x3620) fun j3631 x3632 =>
        (F22_0 x3623.fResist x3632).bind fun r3636 =>
        bind2 (geti v3618 x3623.fTo) fun j3637 x3638 =>
        some (.inl ((aw .i64 (v3610 + 1)), (v3618.set j3637 (aw .i64 (x3629 - r3636)))))
      else
        bind2 (geti v3618 x3623.fTo) fun j3640 x3641 =>
        bind2 (geti v3617 x3620) fun j3643 x3644 =>
        (F22_0 x3623.fResist x3644).bind fun r3648 =>
        bind2 (geti v3618 x3623.fFrom) fun j3649 x3650 =>
        some (.inl ((aw .i64 (v3610 + 1)), (v3618.set j3649 (aw .i64 (x3641 + r3648)))))
noncomputable def L114l4_0 (v3611 : List WaterNode) (v3612 : List WaterConduit) (v3613 : List Int) (v3614 : List Int) (v3615 : List Int) (v3616 : List Int) (v3617 : List Int) (s : Int × (List Int)) : Option ((List Int)) := iter (S114l4_0 v3611 v3612 v3613 v3614 v3615 v3616 v3617) 1000000 s
-- guidevaneref02.State
noncomputable def F114_0 (v3433 : Int) (v3434 : List WaterNode) (v3435 : List WaterConduit) : Option ((List Int) × (List Int)) :=
  bind3 (F137_0 v3434 v3435) fun r3438 r3439 r3440 =>
  bind2 (F97_0 v3434 v3435) fun r3443 r3444 =>
  (L114l0_0 v3433 r3443 v3434 v3435 ([] : List Int) ([] : List Int) r3439 r3440 (0, ([] : List Int))).bind fun r3463 =>
  (inx (v3435.length : Int) 140737488355329).bind fun n3464 =>
  room (n3464 * 8) (
    (inx (v3434.length : Int) 140737488355329).bind fun n3467 =>
    room (n3467 * 8) (
      if 0 ≤ r3443 then
        bind2 (geti v3435 r3443) fun j3470 x3471 =>
        bind2 (geti (List.replicate n3464 0) r3443) fun j3473 x3474 =>
        bind2 (geti r3463 x3471.fFrom) fun j3476 x3477 =>
        bind2 (geti (r3463.set j3476 (aw .i64 (x3477 + v3433))) x3471.fTo) fun j3479 x3480 =>
        (L114l2_0 v3434 v3435 ([] : List Int) ([] : List Int) r3439 r3440 ((r3463.set j3476 (aw .i64 (x3477 + v3433))).set j3479 (aw .i64 (x3480 - v3433))) (List.replicate n3467 0) (0, ((List.replicate n3464 0).set j3473 v3433))).bind fun r3588 =>
        (L114l3_0 v3434 v3435 ([] : List Int) ([] : List Int) r3439 r3440 r3588 (0, (List.replicate n3467 0))).bind fun r3609 =>
        (L114l4_0 v3434 v3435 ([] : List Int) ([] : List Int) r3439 r3440 r3588 (0, r3609)).bind fun r3657 =>
        some (r3588, r3657)
      else
        (L114l2_0 v3434 v3435 ([] : List Int) ([] : List Int) r3439 r3440 r3463 (List.replicate n3467 0) (0, (List.replicate n3464 0))).bind fun r3660 =>
        (L114l3_0 v3434 v3435 ([] : List Int) ([] : List Int) r3439 r3440 r3660 (0, (List.replicate n3467 0))).bind fun r3663 =>
        (L114l4_0 v3434 v3435 ([] : List Int) ([] : List Int) r3439 r3440 r3660 (0, r3663)).bind fun r3666 =>
        some (r3660, r3666)
    )
  )
-- guidevaneref02.Gap
noncomputable def F112_0 (v3423 : Int) (v3424 : List WaterNode) (v3425 : List WaterConduit) : Option (Int) :=
  bind2 (F97_0 v3424 v3425) fun r3428 r3429 =>
  bind2 (geti v3425 r3428) fun j3430 x3431 =>
  bind2 (F114_0 v3423 v3424 v3425) fun r3672 r3673 =>
  (F22_0 x3431.fResist v3423).bind fun r3676 =>
  bind2 (geti r3673 x3431.fFrom) fun j3677 x3678 =>
  bind2 (geti r3673 x3431.fTo) fun j3680 x3681 =>
  some (aw .i64 (r3676 - (aw .i64 (x3678 - x3681))))
noncomputable def S53l0_0 (v3706 : List WaterNode) (v3707 : List WaterConduit) : (Int × Int) → Option ((Int × Int) ⊕ (Int))
  | (v3704, v3705) =>
    if v3705 ≤ v3704 then
      some (.inr v3704)
    else
      (F113_0 (aw .i64 (v3704 + v3705)) 2).bind fun r3712 =>
      (F112_0 r3712 v3706 v3707).bind fun r3715 =>
      if 0 ≤ r3715 then
        some (.inl (v3704, r3712))
      else
        some (.inl ((aw .i64 (r3712 + 1)), v3705))
noncomputable def L53l0_0 (v3706 : List WaterNode) (v3707 : List WaterConduit) (s : Int × Int) : Option (Int) := iter (S53l0_0 v3706 v3707) 1000000 s
-- guidevaneref02.Circulation
noncomputable def F53_0 (v3417 : List WaterNode) (v3418 : List WaterConduit) : Option (Int × Int × Int) :=
  bind2 (F97_0 v3417 v3418) fun r3421 r3422 =>
  if 0 ≤ r3421 then
    (F112_0 (-200000) v3417 v3418).bind fun r3686 =>
    (F112_0 200000 v3417 v3418).bind fun r3689 =>
    if r3686 = r3689 then
      some (0, 0, 11)
    else
      (L53l0_0 v3417 v3418 ((-200000), 200000)).bind fun r3721 =>
      (F112_0 r3721 v3417 v3418).bind fun r3724 =>
      if r3724 = 0 then
        some (r3721, r3721, 0)
      else
        some ((aw .i64 (r3721 - 1)), r3721, 0)
  else
    some (0, 0, 0)
-- guidevaneref02.CheckCirculation
noncomputable def F52_0 (v3407 : Int) (v3408 : Int) (v3409 : List WaterNode) (v3410 : List WaterConduit) : Option (Int) :=
  (F21_0 v3407).bind fun r3413 =>
  if r3413 = 0 then
    (F21_0 v3408).bind fun r3416 =>
    if r3416 = 0 then
      if v3407 ≤ v3408 then
        bind3 (F53_0 v3409 v3410) fun r3733 r3734 r3735 =>
        if r3735 = 0 then
          if v3407 = r3733 then
            if v3408 = r3734 then
              some 0
            else
              some 19
          else
            some 19
        else
          some r3735
      else
        some 9
    else
      some 2
  else
    some 2
noncomputable def S54l0_0 (v3764 : List WaterNode) (v3765 : List WaterConduit) (v3766 : List Range) (v3767 : List Range) (v3768 : List Int) (v3769 : List Int) (v3770 : List Int) (v3771 : List Int) (v3773 : List Range) : (Int × (List Range)) → Option ((Int × (List Range)) ⊕ ((List Range)))
  | (v3763, v3772) =>
    if (v3768.length : Int) ≤ v3763 then
      some (.inr v3772)
    else
      bind2 (geti v3768 v3763) fun j3774 x3775 =>
      bind2 (geti v3770 v3763) fun j3777 x3778 =>
      room ((v3772.length + 1) * 16) (
        some (.inl ((aw .i64 (v3763 + 1)), (v3772 ++ [(⟨(min x3775 x3778), (max x3775 x3778)⟩ : Range)])))
      )
noncomputable def L54l0_0 (v3764 : List WaterNode) (v3765 : List WaterConduit) (v3766 : List Range) (v3767 : List Range) (v3768 : List Int) (v3769 : List Int) (v3770 : List Int) (v3771 : List Int) (v3773 : List Range) (s : Int × (List Range)) : Option ((List Range)) := iter (S54l0_0 v3764 v3765 v3766 v3767 v3768 v3769 v3770 v3771 v3773) 1000000 s
noncomputable def S54l1_0 (v3787 : List WaterNode) (v3788 : List WaterConduit) (v3789 : List Range) (v3790 : List Range) (v3791 : List Int) (v3792 : List Int) (v3793 : List Int) (v3794 : List Int) (v3795 : List Range) : (Int × (List Range)) → Option ((Int × (List Range)) ⊕ ((List Range)))
  | (v3786, v3796) =>
    if (v3792.length : Int) ≤ v3786 then
      some (.inr v3796)
    else
      bind2 (geti v3792 v3786) fun j3797 x3798 =>
      bind2 (geti v3794 v3786) fun j3800 x3801 =>
      room ((v3796.length + 1) * 16) (
        some (.inl ((aw .i64 (v3786 + 1)), (v3796 ++ [(⟨(min x3798 x3801), (max x3798 x3801)⟩ : Range)])))
      )
noncomputable def L54l1_0 (v3787 : List WaterNode) (v3788 : List WaterConduit) (v3789 : List Range) (v3790 : List Range) (v3791 : List Int) (v3792 : List Int) (v3793 : List Int) (v3794 : List Int) (v3795 : List Range) (s : Int × (List Range)) : Option ((List Range)) := iter (S54l1_0 v3787 v3788 v3789 v3790 v3791 v3792 v3793 v3794 v3795) 1000000 s
-- guidevaneref02.Steady
noncomputable def F54_0 (v3751 : Int) (v3752 : Int) (v3753 : List WaterNode) (v3754 : List WaterConduit) : Option ((List Range) × (List Range)) :=
  bind2 (F114_0 v3751 v3753 v3754) fun r3757 r3758 =>
  bind2 (F114_0 v3752 v3753 v3754) fun r3761 r3762 =>
  (L54l0_0 v3753 v3754 ([] : List Range) ([] : List Range) r3757 r3758 r3761 r3762 ([] : List Range) (0, ([] : List Range))).bind fun r3785 =>
  (L54l1_0 v3753 v3754 ([] : List Range) ([] : List Range) r3757 r3758 r3761 r3762 r3785 (0, ([] : List Range))).bind fun r3808 =>
  some (r3785, r3808)
noncomputable def S111l0_0 (v3822 : List Range) (v3823 : List Range) : Int → Option ((Int) ⊕ ((Unit) ⊕ (Unit)))
  | v3821 =>
    if (v3822.length : Int) ≤ v3821 then
      some (.inr (.inl ()))
    else
      bind2 (geti v3822 v3821) fun j3824 x3825 =>
      bind2 (geti v3823 v3821) fun j3827 x3828 =>
      if x3825.fLo = x3828.fLo then
        if x3825.fHi = x3828.fHi then
          some (.inl (aw .i64 (v3821 + 1)))
        else
          some (.inr (.inr ()))
      else
        some (.inr (.inr ()))
noncomputable def L111l0_0 (v3822 : List Range) (v3823 : List Range) (s : Int) : Option ((Unit) ⊕ (Unit)) := iter (S111l0_0 v3822 v3823) 1000000 s
-- guidevanebase.Ranges
noncomputable def F111_0 (v3819 : List Range) (v3820 : List Range) : Option (Bool) :=
  if (v3819.length : Int) = (v3820.length : Int) then
    (L111l0_0 v3819 v3820 0).bind fun g3833_ => match g3833_ with
    | .inl () =>
      some true
    | .inr () =>
      some false
  else
    some false
-- guidevaneref02.SameSteady
noncomputable def F51_0 (v3815 : List Range) (v3816 : List Range) (v3817 : List Range) (v3818 : List Range) : Option (Bool) :=
  (F111_0 v3815 v3817).bind fun r3839 =>
  if r3839 = true then
    (F111_0 v3816 v3818).bind fun r3842 =>
    some r3842
  else
    some false
-- guidevanelaw02.WaterFlows
noncomputable def F8_0 (v3120 : Int) (v3121 : Int) (v3122 : List WaterNode) (v3123 : List WaterConduit) : Option (Bool) :=
  (F15_0 v3122 v3123).bind fun r3127 =>
  if r3127 = true then
    (F17_0 v3122 v3123).bind fun _ =>
    bind3 (F48_0 v3122 v3123) fun r3237 r3238 r3239 =>
    (F17_0 v3122 v3123).bind fun _ =>
    (F49_0 v3120 v3121 v3122 v3123).bind fun r3331 =>
    (F17_0 v3122 v3123).bind fun _ =>
    bind3 (F50_0 v3122 v3123) fun r3401 r3402 r3403 =>
    (F38_0 v3122 v3123).bind fun r3406 =>
    if r3406 = 0 then
      (F52_0 v3120 v3121 v3122 v3123).bind fun r3745 =>
      if r3331 = r3745 then
        bind3 (F53_0 v3122 v3123) fun r3748 r3749 r3750 =>
        if r3750 = 0 then
          if r3239 = 0 then
            if r3237 = r3748 then
              if r3238 = r3749 then
                if r3401 = 0 then
                  bind2 (F54_0 r3748 r3749 v3122 v3123) fun r3813 r3814 =>
                  (F51_0 r3402 r3403 r3813 r3814).bind fun r3847 =>
                  some r3847
                else
                  some false
              else
                some false
            else
              some false
          else
            some false
        else
        if r3239 = r3750 then
          if r3401 = r3750 then
            if r3237 = 0 then
              if r3238 = 0 then
                (F51_0 r3402 r3403 ([] : List Range) ([] : List Range)).bind fun r3854 =>
                some r3854
              else
                some false
            else
              some false
          else
            some false
        else
          some false
      else
        some false
    else
    if r3239 = r3406 then
      if r3331 = r3406 then
        if r3401 = r3406 then
          if r3237 = 0 then
            if r3238 = 0 then
              (F51_0 r3402 r3403 ([] : List Range) ([] : List Range)).bind fun r3863 =>
              some r3863
            else
              some false
          else
            some false
        else
          some false
      else
        some false
    else
      some false
  else
    some true
noncomputable def S10l0_0 (v3914 : List WaterNode) (v3915 : List WaterConduit) (v3916 : Int) (v3917 : Int) (v3918 : List Range) (v3919 : List Range) : Int → Option ((Int) ⊕ ((Unit) ⊕ (Unit)))
  | v3913 =>
    if (v3918.length : Int) ≤ v3913 then
      some (.inr (.inl ()))
    else
      bind2 (geti v3918 v3913) fun j3920 x3921 =>
      (F20_0 x3921.fLo (-1000000) 1000000).bind fun r3925 =>
      if r3925 = true then
        (F20_0 x3921.fHi x3921.fLo (aw .i64 (x3921.fLo + 1))).bind fun r3928 =>
        if r3928 = true then
          some (.inl (aw .i64 (v3913 + 1)))
        else
          some (.inr (.inr ()))
      else
        some (.inr (.inr ()))
noncomputable def L10l0_0 (v3914 : List WaterNode) (v3915 : List WaterConduit) (v3916 : Int) (v3917 : Int) (v3918 : List Range) (v3919 : List Range) (s : Int) : Option ((Unit) ⊕ (Unit)) := iter (S10l0_0 v3914 v3915 v3916 v3917 v3918 v3919) 1000000 s
-- guidevanelaw02.WaterTwoSigns
noncomputable def F10_0 (v3872 : Int) (v3873 : Int) (v3874 : List WaterNode) (v3875 : List WaterConduit) : Option (Bool) :=
  (F15_0 v3874 v3875).bind fun r3879 =>
  if r3879 = true then
    (F38_0 v3874 v3875).bind fun r3882 =>
    if r3882 = 0 then
      (F17_0 v3874 v3875).bind fun _ =>
      bind3 (F48_0 v3874 v3875) fun r3887 r3888 r3889 =>
      if r3889 = 0 then
        (F20_0 r3887 (-200000) 200000).bind fun r3892 =>
        if r3892 = true then
          (F20_0 r3888 r3887 (aw .i64 (r3887 + 1))).bind fun r3895 =>
          if r3895 = true then
            (F17_0 v3874 v3875).bind fun _ =>
            (F49_0 r3887 r3888 v3874 v3875).bind fun r3900 =>
            if r3900 = 0 then
              (F17_0 v3874 v3875).bind fun _ =>
              (F49_0 v3872 v3873 v3874 v3875).bind fun r3905 =>
              if ((decide (r3905 = 0)) == ((decide (v3872 = r3887)) && (decide (v3873 = r3888)))) = true then
                (F17_0 v3874 v3875).bind fun _ =>
                bind3 (F50_0 v3874 v3875) fun r3910 r3911 r3912 =>
                if r3910 = 0 then
                  if (r3911.length : Int) = (v3875.length : Int) then
                    if (r3912.length : Int) = (v3874.length : Int) then
                      (L10l0_0 v3874 v3875 r3887 r3888 r3911 r3912 0).bind fun g3932_ => match g3932_ with
                      | .inl () =>
                        (F17_0 v3874 v3875).bind fun _ =>
                        bind2 (F39_0 v3874 v3875) fun r3938 r3939 =>
                        if r3939 = 0 then
                          (F17_0 v3874 v3875).bind fun _ =>
                          bind2 (F42_0 r3887 v3874 v3875) fun r3944 r3945 =>
                          (F17_0 v3874 v3875).bind fun _ =>
                          bind2 (F42_0 r3888 v3874 v3875) fun r3950 r3951 =>
                          if r3945 = 0 then
                            if r3951 = 0 then
                              if r3944 ≤ 0 then
                                if 0 ≤ r3950 then
                                  if r3887 = r3888 then
                                    some true
                                  else
                                  if 0 ≤ r3944 then
                                    some false
                                  else
                                    some (!(decide (r3950 ≤ 0)))
                                else
                                  some false
                              else
                                some false
                            else
                              some false
                          else
                            some false
                        else
                        if r3939 = 12 then
                          some ((decide (r3887 = 0)) && (decide (r3888 = 0)))
                        else
                          some false
                      | .inr () =>
                        some false
                    else
                      some false
                  else
                    some false
                else
                  some false
              else
                some false
            else
              some false
          else
            some false
        else
          some false
      else
        some (decide (r3889 = 11))
    else
      some true
  else
    some true
-- water.openHead
noncomputable def F124_0 (v3985 : Int) (v3986 : Int) (v3987 : List WaterNode) (v3988 : List WaterConduit) : Option ((Int × Int × (List Branch)) ⊕ (Int)) :=
  (F106_0 v3987 v3988).bind fun g3989_ => match g3989_ with
  | .inl (r3991, r3992, r3993) =>
    (F88_0 v3985 v3987 v3988).bind fun r3996 =>
    (F74_0 v3986 0 1000000000).bind fun r3999 =>
    (F72_0 r3999 2).bind fun r4002 =>
    (F71_0 ([r3992, r3996, r4002] : List Int)).bind fun r4005 =>
    some (.inl (r3991, r4005, r3993))
  | .inr (r4006) =>
    (F88_0 v3985 ([] : List WaterNode) ([] : List WaterConduit)).bind fun r4009 =>
    (F74_0 v3986 0 1000000000).bind fun r4012 =>
    (F72_0 r4012 2).bind fun r4015 =>
    (F71_0 ([r4006, r4009, r4015] : List Int)).bind fun r4018 =>
    some (.inr (r4018))
-- water.answer
noncomputable def F125_0 (v4035 : Int) (v4036 : Int) (v4037 : Int) : Option (Int) :=
  if v4037 ≤ v4035 then
    some 2
  else
  if v4037 ≤ v4036 then
    some 1
  else
    some 0
-- water.HeadAnswer
noncomputable def F61_0 (v3981 : Int) (v3982 : Int) (v3983 : List WaterNode) (v3984 : List WaterConduit) : Option (Int × Int) :=
  (F124_0 v3981 v3982 v3983 v3984).bind fun g4023_ => match g4023_ with
  | .inl (r4025, r4026, r4027) =>
    if r4026 = 0 then
      bind2 (F110_0 r4025 v3983 v3984 r4027) fun r4030 r4031 =>
      bind2 (geti r4031 v3981) fun j4032 x4033 =>
      (F125_0 x4033.fLo x4033.fHi v3982).bind fun r4043 =>
      some (r4043, 0)
    else
      some (0, r4026)
  | .inr (r4045) =>
    if r4045 = 0 then
      bind2 (F110_0 0 ([] : List WaterNode) ([] : List WaterConduit) ([] : List Branch)) fun r4048 r4049 =>
      bind2 (geti r4049 v3981) fun j4050 x4051 =>
      (F125_0 x4051.fLo x4051.fHi v3982).bind fun r4055 =>
      some (r4055, 0)
    else
      some (0, r4045)
-- api.WaterNode]
noncomputable def F126_0 (v4086 : List WaterNode) : Option (Unit) :=
  if v4086.length = 0 then
    none
  else
    room (v4086.length * 40) (
      some ()
    )
noncomputable def S62l0_0 (v4091 : Int) (v4092 : Int) (v4094 : List WaterNode) (v4095 : List WaterConduit) (v4096 : Int) (v4098 : List Branch) (v4099 : ByteArray) (v4100 : Bool) (v4101 : Int) (v4102 : Int) : (Int × (List WaterNode)) → Option ((Int × (List WaterNode)) ⊕ ((Int) ⊕ (Unit)))
  | (v4093, v4097) =>
    if 0 ≤ v4093 then
      bind2 (geti v4097 v4091) fun j4103 x4104 =>
      bind2 (F110_0 v4096 (v4097.set j4103 ({ x4104 with fDraw := (aw .i64 (v4102 + v4093)) } : WaterNode)) v4095 v4098) fun r4108 r4109 =>
      bind2 (geti r4109 v4091) fun j4110 x4111 =>
      (F125_0 x4111.fLo x4111.fHi v4092).bind fun r4115 =>
      if r4115 = 2 then
        some (.inr (.inl (v4093)))
      else
        some (.inl ((aw .i64 (v4093 - 1)), (v4097.set j4103 ({ x4104 with fDraw := (aw .i64 (v4102 + v4093)) } : WaterNode))))
    else
      some (.inr (.inr ()))
noncomputable def L62l0_0 (v4091 : Int) (v4092 : Int) (v4094 : List WaterNode) (v4095 : List WaterConduit) (v4096 : Int) (v4098 : List Branch) (v4099 : ByteArray) (v4100 : Bool) (v4101 : Int) (v4102 : Int) (s : Int × (List WaterNode)) : Option ((Int) ⊕ (Unit)) := iter (S62l0_0 v4091 v4092 v4094 v4095 v4096 v4098 v4099 v4100 v4101 v4102) 1000000 s
noncomputable def S62l0_1 (v4167 : Int) (v4168 : Int) (v4170 : List WaterNode) (v4171 : List WaterConduit) (v4174 : List WaterConduit) (v4175 : List Branch) (v4176 : ByteArray) (v4177 : Bool) (v4178 : Int) (v4179 : Int) : (Int × (List WaterNode)) → Option ((Int × (List WaterNode)) ⊕ ((Int) ⊕ (Unit)))
  | (v4169, v4173) =>
    if 0 ≤ v4169 then
      bind2 (geti v4173 v4167) fun j4180 x4181 =>
      bind2 (F110_0 0 (v4173.set j4180 ({ x4181 with fDraw := (aw .i64 (v4179 + v4169)) } : WaterNode)) v4174 v4175) fun r4185 r4186 =>
      bind2 (geti r4186 v4167) fun j4187 x4188 =>
      (F125_0 x4188.fLo x4188.fHi v4168).bind fun r4192 =>
      if r4192 = 2 then
        some (.inr (.inl (v4169)))
      else
        some (.inl ((aw .i64 (v4169 - 1)), (v4173.set j4180 ({ x4181 with fDraw := (aw .i64 (v4179 + v4169)) } : WaterNode))))
    else
      some (.inr (.inr ()))
noncomputable def L62l0_1 (v4167 : Int) (v4168 : Int) (v4170 : List WaterNode) (v4171 : List WaterConduit) (v4174 : List WaterConduit) (v4175 : List Branch) (v4176 : ByteArray) (v4177 : Bool) (v4178 : Int) (v4179 : Int) (s : Int × (List WaterNode)) : Option ((Int) ⊕ (Unit)) := iter (S62l0_1 v4167 v4168 v4170 v4171 v4174 v4175 v4176 v4177 v4178 v4179) 1000000 s
-- water.MostDraw
noncomputable def F62_0 (v4065 : Int) (v4066 : Int) (v4067 : List WaterNode) (v4068 : List WaterConduit) : Option (Int × Int) :=
  (F124_0 v4065 v4066 v4067 v4068).bind fun g4069_ => match g4069_ with
  | .inl (r4071, r4072, r4073) =>
    if r4072 = 0 then
      bind2 (geti v4067 v4065) fun j4074 x4075 =>
      (F72_0 (!x4075.fLake) 15).bind fun r4079 =>
      (F72_0 (decide (x4075.fDraw ≤ 9900)) 2).bind fun r4082 =>
      (F71_0 ([r4079, r4082] : List Int)).bind fun r4085 =>
      if r4085 = 0 then
        (F126_0 v4067).bind fun _ =>
        (L62l0_0 v4065 v4066 v4067 v4068 r4071 r4073 x4075.fName x4075.fLake x4075.fHead x4075.fDraw (100, v4067)).bind fun g4119_ => match g4119_ with
        | .inl (r4121) =>
          some (r4121, 0)
        | .inr () =>
          some (0, 12)
      else
        some (0, r4085)
    else
      some (0, r4072)
  | .inr (r4124) =>
    if r4124 = 0 then
      bind2 (geti ([] : List WaterNode) v4065) fun j4125 x4126 =>
      (F72_0 (!x4126.fLake) 15).bind fun r4130 =>
      (F72_0 (decide (x4126.fDraw ≤ 9900)) 2).bind fun r4133 =>
      (F71_0 ([r4130, r4133] : List Int)).bind fun r4136 =>
      if r4136 = 0 then
        (F126_0 ([] : List WaterNode)).bind fun _ =>
        (L62l0_1 v4065 v4066 v4067 v4068 ([] : List WaterConduit) ([] : List Branch) x4126.fName x4126.fLake x4126.fHead x4126.fDraw (100, ([] : List WaterNode))).bind fun g4196_ => match g4196_ with
        | .inl (r4198) =>
          some (r4198, 0)
        | .inr () =>
          some (0, 12)
      else
        some (0, r4136)
    else
      some (0, r4124)
-- guidevaneref02.HeadErr
noncomputable def F63_0 (v4207 : Int) (v4208 : Int) (v4209 : List WaterNode) (v4210 : List WaterConduit) : Option (Int) :=
  (F38_0 v4209 v4210).bind fun r4213 =>
  if r4213 = 0 then
    bind3 (F53_0 v4209 v4210) fun r4216 r4217 r4218 =>
    if r4218 = 0 then
      (F33_0 v4207 v4209 v4210).bind fun r4221 =>
      if r4221 = 0 then
        (F20_0 v4208 0 1000000000).bind fun r4224 =>
        if r4224 = true then
          some 0
        else
          some 2
      else
        some r4221
    else
      some r4218
  else
    some r4213
-- guidevaneref02.Answer
noncomputable def F65_0 (v4250 : Int) (v4251 : Int) (v4252 : List WaterNode) (v4253 : List WaterConduit) : Option (Int) :=
  bind3 (F53_0 v4252 v4253) fun r4256 r4257 r4258 =>
  bind2 (F54_0 r4256 r4257 v4252 v4253) fun r4261 r4262 =>
  bind2 (geti r4262 v4250) fun j4263 x4264 =>
  if v4251 ≤ x4264.fLo then
    some 2
  else
  if v4251 ≤ x4264.fHi then
    some 1
  else
    some 0
noncomputable def S64l0_0 (v4240 : Int) (v4241 : Int) (v4243 : List WaterNode) (v4244 : List WaterConduit) : Int → Option ((Int) ⊕ ((Int) ⊕ (Unit)))
  | v4242 =>
    if 0 ≤ v4242 then
      (F17_0 v4243 v4244).bind fun _ =>
      bind2 (geti v4243 v4240) fun j4247 x4248 =>
      (F65_0 v4240 v4241 (v4243.set j4247 ({ x4248 with fDraw := (aw .i64 (x4248.fDraw + v4242)) } : WaterNode)) v4244).bind fun r4271 =>
      if r4271 = 2 then
        some (.inr (.inl (v4242)))
      else
        some (.inl (aw .i64 (v4242 - 1)))
    else
      some (.inr (.inr ()))
noncomputable def L64l0_0 (v4240 : Int) (v4241 : Int) (v4243 : List WaterNode) (v4244 : List WaterConduit) (s : Int) : Option ((Int) ⊕ (Unit)) := iter (S64l0_0 v4240 v4241 v4243 v4244) 1000000 s
-- guidevaneref02.Most
noncomputable def F64_0 (v4233 : Int) (v4234 : Int) (v4235 : List WaterNode) (v4236 : List WaterConduit) : Option (Int × Int) :=
  bind2 (geti v4235 v4233) fun j4237 x4238 =>
  if x4238.fLake = true then
    some (0, 15)
  else
  if x4238.fDraw ≤ 9900 then
    (L64l0_0 v4233 v4234 v4235 v4236 100).bind fun g4275_ => match g4275_ with
    | .inl (r4277) =>
      some (r4277, 0)
    | .inr () =>
      some (0, 12)
  else
    some (0, 2)
-- guidevanelaw02.WaterHeads
noncomputable def F11_0 (v3971 : Int) (v3972 : Int) (v3973 : List WaterNode) (v3974 : List WaterConduit) : Option (Bool) :=
  (F15_0 v3973 v3974).bind fun r3978 =>
  if r3978 = true then
    (F17_0 v3973 v3974).bind fun _ =>
    bind2 (F61_0 v3971 v3972 v3973 v3974) fun r4061 r4062 =>
    (F17_0 v3973 v3974).bind fun _ =>
    bind2 (F62_0 v3971 v3972 v3973 v3974) fun r4205 r4206 =>
    (F63_0 v3971 v3972 v3973 v3974).bind fun r4232 =>
    if r4232 = 0 then
      bind2 (F64_0 v3971 v3972 v3973 v3974) fun r4284 r4285 =>
      if r4062 = 0 then
        (F65_0 v3971 v3972 v3973 v3974).bind fun r4288 =>
        if r4061 = r4288 then
          if r4206 = r4285 then
            some (decide (r4205 = r4284))
          else
            some false
        else
          some false
      else
        some false
    else
    if r4062 = r4232 then
      if r4206 = r4232 then
        if r4061 = 0 then
          some (decide (r4205 = 0))
        else
          some false
      else
        some false
    else
      some false
  else
    some true
noncomputable def S12l0_0 (v4340 : Int) (v4341 : Int) (v4343 : List WaterNode) (v4344 : List WaterConduit) (v4345 : List Range) (v4346 : List Range) (v4347 : List WaterNode) (v4348 : List WaterConduit) (v4349 : List Range) (v4350 : List Range) : Int → Option ((Int) ⊕ ((Unit) ⊕ (Unit)))
  | v4342 =>
    if (v4346.length : Int) ≤ v4342 then
      some (.inr (.inl ()))
    else
      bind2 (geti v4346 v4342) fun j4351 x4352 =>
      if x4352.fLo ≤ x4352.fHi then
        bind2 (geti v4350 v4342) fun j4354 x4355 =>
        if x4355.fLo ≤ x4355.fHi then
          if x4355.fLo ≤ x4352.fHi then
            some (.inl (aw .i64 (v4342 + 1)))
          else
            some (.inr (.inr ()))
        else
          some (.inr (.inr ()))
      else
        some (.inr (.inr ()))
noncomputable def L12l0_0 (v4340 : Int) (v4341 : Int) (v4343 : List WaterNode) (v4344 : List WaterConduit) (v4345 : List Range) (v4346 : List Range) (v4347 : List WaterNode) (v4348 : List WaterConduit) (v4349 : List Range) (v4350 : List Range) (s : Int) : Option ((Unit) ⊕ (Unit)) := iter (S12l0_0 v4340 v4341 v4343 v4344 v4345 v4346 v4347 v4348 v4349 v4350) 1000000 s
-- guidevanelaw02.WaterDrawn
noncomputable def F12_0 (v4298 : Int) (v4299 : Int) (v4300 : Int) (v4301 : List WaterNode) (v4302 : List WaterConduit) : Option (Bool) :=
  (F15_0 v4301 v4302).bind fun r4308 =>
  if r4308 = true then
    (F38_0 v4301 v4302).bind fun r4311 =>
    if r4311 = 0 then
      (F33_0 v4298 v4301 v4302).bind fun r4314 =>
      if r4314 = 0 then
        bind2 (geti v4301 v4298) fun j4315 x4316 =>
        if x4316.fLake = true then
          some true
        else
          (F20_0 v4300 0 1000).bind fun r4320 =>
          if r4320 = true then
            if x4316.fDraw ≤ 9000 then
              (F20_0 v4299 0 1000000000).bind fun r4323 =>
              if r4323 = true then
                (F17_0 v4301 v4302).bind fun _ =>
                bind3 (F50_0 v4301 v4302) fun r4328 r4329 r4330 =>
                (F17_0 v4301 v4302).bind fun _ =>
                (F17_0 (v4301.set j4315 ({ x4316 with fDraw := (aw .i64 (x4316.fDraw + v4300)) } : WaterNode)) v4302).bind fun _ =>
                bind3 (F50_0 (v4301.set j4315 ({ x4316 with fDraw := (aw .i64 (x4316.fDraw + v4300)) } : WaterNode)) v4302) fun r4337 r4338 r4339 =>
                if r4328 = r4337 then
                  if r4328 = 0 then
                    if (r4330.length : Int) = (v4301.length : Int) then
                      if (r4339.length : Int) = (v4301.length : Int) then
                        (L12l0_0 v4298 v4299 v4301 v4302 r4329 r4330 (v4301.set j4315 ({ x4316 with fDraw := (aw .i64 (x4316.fDraw + v4300)) } : WaterNode)) v4302 r4338 r4339 0).bind fun g4361_ => match g4361_ with
                        | .inl () =>
                          (F17_0 v4301 v4302).bind fun _ =>
                          bind2 (F62_0 v4298 v4299 v4301 v4302) fun r4367 r4368 =>
                          if r4368 = 0 then
                            (F20_0 r4367 0 100).bind fun r4371 =>
                            if r4371 = true then
                              ((v4301.set j4315 ({ x4316 with fDraw := (aw .i64 (x4316.fDraw + v4300)) } : WaterNode))[j4315]?).bind fun x4372 =>
                              (F17_0 ((v4301.set j4315 ({ x4316 with fDraw := (aw .i64 (x4316.fDraw + v4300)) } : WaterNode)).set j4315 ({ x4372 with fDraw := (aw .i64 (x4316.fDraw + r4367)) } : WaterNode)) v4302).bind fun _ =>
                              bind2 (F61_0 v4298 v4299 ((v4301.set j4315 ({ x4316 with fDraw := (aw .i64 (x4316.fDraw + v4300)) } : WaterNode)).set j4315 ({ x4372 with fDraw := (aw .i64 (x4316.fDraw + r4367)) } : WaterNode)) v4302) fun r4378 r4379 =>
                              if r4379 = 0 then
                                if r4378 = 2 then
                                  if r4367 = 100 then
                                    some true
                                  else
                                    (((v4301.set j4315 ({ x4316 with fDraw := (aw .i64 (x4316.fDraw + v4300)) } : WaterNode)).set j4315 ({ x4372 with fDraw := (aw .i64 (x4316.fDraw + r4367)) } : WaterNode))[j4315]?).bind fun x4380 =>
                                    bind2 (F61_0 v4298 v4299 (((v4301.set j4315 ({ x4316 with fDraw := (aw .i64 (x4316.fDraw + v4300)) } : WaterNode)).set j4315 ({ x4372 with fDraw := (aw .i64 (x4316.fDraw + r4367)) } : WaterNode)).set j4315 ({ x4380 with fDraw := (aw .i64 ((aw .i64 (x4316.fDraw + r4367)) + 1)) } : WaterNode)) v4302) fun r4384 r4385 =>
                                    if r4385 = 0 then
                                      some (!(decide (r4384 = 2)))
                                    else
                                      some false
                                else
                                  some false
                              else
                                some false
                            else
                              some false
                          else
                            some (decide (r4368 = 12))
                        | .inr () =>
                          some false
                      else
                        some false
                    else
                      some false
                  else
                    some (decide (r4328 = 11))
                else
                  some false
              else
                some true
            else
              some true
          else
            some true
      else
        some true
    else
      some true
  else
    some true
-- guidevaneref02.WayErr
noncomputable def F58_0 (v4416 : Int) (v4417 : Int) (v4418 : List WaterNode) (v4419 : List WaterConduit) : Option (Int) :=
  (F33_0 v4416 v4418 v4419).bind fun r4422 =>
  if r4422 = 0 then
    (F33_0 v4417 v4418 v4419).bind fun r4425 =>
    if r4425 = 0 then
      if v4416 = v4417 then
        some 13
      else
        some 0
    else
      some 6
  else
    some 6
-- water.openWay
noncomputable def F115_0 (v4439 : Int) (v4440 : Int) (v4441 : List WaterNode) (v4442 : List WaterConduit) : Option (Int) :=
  (F87_0 v4441 v4442).bind fun r4445 =>
  (F88_0 v4439 v4441 v4442).bind fun r4448 =>
  (F88_0 v4440 v4441 v4442).bind fun r4451 =>
  (F72_0 (!(decide (v4439 = v4440))) 13).bind fun r4454 =>
  (F71_0 ([r4445, r4448, r4451, r4454] : List Int)).bind fun r4457 =>
  some r4457
noncomputable def S116l0_0 (v4466 : Int) (v4468 : List WaterNode) (v4469 : List WaterConduit) (v4470 : Int) (v4471 : Int) : (Int × (List Int)) → Option ((Int × (List Int)) ⊕ ((List Int)))
  | (v4467, v4472) =>
    if v4466 ≤ v4467 then
      some (.inr v4472)
    else
      bind2 (geti v4469 v4467) fun j4473 x4474 =>
      if x4474.fValve = true then
        if x4474.fOpen = true then
          room ((v4472.length + 1) * 8) (
            some (.inl ((aw .i64 (v4467 + 1)), (v4472 ++ [v4467])))
          )
        else
          some (.inl ((aw .i64 (v4467 + 1)), v4472))
      else
        some (.inl ((aw .i64 (v4467 + 1)), v4472))
noncomputable def L116l0_0 (v4466 : Int) (v4468 : List WaterNode) (v4469 : List WaterConduit) (v4470 : Int) (v4471 : Int) (s : Int × (List Int)) : Option ((List Int)) := iter (S116l0_0 v4466 v4468 v4469 v4470 v4471) 1000000 s
noncomputable def S90l0_1 (v4511 : Int) (v4513 : List WaterNode) (v4514 : List WaterConduit) (v4515 : List Int) : (Int × (List Bool)) → Option ((Int × (List Bool)) ⊕ ((List Bool)))
  | (v4512, v4516) =>
    if v4511 ≤ v4512 then
      some (.inr v4516)
    else
      bind2 (geti v4515 v4512) fun j4517 x4518 =>
      bind2 (geti v4516 x4518) fun j4520 x4521 =>
      some (.inl ((aw .i64 (v4512 + 1)), (v4516.set j4520 true)))
noncomputable def L90l0_1 (v4511 : Int) (v4513 : List WaterNode) (v4514 : List WaterConduit) (v4515 : List Int) (s : Int × (List Bool)) : Option ((List Bool)) := iter (S90l0_1 v4511 v4513 v4514 v4515) 1000000 s
noncomputable def S156l0_0 (v4555 : Int) : Unit → Option ((Unit) ⊕ (Unit))
  | _ =>
    some (.inr ())
noncomputable def L156l0_0 (v4555 : Int) (s : Unit) : Option (Unit) := iter (S156l0_0 v4555) 1000000 s
-- slices.Index[[]int,int]
noncomputable def F156_0 (v4550 : Int) : Option (Unit) :=
  (L156l0_0 v4550 ()).bind fun _ =>
  some ()
-- slices.Contains[[]int,int]
noncomputable def F147_0 (v4549 : Int) : Option (Bool) :=
  (F156_0 v4549).bind fun _ =>
  some (decide (0 ≤ (-1)))
-- water.net).cut$1$1
noncomputable def F146_0 (v4543 : Int) (v4544 : List WaterNode) (v4545 : List WaterConduit) : Option (Bool) :=
  (F91_0 v4543 v4544 v4545).bind fun r4548 =>
  if r4548 = true then
    (F147_0 v4543).bind fun r4566 =>
    some (!r4566)
  else
    some false
noncomputable def S90l1_1 (v4534 : Int) (v4536 : List WaterNode) (v4537 : List WaterConduit) (v4538 : List Int) : (Bool × Int × (List Bool)) → Option ((Bool × Int × (List Bool)) ⊕ (Bool × (List Bool)))
  | (v4533, v4535, v4539) =>
    if v4534 ≤ v4535 then
      some (.inr (v4533, v4539))
    else
      bind2 (geti v4537 v4535) fun j4540 x4541 =>
      (F146_0 v4535 v4536 v4537).bind fun r4571 =>
      if r4571 = true then
        bind2 (geti v4539 x4541.fFrom) fun j4572 x4573 =>
        bind2 (geti v4539 x4541.fTo) fun j4575 x4576 =>
        if (x4573 == x4576) = true then
          some (.inl (v4533, (aw .i64 (v4535 + 1)), v4539))
        else
          ((v4539.set j4572 true)[j4575]?).bind fun x4578 =>
          some (.inl (true, (aw .i64 (v4535 + 1)), ((v4539.set j4572 true).set j4575 true)))
      else
        some (.inl (v4533, (aw .i64 (v4535 + 1)), v4539))
noncomputable def L90l1_1 (v4534 : Int) (v4536 : List WaterNode) (v4537 : List WaterConduit) (v4538 : List Int) (s : Bool × Int × (List Bool)) : Option (Bool × (List Bool)) := iter (S90l1_1 v4534 v4536 v4537 v4538) 1000000 s
noncomputable def S90l2_1 (v4529 : List WaterNode) (v4530 : List WaterConduit) (v4531 : List Int) : (Bool × (List Bool)) → Option ((Bool × (List Bool)) ⊕ ((List Bool)))
  | (v4528, v4532) =>
    if v4528 = true then
      bind2 (L90l1_1 (v4530.length : Int) v4529 v4530 v4531 (false, 0, v4532)) fun r4587 r4588 =>
      some (.inl (r4587, r4588))
    else
      some (.inr v4532)
noncomputable def L90l2_1 (v4529 : List WaterNode) (v4530 : List WaterConduit) (v4531 : List Int) (s : Bool × (List Bool)) : Option ((List Bool)) := iter (S90l2_1 v4529 v4530 v4531) 1000000 s
-- water.net).reached
noncomputable def F90_1 (v4505 : List WaterNode) (v4506 : List WaterConduit) (v4507 : List Int) : Option ((List Bool)) :=
  (inx (v4505.length : Int) 140737488355329).bind fun n4508 =>
  room (n4508) (
    (L90l0_1 (v4507.length : Int) v4505 v4506 v4507 (0, (List.replicate n4508 false))).bind fun r4527 =>
    (L90l2_1 v4505 v4506 v4507 (true, r4527)).bind fun r4593 =>
    some r4593
  )
-- water.net).joins
noncomputable def F145_0 (v4501 : Int) (v4502 : Int) (v4503 : List WaterNode) (v4504 : List WaterConduit) : Option (Bool) :=
  (F90_1 v4503 v4504 ([v4501] : List Int)).bind fun r4597 =>
  bind2 (geti r4597 v4502) fun j4598 x4599 =>
  some x4599
-- water.net).cut$1
noncomputable def F144_0 (v4497 : List WaterNode) (v4498 : List WaterConduit) (v4499 : Int) (v4500 : Int) : Option (Bool) :=
  (F145_0 v4499 v4500 v4497 v4498).bind fun r4604 =>
  some (!r4604)
-- slices.Clip[[]int,int]
noncomputable def F157_0 : Option (Unit) :=
  some ()
noncomputable def S90l0_2 (v4653 : Int) (v4655 : List WaterNode) (v4656 : List WaterConduit) (v4657 : List Int) (v4658 : List Int) : (Int × (List Bool)) → Option ((Int × (List Bool)) ⊕ ((List Bool)))
  | (v4654, v4659) =>
    if v4653 ≤ v4654 then
      some (.inr v4659)
    else
      bind2 (geti v4657 v4654) fun j4660 x4661 =>
      bind2 (geti v4659 x4661) fun j4663 x4664 =>
      some (.inl ((aw .i64 (v4654 + 1)), (v4659.set j4663 true)))
noncomputable def L90l0_2 (v4653 : Int) (v4655 : List WaterNode) (v4656 : List WaterConduit) (v4657 : List Int) (v4658 : List Int) (s : Int × (List Bool)) : Option ((List Bool)) := iter (S90l0_2 v4653 v4655 v4656 v4657 v4658) 1000000 s
noncomputable def S156l0_1 (v4699 : Int) (v4700 : Int) (v4702 : List Int) : Int → Option ((Int) ⊕ ((Unit) ⊕ (Int)))
  | v4701 =>
    if v4700 ≤ v4701 then
      some (.inr (.inl ()))
    else
      bind2 (geti v4702 v4701) fun j4703 x4704 =>
      if v4699 = x4704 then
        some (.inr (.inr (v4701)))
      else
        some (.inl (aw .i64 (v4701 + 1)))
noncomputable def L156l0_1 (v4699 : Int) (v4700 : Int) (v4702 : List Int) (s : Int) : Option ((Unit) ⊕ (Int)) := iter (S156l0_1 v4699 v4700 v4702) 1000000 s
-- slices.Index[[]int,int]
noncomputable def F156_1 (v4697 : Int) (v4698 : List Int) : Option (Int) :=
  (L156l0_1 v4697 (v4698.length : Int) v4698 0).bind fun g4709_ => match g4709_ with
  | .inl () =>
    some (-1)
  | .inr (r4711) =>
    some r4711
-- slices.Contains[[]int,int]
noncomputable def F147_1 (v4695 : Int) (v4696 : List Int) : Option (Bool) :=
  (F156_1 v4695 v4696).bind fun r4715 =>
  some (decide (0 ≤ r4715))
-- water.net).cut$1$1
noncomputable def F146_1 (v4688 : Int) (v4689 : List WaterNode) (v4690 : List WaterConduit) (v4691 : List Int) : Option (Bool) :=
  (F91_0 v4688 v4689 v4690).bind fun r4694 =>
  if r4694 = true then
    (F147_1 v4688 v4691).bind fun r4719 =>
    some (!r4719)
  else
    some false
noncomputable def S90l1_2 (v4678 : Int) (v4680 : List WaterNode) (v4681 : List WaterConduit) (v4682 : List Int) (v4683 : List Int) : (Bool × Int × (List Bool)) → Option ((Bool × Int × (List Bool)) ⊕ (Bool × (List Bool)))
  | (v4677, v4679, v4684) =>
    if v4678 ≤ v4679 then
      some (.inr (v4677, v4684))
    else
      bind2 (geti v4681 v4679) fun j4685 x4686 =>
      (F146_1 v4679 v4680 v4681 v4683).bind fun r4724 =>
      if r4724 = true then
        bind2 (geti v4684 x4686.fFrom) fun j4725 x4726 =>
        bind2 (geti v4684 x4686.fTo) fun j4728 x4729 =>
        if (x4726 == x4729) = true then
          some (.inl (v4677, (aw .i64 (v4679 + 1)), v4684))
        else
          ((v4684.set j4725 true)[j4728]?).bind fun x4731 =>
          some (.inl (true, (aw .i64 (v4679 + 1)), ((v4684.set j4725 true).set j4728 true)))
      else
        some (.inl (v4677, (aw .i64 (v4679 + 1)), v4684))
noncomputable def L90l1_2 (v4678 : Int) (v4680 : List WaterNode) (v4681 : List WaterConduit) (v4682 : List Int) (v4683 : List Int) (s : Bool × Int × (List Bool)) : Option (Bool × (List Bool)) := iter (S90l1_2 v4678 v4680 v4681 v4682 v4683) 1000000 s
noncomputable def S90l2_2 (v4672 : List WaterNode) (v4673 : List WaterConduit) (v4674 : List Int) (v4675 : List Int) : (Bool × (List Bool)) → Option ((Bool × (List Bool)) ⊕ ((List Bool)))
  | (v4671, v4676) =>
    if v4671 = true then
      bind2 (L90l1_2 (v4673.length : Int) v4672 v4673 v4674 v4675 (false, 0, v4676)) fun r4740 r4741 =>
      some (.inl (r4740, r4741))
    else
      some (.inr v4676)
noncomputable def L90l2_2 (v4672 : List WaterNode) (v4673 : List WaterConduit) (v4674 : List Int) (v4675 : List Int) (s : Bool × (List Bool)) : Option ((List Bool)) := iter (S90l2_2 v4672 v4673 v4674 v4675) 1000000 s
-- water.net).reached
noncomputable def F90_2 (v4646 : List WaterNode) (v4647 : List WaterConduit) (v4648 : List Int) (v4649 : List Int) : Option ((List Bool)) :=
  (inx (v4646.length : Int) 140737488355329).bind fun n4650 =>
  room (n4650) (
    (L90l0_2 (v4648.length : Int) v4646 v4647 v4648 v4649 (0, (List.replicate n4650 false))).bind fun r4670 =>
    (L90l2_2 v4646 v4647 v4648 v4649 (true, r4670)).bind fun r4746 =>
    some r4746
  )
-- water.net).joins
noncomputable def F145_1 (v4641 : Int) (v4642 : Int) (v4643 : List WaterNode) (v4644 : List WaterConduit) (v4645 : List Int) : Option (Bool) :=
  (F90_2 v4643 v4644 ([v4641] : List Int) v4645).bind fun r4750 =>
  bind2 (geti r4750 v4642) fun j4751 x4752 =>
  some x4752
-- water.net).cut$1
noncomputable def F144_1 (v4636 : List Int) (v4637 : List WaterNode) (v4638 : List WaterConduit) (v4639 : Int) (v4640 : Int) : Option (Bool) :=
  (F145_1 v4639 v4640 v4637 v4638 v4636).bind fun r4757 =>
  some (!r4757)
-- slices.Clip[[]int,int]
noncomputable def F157_1 (v4781 : List Int) : Option (Unit) :=
  some ()
end Go.AI
