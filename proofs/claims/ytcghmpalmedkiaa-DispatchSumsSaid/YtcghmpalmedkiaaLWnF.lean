/-
  What the functions compute.
-/
import Derived.Test.YtcghmpalmedkiaaLWnTy
set_option linter.unusedVariables false
set_option linter.unusedSimpArgs false
set_option maxRecDepth 100000
set_option maxHeartbeats 4000000
namespace Go.AI
-- guidevanelaw08.some
noncomputable def F8_0 (v18 : List Int) : Option (Unit) :=
  room (v18.length * 8) (
    some ()
  )
-- dispatch.within
noncomputable def F27_0 (v28 : Int) (v29 : Int) (v30 : Int) : Option (Bool) :=
  if v29 ≤ v28 then
    some (decide (v28 ≤ v30))
  else
    some false
-- dispatch.isSized
noncomputable def F47_0 (v26 : Int) (v27 : Int) : Option (Bool) :=
  (F27_0 v26 (aw .i64 (0 - v27)) v27).bind fun r35 =>
  some r35
-- dispatch.isPower
noncomputable def F26_0 (v25 : Int) : Option (Bool) :=
  (F47_0 v25 1000000).bind fun r39 =>
  some r39
-- dispatch.unless
noncomputable def F25_0 (v48 : Bool) (v49 : Int) : Option (Int) :=
  if v48 = true then
    some 0
  else
    some v49
-- dispatch.powersErr$1
noncomputable def F49_0 (v65 : Int) : Option (Bool) :=
  (F26_0 v65).bind fun r68 =>
  some (!r68)
noncomputable def S62l0_0 (v58 : Int) (v60 : List Int) : Int → Option ((Int) ⊕ ((Unit) ⊕ (Int)))
  | v59 =>
    if v58 ≤ v59 then
      some (.inr (.inl ()))
    else
      bind2 (geti v60 v59) fun j62 x63 =>
      (F49_0 x63).bind fun r72 =>
      if r72 = true then
        some (.inr (.inr (v59)))
      else
        some (.inl (aw .i64 (v59 + 1)))
noncomputable def L62l0_0 (v58 : Int) (v60 : List Int) (s : Int) : Option ((Unit) ⊕ (Int)) := iter (S62l0_0 v58 v60) 1000000 s
-- slices.IndexFunc[[]int,int]
noncomputable def F62_0 (v57 : List Int) : Option (Int) :=
  (L62l0_0 (v57.length : Int) v57 0).bind fun g75_ => match g75_ with
  | .inl () =>
    some (-1)
  | .inr (r77) =>
    some r77
-- slices.ContainsFunc[[]int,int]
noncomputable def F48_0 (v56 : List Int) : Option (Bool) :=
  (F62_0 v56).bind fun r81 =>
  some (decide (0 ≤ r81))
noncomputable def S24l0_0 (v93 : Int) (v95 : List Int) : Int → Option ((Int) ⊕ ((Unit) ⊕ (Int)))
  | v94 =>
    if v93 ≤ v94 then
      some (.inr (.inl ()))
    else
      bind2 (geti v95 v94) fun j97 x98 =>
      if x98 = 0 then
        some (.inl (aw .i64 (v94 + 1)))
      else
        some (.inr (.inr (x98)))
noncomputable def L24l0_0 (v93 : Int) (v95 : List Int) (s : Int) : Option ((Unit) ⊕ (Int)) := iter (S24l0_0 v93 v95) 1000000 s
-- dispatch.first
noncomputable def F24_0 (v92 : List Int) : Option (Int) :=
  (L24l0_0 (v92.length : Int) v92 0).bind fun g102_ => match g102_ with
  | .inl () =>
    some 0
  | .inr (r104) =>
    some r104
-- dispatch.powersErr
noncomputable def F28_0 (v55 : List Int) : Option (Int) :=
  (F48_0 v55).bind fun r85 =>
  (F25_0 (decide ((v55.length : Int) ≤ 300)) 8).bind fun r88 =>
  (F25_0 (!r85) 2).bind fun r91 =>
  (F24_0 ([r88, r91] : List Int)).bind fun r108 =>
  some r108
noncomputable def S7l0_0 (v118 : Int) (v119 : Int) (v121 : List Int) : (Int × Int × (List Int)) → Option ((Int × Int × (List Int)) ⊕ ((List Int)))
  | (v117, v120, v122) =>
    if v119 ≤ v120 then
      some (.inr v122)
    else
      bind2 (geti v121 v120) fun j124 x125 =>
      room ((v122.length + 1) * 8) (
        some (.inl ((min (max x125 (aw .i64 (v117 - v118))) (aw .i64 (v117 + v118))), (aw .i64 (v120 + 1)), (v122 ++ [(min (max x125 (aw .i64 (v117 - v118))) (aw .i64 (v117 + v118)))])))
      )
noncomputable def L7l0_0 (v118 : Int) (v119 : Int) (v121 : List Int) (s : Int × Int × (List Int)) : Option ((List Int)) := iter (S7l0_0 v118 v119 v121) 1000000 s
-- dispatch.Followed
noncomputable def F7_0 (v22 : Int) (v23 : Int) (v24 : List Int) : Option (Int × (List Int)) :=
  (F26_0 v22).bind fun r43 =>
  if r43 = true then
    (F27_0 v23 0 1000000).bind fun r47 =>
    (F25_0 r47 2).bind fun r54 =>
    (F28_0 v24).bind fun r112 =>
    (F24_0 ([r54, r112] : List Int)).bind fun r115 =>
    if r115 = 0 then
      (L7l0_0 v23 (v24.length : Int) v24 (v22, 0, ([] : List Int))).bind fun r131 =>
      some (0, r131)
    else
      some (r115, ([] : List Int))
  else
    (F25_0 false 2).bind fun r134 =>
    (F28_0 v24).bind fun r137 =>
    (F24_0 ([r134, r137] : List Int)).bind fun r140 =>
    if r140 = 0 then
      (L7l0_0 v23 (v24.length : Int) v24 (v22, 0, ([] : List Int))).bind fun r144 =>
      some (0, r144)
    else
      some (r140, ([] : List Int))
-- dispatch.size
noncomputable def F29_0 (v189 : Int) : Option (Int) :=
  some (max v189 (aw .i64 (0 - v189)))
noncomputable def S9l0_0 (v249 : Int) (v251 : List Int) (v252 : List Int) : (Int × Int × Int × Int) → Option ((Int × Int × Int × Int) ⊕ (Int × Int × Int))
  | (v250, v256, v257, v258) =>
    if v249 ≤ v250 then
      some (.inr (v256, v257, v258))
    else
      bind2 (geti v251 v250) fun j260 x261 =>
      bind2 (geti v252 v250) fun j263 x264 =>
      if x261 ≤ 0 then
        if 0 ≤ x261 then
          (F29_0 x261).bind fun r270 =>
          (F29_0 x264).bind fun r273 =>
          some (.inl ((aw .i64 (v250 + 1)), (aw .i64 (v256 + 0)), (aw .i64 (v257 + (aw .i64 (r270 - 0)))), (aw .i64 (v258 + (aw .i64 (r273 - 0))))))
        else
        if 0 ≤ x264 then
          (F29_0 x261).bind fun r277 =>
          (F29_0 x264).bind fun r280 =>
          some (.inl ((aw .i64 (v250 + 1)), (aw .i64 (v256 + 0)), (aw .i64 (v257 + (aw .i64 (r277 - 0)))), (aw .i64 (v258 + (aw .i64 (r280 - 0))))))
        else
          (F29_0 x261).bind fun r283 =>
          (F29_0 x264).bind fun r286 =>
          some (.inl ((aw .i64 (v250 + 1)), (aw .i64 (v256 + (min r283 r286))), (aw .i64 (v257 + (aw .i64 (r283 - (min r283 r286))))), (aw .i64 (v258 + (aw .i64 (r286 - (min r283 r286)))))))
      else
      if x264 ≤ 0 then
        if 0 ≤ x261 then
          (F29_0 x261).bind fun r295 =>
          (F29_0 x264).bind fun r298 =>
          some (.inl ((aw .i64 (v250 + 1)), (aw .i64 (v256 + 0)), (aw .i64 (v257 + (aw .i64 (r295 - 0)))), (aw .i64 (v258 + (aw .i64 (r298 - 0))))))
        else
        if 0 ≤ x264 then
          (F29_0 x261).bind fun r302 =>
          (F29_0 x264).bind fun r305 =>
          some (.inl ((aw .i64 (v250 + 1)), (aw .i64 (v256 + 0)), (aw .i64 (v257 + (aw .i64 (r302 - 0)))), (aw .i64 (v258 + (aw .i64 (r305 - 0))))))
        else
          (F29_0 x261).bind fun r308 =>
          (F29_0 x264).bind fun r311 =>
          some (.inl ((aw .i64 (v250 + 1)), (aw .i64 (v256 + (min r308 r311))), (aw .i64 (v257 + (aw .i64 (r308 - (min r308 r311))))), (aw .i64 (v258 + (aw .i64 (r311 - (min r308 r311)))))))
      else
        (F29_0 x261).bind fun r318 =>
        (F29_0 x264).bind fun r321 =>
        some (.inl ((aw .i64 (v250 + 1)), (aw .i64 (v256 + (min r318 r321))), (aw .i64 (v257 + (aw .i64 (r318 - (min r318 r321))))), (aw .i64 (v258 + (aw .i64 (r321 - (min r318 r321)))))))
noncomputable def L9l0_0 (v249 : Int) (v251 : List Int) (v252 : List Int) (s : Int × Int × Int × Int) : Option (Int × Int × Int) := iter (S9l0_0 v249 v251 v252) 1000000 s
-- dispatch.SettledOf
noncomputable def F9_0 (v155 : List Int) (v156 : List Int) : Option (Int × Int × Int × Int) :=
  (F28_0 v155).bind fun r159 =>
  (F28_0 v156).bind fun r162 =>
  (F25_0 (decide ((v155.length : Int) = (v156.length : Int))) 10).bind fun r165 =>
  (F24_0 ([r159, r162, r165] : List Int)).bind fun r168 =>
  if r168 = 0 then
    bind3 (L9l0_0 (v155.length : Int) v155 v156 (0, 0, 0, 0)) fun r331 r332 r333 =>
    some (r331, r332, r333, 0)
  else
    some (0, 0, 0, r168)
-- guidevanebase.Within
noncomputable def F16_0 (v346 : Int) (v347 : Int) (v348 : Int) : Option (Bool) :=
  if v347 ≤ v346 then
    some (decide (v346 ≤ v348))
  else
    some false
-- guidevaneref08.RampErr
noncomputable def F10_0 (v344 : Int) (v345 : Int) : Option (Int) :=
  (F16_0 v344 (-1000000) 1000000).bind fun r353 =>
  if r353 = true then
    (F16_0 v345 0 1000000).bind fun r357 =>
    if r357 = true then
      some 0
    else
      some 2
  else
    some 2
noncomputable def S11l0_0 (v366 : List Int) : Int → Option ((Int) ⊕ ((Unit) ⊕ (Unit)))
  | v365 =>
    if (v366.length : Int) ≤ v365 then
      some (.inr (.inl ()))
    else
      bind2 (geti v366 v365) fun j368 x369 =>
      (F16_0 x369 (-1000000) 1000000).bind fun r373 =>
      if r373 = true then
        some (.inl (aw .i64 (v365 + 1)))
      else
        some (.inr (.inr ()))
noncomputable def L11l0_0 (v366 : List Int) (s : Int) : Option ((Unit) ⊕ (Unit)) := iter (S11l0_0 v366) 1000000 s
-- guidevaneref08.PowersErr
noncomputable def F11_0 (v363 : List Int) : Option (Int) :=
  if (v363.length : Int) ≤ 300 then
    (L11l0_0 v363 0).bind fun g375_ => match g375_ with
    | .inl () =>
      some 0
    | .inr () =>
      some 2
  else
    some 8
noncomputable def F15_0 (v452 : Int) : Option (Int) :=
  some (max v452 (aw .i64 (0 - v452)))
noncomputable def F8_1 (v661 : Nat) (v662 : Nat) (v663 : List Int) : Option ((List Int)) :=
  (partL v663 0 v661).bind fun l665 =>
  room (v661 * 8) (
    some l665
  )
-- guidevanebase.CopyInts
noncomputable def F8_2 (v682 : Nat) (v683 : Nat) (v684 : Nat) (v685 : List Int) : Option ((List Int)) :=
  (partL v685 v682 v683).bind fun l687 =>
  room (v683 * 8) (
    some l687
  )
noncomputable def S4l0_0 (v734 : List Int) (v735 : List Int) (v736 : Int) (v737 : Int) (v738 : Int) (v739 : Int) (v740 : Int) (v741 : List Int) (v742 : Int) (v743 : Int) (v744 : Int) : (Int × Int × Int × Int) → Option ((Int × Int × Int × Int) ⊕ ((Int × Int) ⊕ (Int × Int)))
  | (v730, v731, v732, v733) =>
    if (v734.length : Int) ≤ v733 then
      some (.inr (.inl (v730, v731)))
    else
      bind2 (geti v734 v733) fun j746 x747 =>
      (F15_0 x747).bind fun r751 =>
      bind2 (geti v735 v733) fun j752 x753 =>
      (F15_0 x753).bind fun r757 =>
      bind2 (geti v741 v733) fun j758 x759 =>
      (F16_0 x759 (aw .i64 (v732 - v737)) (aw .i64 (v732 + v737))).bind fun r763 =>
      if r763 = true then
        if x759 = x747 then
          some (.inl ((aw .i64 (v730 + r751)), (aw .i64 (v731 + r757)), x759, (aw .i64 (v733 + 1))))
        else
          (F15_0 (aw .i64 (x759 - v732))).bind fun r768 =>
          if r768 = v737 then
            some (.inl ((aw .i64 (v730 + r751)), (aw .i64 (v731 + r757)), x759, (aw .i64 (v733 + 1))))
          else
            some (.inr (.inr ((aw .i64 (v730 + r751)), (aw .i64 (v731 + r757)))))
      else
        some (.inr (.inr ((aw .i64 (v730 + r751)), (aw .i64 (v731 + r757)))))
noncomputable def L4l0_0 (v734 : List Int) (v735 : List Int) (v736 : Int) (v737 : Int) (v738 : Int) (v739 : Int) (v740 : Int) (v741 : List Int) (v742 : Int) (v743 : Int) (v744 : Int) (s : Int × Int × Int × Int) : Option ((Int × Int) ⊕ (Int × Int)) := iter (S4l0_0 v734 v735 v736 v737 v738 v739 v740 v741 v742 v743 v744) 1000000 s
noncomputable def S4l1_0 (v786 : List Int) (v787 : List Int) (v788 : Int) (v789 : Int) : (Int × (List Int)) → Option ((Int × (List Int)) ⊕ ((List Int)))
  | (v785, v790) =>
    if 80 ≤ v785 then
      some (.inr v790)
    else
      bind2 (geti v786 0) fun j792 x793 =>
      room ((v790.length + 1) * 8) (
        some (.inl ((aw .i64 (v785 + 1)), (v790 ++ [x793])))
      )
noncomputable def L4l1_0 (v786 : List Int) (v787 : List Int) (v788 : Int) (v789 : Int) (s : Int × (List Int)) : Option ((List Int)) := iter (S4l1_0 v786 v787 v788 v789) 1000000 s
-- guidevanelaw08.DispatchSums
noncomputable def F4_0 (v629 : Int) (v630 : Int) (v631 : List Int) (v632 : List Int) : Option (Bool) :=
  if (v631.length : Int) ≤ 80 then
    if (v632.length : Int) = (v631.length : Int) then
      (F11_0 v631).bind fun r638 =>
      if r638 = 0 then
        (F11_0 v632).bind fun r642 =>
        if r642 = 0 then
          (F10_0 v629 v630).bind fun r646 =>
          if r646 = 0 then
            (F8_0 v631).bind fun _ =>
            (F8_0 v632).bind fun _ =>
            bind4 (F9_0 v631 v632) fun r654 r655 r656 r657 =>
            (inx (aw .i64 (Int.tdiv (v631.length : Int) 2)) (v631.length + 1)).bind fun j659 =>
            (F8_1 j659 v631.length v631).bind fun r670 =>
            (inx (aw .i64 (Int.tdiv (v631.length : Int) 2)) (v632.length + 1)).bind fun j671 =>
            (F8_1 j671 v632.length v632).bind fun r675 =>
            bind4 (F9_0 r670 r675) fun r678 r679 r680 r681 =>
            (F8_2 j659 (v631.length - j659) (v631.length - j659) v631).bind fun r692 =>
            (F8_2 j671 (v632.length - j671) (v632.length - j671) v632).bind fun r695 =>
            bind4 (F9_0 r692 r695) fun r698 r699 r700 r701 =>
            bind2 (F7_0 v629 v630 v631) fun r706 r707 =>
            bind4 (F9_0 v631 v631) fun r714 r715 r716 r717 =>
            if r657 = 0 then
              if r681 = 0 then
                if r701 = 0 then
                  if r706 = 0 then
                    if r717 = 0 then
                      if (r707.length : Int) = (v631.length : Int) then
                        if r654 = (aw .i64 (r678 + r698)) then
                          if r655 = (aw .i64 (r679 + r699)) then
                            if r656 = (aw .i64 (r680 + r700)) then
                              if 0 ≤ r654 then
                                if 0 ≤ r655 then
                                  if 0 ≤ r656 then
                                    (L4l0_0 v631 v632 v629 v630 r654 r655 r656 r707 r714 r715 r716 (0, 0, v629, 0)).bind fun g774_ => match g774_ with
                                    | .inl (r776, r777) =>
                                      if (aw .i64 (r654 + r655)) = r776 then
                                        if (aw .i64 (r654 + r656)) = r777 then
                                          if r714 = r776 then
                                            if r715 = 0 then
                                              if r716 = 0 then
                                                if v630 = 0 then
                                                  some true
                                                else
                                                if (v631.length : Int) = 0 then
                                                  some true
                                                else
                                                  (L4l1_0 v631 v632 v629 v630 (0, ([] : List Int))).bind fun r799 =>
                                                  bind2 (F7_0 v629 v630 r799) fun r802 r803 =>
                                                  if r802 = 0 then
                                                    if (r803.length : Int) = 80 then
                                                      bind2 (geti v631 0) fun j806 x807 =>
                                                      (F15_0 (aw .i64 (x807 - v629))).bind fun r811 =>
                                                      if r811 ≤ (aw .i64 (80 * v630)) then
                                                        bind2 (geti r803 79) fun j813 x814 =>
                                                        some (decide (x814 = x807))
                                                      else
                                                        some true
                                                    else
                                                      some false
                                                  else
                                                    some false
                                              else
                                                some false
                                            else
                                              some false
                                          else
                                            some false
                                        else
                                          some false
                                      else
                                        some false
                                    | .inr (r816, r817) =>
                                      some false
                                  else
                                    some false
                                else
                                  some false
                              else
                                some false
                            else
                              some false
                          else
                            some false
                        else
                          some false
                      else
                        some false
                    else
                      some false
                  else
                    some false
                else
                  some false
              else
                some false
            else
              some false
          else
            some true
        else
          some true
      else
        some true
    else
      some true
  else
    some true
end Go.AI
