/-
  The functions, as the interpreter reads them.
-/
import Derived.Test.YtcghmpalmedkiaaGreatKAiDef
namespace Go.AI
def a3 : AFunc := ⟨98, [.tmp 6], (.seq (.region false [
⟨some 3, .box 24 (.t 0), none, false, []⟩,
⟨some 4, .box 27 (.t 1), none, false, []⟩,
⟨some 5, .box 30 (.t 2), none, false, []⟩,
⟨some 6, .mv (.c (.bool false)), none, false, []⟩]) (.seq (.seq (.region false [
⟨some 12, .call 12 [], none, false, []⟩,
⟨some 13, .un .not (.t 12), none, false, []⟩]) (.cond (.t 13) (.seq (.region false [
⟨some 6, .mv (.c (.bool false)), none, false, []⟩]) .ret) .skip)) (.seq (.seq (.region false [
⟨some 14, .load 3 true (.t 3), none, false, []⟩,
⟨some 15, .call 13 [(.t 14)], none, false, []⟩,
⟨some 16, .un .not (.t 15), none, false, []⟩,
⟨some 17, .mv (.t 16), none, false, []⟩,
⟨some 18, .load 4 true (.t 4), some (17, false), false, []⟩,
⟨some 19, .call 14 [(.t 18)], some (17, false), false, []⟩,
⟨some 20, .un .not (.t 19), some (17, false), false, []⟩,
⟨some 21, .pick (.t 17) (.c (.bool true)) (.t 20), none, false, []⟩,
⟨some 22, .mv (.t 21), none, false, []⟩,
⟨some 23, .faddr 0 (.t 5), some (22, false), false, []⟩,
⟨some 24, .load 1 false (.t 23), some (22, false), false, []⟩,
⟨some 25, .len false (.t 24), some (22, false), false, []⟩,
⟨some 26, .bin .gtr (.t 25) (.c (.int .i64 12)), some (22, false), false, []⟩,
⟨some 27, .pick (.t 22) (.c (.bool true)) (.t 26), none, false, []⟩]) (.cond (.t 27) (.seq (.region false [
⟨some 6, .mv (.c (.bool true)), none, false, []⟩]) .ret) .skip)) (.seq (.region true [
⟨some 29, .load 3 true (.t 3), none, false, []⟩,
⟨some 30, .call 16 [(.t 29)], none, true, []⟩,
⟨some 31, .load 4 true (.t 4), none, true, [1]⟩,
⟨some 32, .call 17 [(.t 31)], none, true, []⟩,
⟨some 33, .load 2 true (.t 5), none, true, [1, 3]⟩,
⟨some 34, .call 18 [(.t 33)], none, false, []⟩,
⟨some 35, .call 15 [(.t 30), (.t 32), (.t 34)], none, false, []⟩,
⟨some 28, .mv (.t 35), none, false, []⟩,
⟨some 36, .ext (.t 28) 0, none, false, []⟩,
⟨some 37, .ext (.t 28) 1, none, false, []⟩,
⟨some 7, .mv (.t 36), none, false, []⟩,
⟨some 8, .mv (.t 37), none, false, []⟩]) (.seq (.region true [
⟨some 39, .load 3 true (.t 3), none, false, []⟩,
⟨some 40, .call 16 [(.t 39)], none, true, []⟩,
⟨some 41, .load 4 true (.t 4), none, true, [1]⟩,
⟨some 42, .call 17 [(.t 41)], none, true, []⟩,
⟨some 43, .load 2 true (.t 5), none, true, [1, 3]⟩,
⟨some 44, .call 18 [(.t 43)], none, false, []⟩,
⟨some 45, .call 19 [(.t 40), (.t 42), (.t 44)], none, false, []⟩,
⟨some 38, .mv (.t 45), none, false, []⟩,
⟨some 46, .ext (.t 38) 0, none, false, []⟩,
⟨some 47, .ext (.t 38) 1, none, false, []⟩,
⟨some 9, .mv (.t 46), none, false, []⟩,
⟨some 10, .mv (.t 47), none, false, []⟩]) (.seq (.region false [
⟨some 48, .load 3 true (.t 3), none, false, []⟩,
⟨some 49, .load 4 true (.t 4), none, false, []⟩,
⟨some 50, .call 20 [(.t 48), (.t 49)], none, false, []⟩,
⟨some 11, .mv (.t 50), none, false, []⟩]) (.seq (.seq (.region false [
⟨some 51, .mv (.t 11), none, false, []⟩,
⟨some 52, .bin .eql (.t 51) (.c (.int .i64 0)), none, false, []⟩]) (.cond (.t 52) (.region false [
⟨some 53, .load 3 true (.t 3), none, false, []⟩,
⟨some 54, .load 4 true (.t 4), none, false, []⟩,
⟨some 55, .load 2 true (.t 5), none, false, []⟩,
⟨some 56, .call 21 [(.t 53), (.t 54), (.t 55)], none, false, []⟩,
⟨some 11, .mv (.t 56), none, false, []⟩]) .skip)) (.seq (.seq (.region false [
⟨some 57, .mv (.t 11), none, false, []⟩,
⟨some 58, .bin .neq (.t 57) (.c (.int .i64 0)), none, false, []⟩]) (.cond (.t 58) (.seq (.region false [
⟨some 59, .mv (.t 8), none, false, []⟩,
⟨some 60, .mv (.t 11), none, false, []⟩,
⟨some 61, .bin .eql (.t 59) (.t 60), none, false, []⟩,
⟨some 62, .mv (.t 61), none, false, []⟩,
⟨some 63, .mv (.t 10), some (62, true), false, []⟩,
⟨some 64, .mv (.t 11), some (62, true), false, []⟩,
⟨some 65, .bin .eql (.t 63) (.t 64), some (62, true), false, []⟩,
⟨some 66, .pick (.t 62) (.t 65) (.c (.bool false)), none, false, []⟩,
⟨some 67, .mv (.t 66), none, false, []⟩,
⟨some 68, .mv (.t 7), some (67, true), false, []⟩,
⟨some 69, .len false (.t 68), some (67, true), false, []⟩,
⟨some 70, .bin .eql (.t 69) (.c (.int .i64 0)), some (67, true), false, []⟩,
⟨some 71, .pick (.t 67) (.t 70) (.c (.bool false)), none, false, []⟩,
⟨some 72, .mv (.t 71), none, false, []⟩,
⟨some 73, .mv (.t 9), some (72, true), false, []⟩,
⟨some 74, .bin .eql (.t 73) (.c (.int .i64 0)), some (72, true), false, []⟩,
⟨some 75, .pick (.t 72) (.t 74) (.c (.bool false)), none, false, []⟩,
⟨some 6, .mv (.t 75), none, false, []⟩]) .ret) .skip)) (.seq (.region false [
⟨some 76, .mv (.t 8), none, false, []⟩,
⟨some 77, .bin .eql (.t 76) (.c (.int .i64 0)), none, false, []⟩,
⟨some 78, .mv (.t 77), none, false, []⟩,
⟨some 79, .mv (.t 7), some (78, true), false, []⟩,
⟨some 80, .load 3 true (.t 3), some (78, true), false, []⟩,
⟨some 81, .load 4 true (.t 4), some (78, true), false, []⟩,
⟨some 82, .load 2 true (.t 5), some (78, true), false, []⟩,
⟨some 83, .call 23 [(.t 80), (.t 81), (.t 82)], some (78, true), false, []⟩,
⟨some 84, .call 22 [(.t 79), (.t 83)], some (78, true), false, []⟩,
⟨some 85, .pick (.t 78) (.t 84) (.c (.bool false)), none, false, []⟩,
⟨some 86, .mv (.t 85), none, false, []⟩,
⟨some 87, .mv (.t 10), some (86, true), false, []⟩,
⟨some 88, .bin .eql (.t 87) (.c (.int .i64 0)), some (86, true), false, []⟩,
⟨some 89, .pick (.t 86) (.t 88) (.c (.bool false)), none, false, []⟩,
⟨some 90, .mv (.t 89), none, false, []⟩,
⟨some 91, .mv (.t 9), some (90, true), false, []⟩,
⟨some 92, .load 3 true (.t 3), some (90, true), false, []⟩,
⟨some 93, .load 4 true (.t 4), some (90, true), false, []⟩,
⟨some 94, .load 2 true (.t 5), some (90, true), false, []⟩,
⟨some 95, .call 24 [(.t 92), (.t 93), (.t 94)], some (90, true), false, []⟩,
⟨some 96, .bin .eql (.t 91) (.t 95), some (90, true), false, []⟩,
⟨some 97, .pick (.t 90) (.t 96) (.c (.bool false)), none, false, []⟩,
⟨some 6, .mv (.t 97), none, false, []⟩]) .ret)))))))))⟩
def a12 : AFunc := ⟨97, [.tmp 0], (.seq (.region false [
⟨some 0, .mv (.c (.bool false)), none, false, []⟩]) (.seq (.region false [
⟨some 14, .call 64 [], none, false, []⟩,
⟨some 15, .call 65 [], none, false, []⟩,
⟨some 16, .call 29 [(.t 14), (.t 15)], none, false, []⟩,
⟨some 13, .mv (.t 16), none, false, []⟩,
⟨some 17, .ext (.t 13) 0, none, false, []⟩,
⟨some 18, .ext (.t 13) 1, none, false, []⟩,
⟨some 19, .ext (.t 13) 2, none, false, []⟩,
⟨some 1, .mv (.t 17), none, false, []⟩,
⟨some 2, .mv (.t 18), none, false, []⟩,
⟨some 3, .mv (.t 19), none, false, []⟩]) (.seq (.region false [
⟨some 21, .call 64 [], none, false, []⟩,
⟨some 22, .call 65 [], none, false, []⟩,
⟨some 23, .bslice 3 1 2 [.int .i64 0] [(0, (.c (.int .i64 0))), (1, (.c (.int .i64 2)))], none, false, []⟩,
⟨some 24, .nbuild [1, 0] [.nilSlice, .int .i64 0] [(0, 1, (.t 23)), (1, 1, (.c (.int .i64 2)))], none, false, []⟩,
⟨some 25, .call 15 [(.t 21), (.t 22), (.t 24)], none, false, []⟩,
⟨some 20, .mv (.t 25), none, false, []⟩,
⟨some 26, .ext (.t 20) 0, none, false, []⟩,
⟨some 27, .ext (.t 20) 1, none, false, []⟩,
⟨some 4, .mv (.t 26), none, false, []⟩,
⟨some 5, .mv (.t 27), none, false, []⟩]) (.seq (.region false [
⟨some 29, .bslice 3 1 3 [.int .i64 0] [(0, (.c (.int .i64 12))), (1, (.c (.int .i64 12))), (2, (.c (.int .i64 3)))], none, false, []⟩,
⟨some 30, .bslice 3 1 3 [.int .i64 0] [(0, (.c (.int .i64 5))), (1, (.c (.int .i64 10))), (2, (.c (.int .i64 5)))], none, false, []⟩,
⟨some 31, .call 66 [(.t 29), (.t 30)], none, false, []⟩,
⟨some 28, .mv (.t 31), none, false, []⟩,
⟨some 32, .ext (.t 28) 0, none, false, []⟩,
⟨some 33, .ext (.t 28) 1, none, false, []⟩,
⟨some 6, .alloc 105 [.int .i64 0, .int .i64 0, .int .i64 0], none, false, []⟩,
⟨none, .store 3 (.t 6) (.t 32), none, false, []⟩,
⟨some 7, .mv (.t 33), none, false, []⟩]) (.seq (.region false [
⟨some 35, .call 67 [], none, false, []⟩,
⟨some 36, .call 54 [(.t 35)], none, false, []⟩,
⟨some 34, .mv (.t 36), none, false, []⟩,
⟨some 37, .ext (.t 34) 0, none, false, []⟩,
⟨some 38, .ext (.t 34) 1, none, false, []⟩,
⟨some 39, .ext (.t 34) 2, none, false, []⟩,
⟨some 8, .mv (.t 37), none, false, []⟩,
⟨some 9, .mv (.t 38), none, false, []⟩,
⟨some 10, .mv (.t 39), none, false, []⟩]) (.seq (.region false [
⟨some 41, .call 64 [], none, false, []⟩,
⟨some 42, .call 65 [], none, false, []⟩,
⟨some 43, .call 40 [(.t 41), (.t 42), (.c (.int .i64 2))], none, false, []⟩,
⟨some 40, .mv (.t 43), none, false, []⟩,
⟨some 44, .ext (.t 40) 0, none, false, []⟩,
⟨some 45, .ext (.t 40) 1, none, false, []⟩,
⟨some 11, .mv (.t 44), none, false, []⟩,
⟨some 12, .mv (.t 45), none, false, []⟩]) (.seq (.region false [
⟨some 46, .mv (.t 3), none, false, []⟩,
⟨some 47, .bin .eql (.t 46) (.c (.int .i64 0)), none, false, []⟩,
⟨some 48, .mv (.t 47), none, false, []⟩,
⟨some 49, .mv (.t 1), some (48, true), false, []⟩,
⟨some 50, .bslice 3 1 2 [.int .i64 0] [(0, (.c (.int .i64 0))), (1, (.c (.int .i64 2)))], some (48, true), false, []⟩,
⟨some 51, .call 22 [(.t 49), (.t 50)], some (48, true), false, []⟩,
⟨some 52, .pick (.t 48) (.t 51) (.c (.bool false)), none, false, []⟩,
⟨some 53, .mv (.t 52), none, false, []⟩,
⟨some 54, .mv (.t 2), some (53, true), false, []⟩,
⟨some 55, .bin .eql (.t 54) (.c (.int .i64 30)), some (53, true), false, []⟩,
⟨some 56, .pick (.t 53) (.t 55) (.c (.bool false)), none, false, []⟩,
⟨some 57, .mv (.t 56), none, false, []⟩,
⟨some 58, .mv (.t 5), some (57, true), false, []⟩,
⟨some 59, .bin .eql (.t 58) (.c (.int .i64 0)), some (57, true), false, []⟩,
⟨some 60, .pick (.t 57) (.t 59) (.c (.bool false)), none, false, []⟩,
⟨some 61, .mv (.t 60), none, false, []⟩,
⟨some 62, .mv (.t 4), some (61, true), false, []⟩,
⟨some 63, .bslice 3 1 2 [.int .i64 0] [(0, (.c (.int .i64 1))), (1, (.c (.int .i64 1)))], some (61, true), false, []⟩,
⟨some 64, .call 22 [(.t 62), (.t 63)], some (61, true), false, []⟩,
⟨some 65, .pick (.t 61) (.t 64) (.c (.bool false)), none, false, []⟩,
⟨some 66, .mv (.t 65), none, false, []⟩,
⟨some 67, .mv (.t 7), some (66, true), false, []⟩,
⟨some 68, .bin .eql (.t 67) (.c (.int .i64 0)), some (66, true), false, []⟩,
⟨some 69, .pick (.t 66) (.t 68) (.c (.bool false)), none, false, []⟩,
⟨some 70, .mv (.t 69), none, false, []⟩,
⟨some 71, .load 3 true (.t 6), some (70, true), false, []⟩,
⟨some 72, .build [.int .i64 0, .int .i64 0, .int .i64 0] [(0, 1, (.c (.int .i64 18))), (1, 1, (.c (.int .i64 9))), (2, 1, (.c (.int .i64 2)))], some (70, true), false, []⟩,
⟨some 73, .eq false [1, 1, 1] (.t 71) (.t 72), some (70, true), false, []⟩,
⟨some 74, .pick (.t 70) (.t 73) (.c (.bool false)), none, false, []⟩,
⟨some 75, .mv (.t 74), none, false, []⟩,
⟨some 76, .mv (.t 10), some (75, true), false, []⟩,
⟨some 77, .bin .eql (.t 76) (.c (.int .i64 0)), some (75, true), false, []⟩,
⟨some 78, .pick (.t 75) (.t 77) (.c (.bool false)), none, false, []⟩,
⟨some 79, .mv (.t 78), none, false, []⟩,
⟨some 80, .mv (.t 8), some (79, true), false, []⟩,
⟨some 81, .bslice 3 1 3 [.int .i64 0] [(0, (.c (.int .i64 0))), (1, (.c (.int .i64 1))), (2, (.c (.int .i64 2)))], some (79, true), false, []⟩,
⟨some 82, .call 22 [(.t 80), (.t 81)], some (79, true), false, []⟩,
⟨some 83, .pick (.t 79) (.t 82) (.c (.bool false)), none, false, []⟩,
⟨some 84, .mv (.t 83), none, false, []⟩,
⟨some 85, .mv (.t 9), some (84, true), false, []⟩,
⟨some 86, .bin .eql (.t 85) (.c (.int .i64 1)), some (84, true), false, []⟩,
⟨some 87, .pick (.t 84) (.t 86) (.c (.bool false)), none, false, []⟩,
⟨some 88, .mv (.t 87), none, false, []⟩,
⟨some 89, .mv (.t 12), some (88, true), false, []⟩,
⟨some 90, .bin .eql (.t 89) (.c (.int .i64 0)), some (88, true), false, []⟩,
⟨some 91, .pick (.t 88) (.t 90) (.c (.bool false)), none, false, []⟩,
⟨some 92, .mv (.t 91), none, false, []⟩,
⟨some 93, .mv (.t 11), some (92, true), false, []⟩,
⟨some 94, .bslice 3 1 3 [.int .i64 0] [(0, (.c (.int .i64 2))), (1, (.c (.int .i64 5))), (2, (.c (.int .i64 8)))], some (92, true), false, []⟩,
⟨some 95, .call 22 [(.t 93), (.t 94)], some (92, true), false, []⟩,
⟨some 96, .pick (.t 92) (.t 95) (.c (.bool false)), none, false, []⟩,
⟨some 0, .mv (.t 96), none, false, []⟩]) .ret)))))))⟩
def a13l0b : ACode := (.seq (.seq (.region false [
⟨some 8, .mv (.t 3), none, false, []⟩,
⟨some 9, .faddr 2 (.t 1), none, false, []⟩,
⟨some 10, .load 1 false (.t 9), none, false, []⟩,
⟨some 11, .len false (.t 10), none, false, []⟩,
⟨some 12, .bin .lss (.t 8) (.t 11), none, false, []⟩]) (.cond (.t 12) .skip (.exit 0))) (.seq (.block 1 (.seq (.region false [
⟨some 15, .faddr 2 (.t 1), none, false, []⟩,
⟨some 16, .load 1 false (.t 15), none, false, []⟩,
⟨some 17, .mv (.t 3), none, false, []⟩,
⟨some 18, .iaddr 4 (.t 16) (.t 17), none, false, []⟩,
⟨some 19, .faddr 0 (.t 18), none, false, []⟩,
⟨some 20, .load 1 false (.t 19), none, false, []⟩,
⟨some 21, .len true (.t 20), none, false, []⟩,
⟨some 22, .bin .gtr (.t 21) (.c (.int .i64 20)), none, false, []⟩]) (.cond (.t 22) (.seq (.region false [
⟨some 2, .mv (.c (.bool false)), none, false, []⟩]) .ret) .skip))) (.region false [
⟨some 13, .mv (.t 3), none, false, []⟩,
⟨some 14, .bin .add (.t 13) (.c (.int .i64 1)), none, false, []⟩,
⟨some 3, .mv (.t 14), none, false, []⟩])))
def a13l0 : ACode := .loop [1, 3] [2] a13l0b
def a13 : AFunc := ⟨23, [.tmp 2], (.seq (.region false [
⟨some 1, .box 24 (.t 0), none, false, []⟩,
⟨some 2, .mv (.c (.bool false)), none, false, []⟩]) (.seq (.seq (.region false [
⟨some 4, .faddr 2 (.t 1), none, false, []⟩,
⟨some 5, .load 1 false (.t 4), none, false, []⟩,
⟨some 6, .len false (.t 5), none, false, []⟩,
⟨some 7, .bin .gtr (.t 6) (.c (.int .i64 7)), none, false, []⟩]) (.cond (.t 7) (.seq (.region false [
⟨some 2, .mv (.c (.bool false)), none, false, []⟩]) .ret) .skip)) (.seq (.seq (.region false [
⟨some 3, .mv (.c (.int .i64 0)), none, false, []⟩]) (.block 0 a13l0)) (.seq (.region false [
⟨some 2, .mv (.c (.bool true)), none, false, []⟩]) .ret))))⟩
def a14 : AFunc := ⟨7, [.tmp 2], (.seq (.region false [
⟨some 1, .box 27 (.t 0), none, false, []⟩,
⟨some 2, .mv (.c (.bool false)), none, false, []⟩]) (.seq (.region false [
⟨some 3, .faddr 3 (.t 1), none, false, []⟩,
⟨some 4, .load 1 false (.t 3), none, false, []⟩,
⟨some 5, .len false (.t 4), none, false, []⟩,
⟨some 6, .bin .leq (.t 5) (.c (.int .i64 12)), none, false, []⟩,
⟨some 2, .mv (.t 6), none, false, []⟩]) .ret))⟩
def a15l0b : ACode := (.seq (.region false [
⟨some 37, .bin .lss (.t 36) (.t 35), none, false, []⟩]) (.seq (.cond (.t 37) .skip (.exit 0)) (.seq (.block 1 (.seq (.region false [
⟨some 38, .mv (.t 36), none, false, []⟩,
⟨some 12, .mv (.t 38), none, false, []⟩]) (.region true [
⟨some 39, .mv (.t 11), none, false, []⟩,
⟨some 40, .load 7 true (.t 8), none, false, []⟩,
⟨some 41, .mv (.t 9), none, false, []⟩,
⟨some 42, .mv (.t 12), none, false, []⟩,
⟨some 43, .iaddr 1 (.t 41) (.t 42), none, false, []⟩,
⟨some 44, .load 1 false (.t 43), none, false, []⟩,
⟨some 45, .mv (.t 12), none, false, []⟩,
⟨some 46, .faddr 1 (.t 5), none, false, []⟩,
⟨some 47, .load 1 false (.t 46), none, false, []⟩,
⟨some 48, .call 72 [(.t 40), (.t 44), (.t 45), (.t 47)], none, false, []⟩,
⟨some 49, .bslice 3 1 1 [.int .i64 0] [(0, (.t 48))], none, false, []⟩,
⟨some 50, .app 3 1 8 [.int .i64 0] (.t 39) (.t 49), none, false, []⟩,
⟨some 11, .mv (.t 50), none, false, []⟩]))) (.region false [
⟨some 51, .bin .add (.t 36) (.c (.int .i64 1)), none, false, []⟩,
⟨some 36, .mv (.t 51), none, false, []⟩]))))
def a15l0 : ACode := .loop [5, 8, 9, 11, 35, 36] [6, 7, 11] a15l0b
def a15 : AFunc := ⟨53, [.tmp 6, .tmp 7], (.seq (.region false [
⟨some 3, .box 24 (.t 0), none, false, []⟩,
⟨some 4, .box 27 (.t 1), none, false, []⟩,
⟨some 5, .box 30 (.t 2), none, false, []⟩,
⟨some 6, .nils 1 (.c (.nilSlice)), none, false, []⟩,
⟨some 7, .mv (.c (.int .i64 0)), none, false, []⟩]) (.seq (.region false [
⟨some 14, .load 3 true (.t 3), none, false, []⟩,
⟨some 15, .load 4 true (.t 4), none, false, []⟩,
⟨some 16, .faddr 0 (.t 5), none, false, []⟩,
⟨some 17, .load 1 false (.t 16), none, false, []⟩,
⟨some 18, .call 68 [(.t 14), (.t 15), (.t 17)], none, false, []⟩,
⟨some 13, .mv (.t 18), none, false, []⟩,
⟨some 19, .ext (.t 13) 0, none, false, []⟩,
⟨some 20, .ext (.t 13) 1, none, false, []⟩,
⟨some 21, .ext (.t 13) 2, none, false, []⟩,
⟨some 8, .nalloc [0, 0, 4, 0, 0, 0, 3] 112 [.int .i64 0, .int .i64 0, .nilSlice, .int .i64 0, .int .i64 0, .int .i64 0, .nilSlice], none, false, []⟩,
⟨none, .store 7 (.t 8) (.t 19), none, false, []⟩,
⟨some 9, .mv (.t 20), none, false, []⟩,
⟨some 10, .mv (.t 21), none, false, []⟩]) (.seq (.seq (.region false [
⟨some 22, .mv (.t 10), none, false, []⟩,
⟨some 23, .load 7 true (.t 8), none, false, []⟩,
⟨some 24, .faddr 1 (.t 5), none, false, []⟩,
⟨some 25, .load 1 false (.t 24), none, false, []⟩,
⟨some 26, .call 71 [(.t 23), (.t 25)], none, false, []⟩,
⟨some 27, .call 70 [(.t 26), (.c (.int .i64 6))], none, false, []⟩,
⟨some 28, .bslice 34 1 2 [.int .i64 0] [(0, (.t 22)), (1, (.t 27))], none, false, []⟩,
⟨some 29, .call 69 [(.t 28)], none, false, []⟩,
⟨some 10, .mv (.t 29), none, false, []⟩]) (.seq (.region false [
⟨some 30, .mv (.t 10), none, false, []⟩,
⟨some 31, .bin .neq (.t 30) (.c (.int .i64 0)), none, false, []⟩]) (.cond (.t 31) (.seq (.region false [
⟨some 32, .mv (.t 10), none, false, []⟩,
⟨some 6, .nils 1 (.c (.nilSlice)), none, false, []⟩,
⟨some 7, .mv (.t 32), none, false, []⟩]) .ret) .skip))) (.seq (.region false [
⟨some 11, .nils 1 (.c (.nilSlice)), none, false, []⟩]) (.seq (.seq (.region false [
⟨some 33, .faddr 3 (.t 4), none, false, []⟩,
⟨some 34, .load 1 false (.t 33), none, false, []⟩,
⟨some 35, .len false (.t 34), none, false, []⟩,
⟨some 36, .mv (.c (.int .i64 0)), none, false, []⟩]) (.block 0 a15l0)) (.seq (.region false [
⟨some 52, .mv (.t 11), none, false, []⟩,
⟨some 6, .mv (.t 52), none, false, []⟩,
⟨some 7, .mv (.c (.int .i64 0)), none, false, []⟩]) .ret))))))⟩
def a16 : AFunc := ⟨9, [.cell 2 3 true], (.seq (.region false [
⟨some 1, .box 24 (.t 0), none, false, []⟩,
⟨some 2, .nalloc [0, 0, 4] 24 [.int .i64 0, .int .i64 0, .nilSlice], none, false, []⟩]) (.seq (.region false [
⟨some 3, .bslice 110 4 0 [.str ByteArray.empty, .int .i64 0, .int .i64 0, .int .i64 0] [], none, false, []⟩,
⟨some 4, .faddr 2 (.t 1), none, false, []⟩,
⟨some 5, .load 1 false (.t 4), none, false, []⟩,
⟨some 6, .app 110 4 40 [.str ByteArray.empty, .int .i64 0, .int .i64 0, .int .i64 0] (.t 3) (.t 5), none, false, []⟩,
⟨some 7, .faddr 2 (.t 1), none, false, []⟩,
⟨none, .store 1 (.t 7) (.t 6), none, false, []⟩]) (.seq (.region false [
⟨some 8, .load 3 true (.t 1), none, false, []⟩,
⟨none, .store 3 (.t 2) (.t 8), none, false, []⟩]) .ret)))⟩
def a17 : AFunc := ⟨9, [.cell 2 4 true], (.seq (.region false [
⟨some 1, .box 27 (.t 0), none, false, []⟩,
⟨some 2, .nalloc [0, 0, 0, 3] 27 [.int .i64 0, .int .i64 0, .int .i64 0, .nilSlice], none, false, []⟩]) (.seq (.region false [
⟨some 3, .bslice 130 3 0 [.int .i64 0, .int .i64 0, .int .i64 0] [], none, false, []⟩,
⟨some 4, .faddr 3 (.t 1), none, false, []⟩,
⟨some 5, .load 1 false (.t 4), none, false, []⟩,
⟨some 6, .app 130 3 24 [.int .i64 0, .int .i64 0, .int .i64 0] (.t 3) (.t 5), none, false, []⟩,
⟨some 7, .faddr 3 (.t 1), none, false, []⟩,
⟨none, .store 1 (.t 7) (.t 6), none, false, []⟩]) (.seq (.region false [
⟨some 8, .load 4 true (.t 1), none, false, []⟩,
⟨none, .store 4 (.t 2) (.t 8), none, false, []⟩]) .ret)))⟩
def a18 : AFunc := ⟨8, [.cell 2 2 true], (.seq (.region false [
⟨some 1, .box 30 (.t 0), none, false, []⟩,
⟨some 2, .nalloc [1, 0] 30 [.nilSlice, .int .i64 0], none, false, []⟩]) (.seq (.region false [
⟨some 3, .faddr 0 (.t 1), none, false, []⟩,
⟨some 4, .load 1 false (.t 3), none, false, []⟩,
⟨some 5, .call 26 [(.t 4)], none, false, []⟩,
⟨some 6, .faddr 0 (.t 1), none, false, []⟩,
⟨none, .store 1 (.t 6) (.t 5), none, false, []⟩]) (.seq (.region false [
⟨some 7, .load 2 true (.t 1), none, false, []⟩,
⟨none, .store 2 (.t 2) (.t 7), none, false, []⟩]) .ret)))⟩
def a19l0b : ACode := (.seq (.region false [
⟨some 26, .bin .lss (.t 25) (.t 24), none, false, []⟩]) (.seq (.cond (.t 26) .skip (.exit 0)) (.seq (.block 1 (.seq (.region false [
⟨some 27, .mv (.t 25), none, false, []⟩,
⟨some 28, .iaddr 1 (.t 23) (.t 25), none, false, []⟩,
⟨some 29, .load 1 false (.t 28), none, false, []⟩,
⟨some 11, .mv (.t 27), none, false, []⟩,
⟨some 12, .mv (.t 29), none, false, []⟩]) (.seq (.region false [
⟨some 30, .mv (.t 12), none, false, []⟩,
⟨some 31, .mv (.t 8), none, false, []⟩,
⟨some 32, .len false (.t 31), none, false, []⟩,
⟨some 33, .mv (.t 11), none, false, []⟩,
⟨some 34, .bin .sub (.t 32) (.t 33), none, false, []⟩,
⟨some 35, .bin .lss (.t 30) (.t 34), none, false, []⟩]) (.cond (.t 35) (.region false [
⟨some 36, .mv (.t 10), none, false, []⟩,
⟨some 37, .mv (.t 12), none, false, []⟩,
⟨some 38, .minmax false (.t 36) [(.t 37)], none, false, []⟩,
⟨some 10, .mv (.t 38), none, false, []⟩]) .skip)))) (.region false [
⟨some 39, .bin .add (.t 25) (.c (.int .i64 1)), none, false, []⟩,
⟨some 25, .mv (.t 39), none, false, []⟩]))))
def a19l0 : ACode := .loop [8, 10, 23, 24, 25] [6, 7, 10] a19l0b
def a19 : AFunc := ⟨41, [.tmp 6, .tmp 7], (.seq (.region false [
⟨some 3, .box 24 (.t 0), none, false, []⟩,
⟨some 4, .box 27 (.t 1), none, false, []⟩,
⟨some 5, .box 30 (.t 2), none, false, []⟩,
⟨some 6, .mv (.c (.int .i64 0)), none, false, []⟩,
⟨some 7, .mv (.c (.int .i64 0)), none, false, []⟩]) (.seq (.region false [
⟨some 14, .load 3 true (.t 3), none, false, []⟩,
⟨some 15, .load 4 true (.t 4), none, false, []⟩,
⟨some 16, .load 2 true (.t 5), none, false, []⟩,
⟨some 17, .call 15 [(.t 14), (.t 15), (.t 16)], none, false, []⟩,
⟨some 13, .mv (.t 17), none, false, []⟩,
⟨some 18, .ext (.t 13) 0, none, false, []⟩,
⟨some 19, .ext (.t 13) 1, none, false, []⟩,
⟨some 8, .mv (.t 18), none, false, []⟩,
⟨some 9, .mv (.t 19), none, false, []⟩]) (.seq (.seq (.region false [
⟨some 20, .mv (.t 9), none, false, []⟩,
⟨some 21, .bin .neq (.t 20) (.c (.int .i64 0)), none, false, []⟩]) (.cond (.t 21) (.seq (.region false [
⟨some 22, .mv (.t 9), none, false, []⟩,
⟨some 6, .mv (.c (.int .i64 0)), none, false, []⟩,
⟨some 7, .mv (.t 22), none, false, []⟩]) .ret) .skip)) (.seq (.region false [
⟨some 10, .mv (.c (.int .i64 10)), none, false, []⟩]) (.seq (.seq (.region false [
⟨some 23, .mv (.t 8), none, false, []⟩,
⟨some 24, .len false (.t 23), none, false, []⟩,
⟨some 25, .mv (.c (.int .i64 0)), none, false, []⟩]) (.block 0 a19l0)) (.seq (.region false [
⟨some 40, .mv (.t 10), none, false, []⟩,
⟨some 6, .mv (.t 40), none, false, []⟩,
⟨some 7, .mv (.c (.int .i64 0)), none, false, []⟩]) .ret))))))⟩
def a20 : AFunc := ⟨14, [.tmp 4], (.seq (.region false [
⟨some 2, .box 24 (.t 0), none, false, []⟩,
⟨some 3, .box 27 (.t 1), none, false, []⟩,
⟨some 4, .mv (.c (.int .i64 0)), none, false, []⟩]) (.seq (.region false [
⟨some 8, .load 3 true (.t 2), none, false, []⟩,
⟨some 9, .load 4 true (.t 3), none, false, []⟩,
⟨some 10, .call 35 [(.t 8), (.t 9)], none, false, []⟩,
⟨some 7, .mv (.t 10), none, false, []⟩,
⟨some 11, .ext (.t 7) 0, none, false, []⟩,
⟨some 12, .ext (.t 7) 1, none, false, []⟩,
⟨some 5, .mv (.t 11), none, false, []⟩,
⟨some 6, .mv (.t 12), none, false, []⟩]) (.seq (.region false [
⟨some 13, .mv (.t 6), none, false, []⟩,
⟨some 4, .mv (.t 13), none, false, []⟩]) .ret)))⟩
def a21 : AFunc := ⟨24, [.tmp 6], (.seq (.region false [
⟨some 3, .box 24 (.t 0), none, false, []⟩,
⟨some 4, .box 27 (.t 1), none, false, []⟩,
⟨some 5, .box 30 (.t 2), none, false, []⟩,
⟨some 6, .mv (.c (.int .i64 0)), none, false, []⟩]) (.seq (.seq (.region false [
⟨some 8, .load 3 true (.t 3), none, false, []⟩,
⟨some 9, .load 4 true (.t 4), none, false, []⟩,
⟨some 10, .faddr 0 (.t 5), none, false, []⟩,
⟨some 11, .load 1 false (.t 10), none, false, []⟩,
⟨some 12, .call 36 [(.t 8), (.t 9), (.t 11)], none, false, []⟩,
⟨some 7, .mv (.t 12), none, false, []⟩]) (.seq (.region false [
⟨some 13, .mv (.t 7), none, false, []⟩,
⟨some 14, .bin .neq (.t 13) (.c (.int .i64 0)), none, false, []⟩]) (.cond (.t 14) (.seq (.region false [
⟨some 15, .mv (.t 7), none, false, []⟩,
⟨some 6, .mv (.t 15), none, false, []⟩]) .ret) .skip))) (.seq (.seq (.region false [
⟨some 16, .faddr 1 (.t 5), none, false, []⟩,
⟨some 17, .load 1 false (.t 16), none, false, []⟩,
⟨some 18, .faddr 2 (.t 3), none, false, []⟩,
⟨some 19, .load 1 false (.t 18), none, false, []⟩,
⟨some 20, .len false (.t 19), none, false, []⟩,
⟨some 21, .bin .sub (.t 20) (.c (.int .i64 1)), none, false, []⟩,
⟨some 22, .call 27 [(.t 17), (.c (.int .i64 0)), (.t 21)], none, false, []⟩,
⟨some 23, .un .not (.t 22), none, false, []⟩]) (.cond (.t 23) (.seq (.region false [
⟨some 6, .mv (.c (.int .i64 6)), none, false, []⟩]) .ret) .skip)) (.seq (.region false [
⟨some 6, .mv (.c (.int .i64 0)), none, false, []⟩]) .ret))))⟩
def a22l0b : ACode := (.seq (.seq (.region false [
⟨some 11, .mv (.t 5), none, false, []⟩,
⟨some 12, .mv (.t 0), none, false, []⟩,
⟨some 13, .len false (.t 12), none, false, []⟩,
⟨some 14, .bin .lss (.t 11) (.t 13), none, false, []⟩]) (.cond (.t 14) .skip (.exit 0))) (.seq (.block 1 (.seq (.region true [
⟨some 17, .mv (.t 0), none, false, []⟩,
⟨some 18, .mv (.t 5), none, false, []⟩,
⟨some 19, .iaddr 1 (.t 17) (.t 18), none, false, []⟩,
⟨some 20, .load 1 false (.t 19), none, false, []⟩,
⟨some 21, .mv (.t 1), none, false, []⟩,
⟨some 22, .mv (.t 5), none, false, []⟩,
⟨some 23, .iaddr 1 (.t 21) (.t 22), none, false, []⟩,
⟨some 24, .load 1 false (.t 23), none, false, []⟩,
⟨some 25, .bin .neq (.t 20) (.t 24), none, false, []⟩]) (.cond (.t 25) (.seq (.region false [
⟨some 4, .mv (.c (.bool false)), none, false, []⟩]) .ret) .skip))) (.region false [
⟨some 15, .mv (.t 5), none, false, []⟩,
⟨some 16, .bin .add (.t 15) (.c (.int .i64 1)), none, false, []⟩,
⟨some 5, .mv (.t 16), none, false, []⟩])))
def a22l0 : ACode := .loop [0, 1, 5] [4] a22l0b
def a22 : AFunc := ⟨26, [.tmp 4], (.seq (.region false [
⟨some 4, .mv (.c (.bool false)), none, false, []⟩]) (.seq (.seq (.region false [
⟨some 6, .mv (.t 0), none, false, []⟩,
⟨some 7, .len false (.t 6), none, false, []⟩,
⟨some 8, .mv (.t 1), none, false, []⟩,
⟨some 9, .len false (.t 8), none, false, []⟩,
⟨some 10, .bin .neq (.t 7) (.t 9), none, false, []⟩]) (.cond (.t 10) (.seq (.region false [
⟨some 4, .mv (.c (.bool false)), none, false, []⟩]) .ret) .skip)) (.seq (.seq (.region false [
⟨some 5, .mv (.c (.int .i64 0)), none, false, []⟩]) (.block 0 a22l0)) (.seq (.region false [
⟨some 4, .mv (.c (.bool true)), none, false, []⟩]) .ret))))⟩
def a23l0b : ACode := (.seq (.seq (.region false [
⟨some 15, .mv (.t 9), none, false, []⟩,
⟨some 16, .faddr 3 (.t 4), none, false, []⟩,
⟨some 17, .load 1 false (.t 16), none, false, []⟩,
⟨some 18, .len false (.t 17), none, false, []⟩,
⟨some 19, .bin .lss (.t 15) (.t 18), none, false, []⟩]) (.cond (.t 19) .skip (.exit 0))) (.seq (.block 1 (.region true [
⟨some 22, .mv (.t 8), none, false, []⟩,
⟨some 23, .load 3 true (.t 3), none, false, []⟩,
⟨some 24, .load 4 true (.t 4), none, false, []⟩,
⟨some 25, .mv (.t 9), none, false, []⟩,
⟨some 26, .mv (.t 7), none, false, []⟩,
⟨some 27, .mv (.t 9), none, false, []⟩,
⟨some 28, .iaddr 1 (.t 26) (.t 27), none, false, []⟩,
⟨some 29, .load 1 false (.t 28), none, false, []⟩,
⟨some 30, .faddr 1 (.t 5), none, false, []⟩,
⟨some 31, .load 1 false (.t 30), none, false, []⟩,
⟨some 32, .call 73 [(.t 23), (.t 24), (.t 25), (.t 29), (.t 31)], none, false, []⟩,
⟨some 33, .bslice 3 1 1 [.int .i64 0] [(0, (.t 32))], none, false, []⟩,
⟨some 34, .app 3 1 8 [.int .i64 0] (.t 22) (.t 33), none, false, []⟩,
⟨some 8, .mv (.t 34), none, false, []⟩])) (.region false [
⟨some 20, .mv (.t 9), none, false, []⟩,
⟨some 21, .bin .add (.t 20) (.c (.int .i64 1)), none, false, []⟩,
⟨some 9, .mv (.t 21), none, false, []⟩])))
def a23l0 : ACode := .loop [3, 4, 5, 7, 8, 9] [6, 8] a23l0b
def a23 : AFunc := ⟨36, [.tmp 6], (.seq (.region false [
⟨some 3, .box 24 (.t 0), none, false, []⟩,
⟨some 4, .box 27 (.t 1), none, false, []⟩,
⟨some 5, .box 30 (.t 2), none, false, []⟩,
⟨some 6, .nils 1 (.c (.nilSlice)), none, false, []⟩]) (.seq (.region false [
⟨some 10, .load 3 true (.t 3), none, false, []⟩,
⟨some 11, .load 4 true (.t 4), none, false, []⟩,
⟨some 12, .faddr 0 (.t 5), none, false, []⟩,
⟨some 13, .load 1 false (.t 12), none, false, []⟩,
⟨some 14, .call 37 [(.t 10), (.t 11), (.t 13)], none, false, []⟩,
⟨some 7, .mv (.t 14), none, false, []⟩]) (.seq (.region false [
⟨some 8, .nils 1 (.c (.nilSlice)), none, false, []⟩]) (.seq (.seq (.region false [
⟨some 9, .mv (.c (.int .i64 0)), none, false, []⟩]) (.block 0 a23l0)) (.seq (.region false [
⟨some 35, .mv (.t 8), none, false, []⟩,
⟨some 6, .mv (.t 35), none, false, []⟩]) .ret)))))⟩
def a24l0b : ACode := (.seq (.seq (.region false [
⟨some 14, .mv (.t 9), none, false, []⟩,
⟨some 15, .mv (.t 8), none, false, []⟩,
⟨some 16, .len false (.t 15), none, false, []⟩,
⟨some 17, .bin .lss (.t 14) (.t 16), none, false, []⟩]) (.cond (.t 17) .skip (.exit 0))) (.seq (.block 1 (.seq (.region false [
⟨some 20, .mv (.t 8), none, false, []⟩,
⟨some 21, .mv (.t 9), none, false, []⟩,
⟨some 22, .iaddr 1 (.t 20) (.t 21), none, false, []⟩,
⟨some 23, .load 1 false (.t 22), none, false, []⟩,
⟨some 24, .mv (.t 8), none, false, []⟩,
⟨some 25, .len false (.t 24), none, false, []⟩,
⟨some 26, .mv (.t 9), none, false, []⟩,
⟨some 27, .bin .sub (.t 25) (.t 26), none, false, []⟩,
⟨some 28, .bin .lss (.t 23) (.t 27), none, false, []⟩]) (.cond (.t 28) (.region false [
⟨some 29, .mv (.t 7), none, false, []⟩,
⟨some 30, .mv (.t 8), none, false, []⟩,
⟨some 31, .mv (.t 9), none, false, []⟩,
⟨some 32, .iaddr 1 (.t 30) (.t 31), none, false, []⟩,
⟨some 33, .load 1 false (.t 32), none, false, []⟩,
⟨some 34, .minmax false (.t 29) [(.t 33)], none, false, []⟩,
⟨some 7, .mv (.t 34), none, false, []⟩]) .skip))) (.region false [
⟨some 18, .mv (.t 9), none, false, []⟩,
⟨some 19, .bin .add (.t 18) (.c (.int .i64 1)), none, false, []⟩,
⟨some 9, .mv (.t 19), none, false, []⟩])))
def a24l0 : ACode := .loop [7, 8, 9] [6, 7] a24l0b
def a24 : AFunc := ⟨36, [.tmp 6], (.seq (.region false [
⟨some 3, .box 24 (.t 0), none, false, []⟩,
⟨some 4, .box 27 (.t 1), none, false, []⟩,
⟨some 5, .box 30 (.t 2), none, false, []⟩,
⟨some 6, .mv (.c (.int .i64 0)), none, false, []⟩]) (.seq (.region false [
⟨some 7, .mv (.c (.int .i64 10)), none, false, []⟩]) (.seq (.region false [
⟨some 10, .load 3 true (.t 3), none, false, []⟩,
⟨some 11, .load 4 true (.t 4), none, false, []⟩,
⟨some 12, .load 2 true (.t 5), none, false, []⟩,
⟨some 13, .call 23 [(.t 10), (.t 11), (.t 12)], none, false, []⟩,
⟨some 8, .mv (.t 13), none, false, []⟩]) (.seq (.seq (.region false [
⟨some 9, .mv (.c (.int .i64 0)), none, false, []⟩]) (.block 0 a24l0)) (.seq (.region false [
⟨some 35, .mv (.t 7), none, false, []⟩,
⟨some 6, .mv (.t 35), none, false, []⟩]) .ret)))))⟩
def a26 : AFunc := ⟨6, [.tmp 2], (.seq (.region false [
⟨some 2, .nils 1 (.c (.nilSlice)), none, false, []⟩]) (.seq (.region false [
⟨some 3, .bslice 3 1 0 [.int .i64 0] [], none, false, []⟩,
⟨some 4, .mv (.t 0), none, false, []⟩,
⟨some 5, .app 3 1 8 [.int .i64 0] (.t 3) (.t 4), none, false, []⟩,
⟨some 2, .mv (.t 5), none, false, []⟩]) .ret))⟩
def a27 : AFunc := ⟨15, [.tmp 6], (.seq (.region false [
⟨some 6, .mv (.c (.bool false)), none, false, []⟩]) (.seq (.region false [
⟨some 7, .mv (.t 1), none, false, []⟩,
⟨some 8, .mv (.t 0), none, false, []⟩,
⟨some 9, .bin .leq (.t 7) (.t 8), none, false, []⟩,
⟨some 10, .mv (.t 9), none, false, []⟩,
⟨some 11, .mv (.t 0), some (10, true), false, []⟩,
⟨some 12, .mv (.t 2), some (10, true), false, []⟩,
⟨some 13, .bin .leq (.t 11) (.t 12), some (10, true), false, []⟩,
⟨some 14, .pick (.t 10) (.t 13) (.c (.bool false)), none, false, []⟩,
⟨some 6, .mv (.t 14), none, false, []⟩]) .ret))⟩
def a29 : AFunc := ⟨32, [.tmp 4, .tmp 5, .tmp 6], (.seq (.region false [
⟨some 2, .box 24 (.t 0), none, false, []⟩,
⟨some 3, .box 27 (.t 1), none, false, []⟩,
⟨some 4, .nils 1 (.c (.nilSlice)), none, false, []⟩,
⟨some 5, .mv (.c (.int .i64 0)), none, false, []⟩,
⟨some 6, .mv (.c (.int .i64 0)), none, false, []⟩]) (.seq (.region false [
⟨some 13, .load 3 true (.t 2), none, false, []⟩,
⟨some 14, .load 4 true (.t 3), none, false, []⟩,
⟨some 15, .call 74 [(.t 13), (.t 14)], none, false, []⟩,
⟨some 12, .mv (.t 15), none, false, []⟩,
⟨some 16, .ext (.t 12) 0, none, false, []⟩,
⟨some 17, .ext (.t 12) 1, none, false, []⟩,
⟨some 7, .nalloc [0, 0, 4, 0, 0, 0, 3] 112 [.int .i64 0, .int .i64 0, .nilSlice, .int .i64 0, .int .i64 0, .int .i64 0, .nilSlice], none, false, []⟩,
⟨none, .store 7 (.t 7) (.t 16), none, false, []⟩,
⟨some 8, .mv (.t 17), none, false, []⟩]) (.seq (.seq (.region false [
⟨some 18, .mv (.t 8), none, false, []⟩,
⟨some 19, .bin .neq (.t 18) (.c (.int .i64 0)), none, false, []⟩]) (.cond (.t 19) (.seq (.region false [
⟨some 20, .mv (.t 8), none, false, []⟩,
⟨some 4, .nils 1 (.c (.nilSlice)), none, false, []⟩,
⟨some 5, .mv (.c (.int .i64 0)), none, false, []⟩,
⟨some 6, .mv (.t 20), none, false, []⟩]) .ret) .skip)) (.seq (.region false [
⟨some 22, .load 7 true (.t 7), none, false, []⟩,
⟨some 23, .build [.int .i64 0, .int .i64 0] [(0, 1, (.c (.int .i64 (-1))))], none, false, []⟩,
⟨some 24, .call 76 [(.t 22), (.t 23)], none, false, []⟩,
⟨some 21, .mv (.t 24), none, false, []⟩,
⟨some 25, .ext (.t 21) 0, none, false, []⟩,
⟨some 26, .ext (.t 21) 1, none, false, []⟩,
⟨some 27, .ext (.t 21) 2, none, false, []⟩,
⟨some 9, .mv (.t 25), none, false, []⟩,
⟨some 10, .mv (.t 26), none, false, []⟩,
⟨some 11, .mv (.t 27), none, false, []⟩]) (.seq (.region false [
⟨some 28, .mv (.t 9), none, false, []⟩,
⟨some 29, .mv (.t 10), none, false, []⟩,
⟨some 30, .mv (.t 11), none, false, []⟩,
⟨some 31, .call 70 [(.t 30), (.c (.int .i64 12))], none, false, []⟩,
⟨some 4, .mv (.t 28), none, false, []⟩,
⟨some 5, .mv (.t 29), none, false, []⟩,
⟨some 6, .mv (.t 31), none, false, []⟩]) .ret)))))⟩
def a30l0b : ACode := (.seq (.region false [
⟨some 54, .bin .lss (.t 53) (.t 52), none, false, []⟩]) (.seq (.cond (.t 54) .skip (.exit 0)) (.seq (.block 1 (.seq (.region false [
⟨some 55, .mv (.t 53), none, false, []⟩,
⟨some 56, .iaddr 4 (.t 51) (.t 53), none, false, []⟩,
⟨some 57, .load 4 true (.t 56), none, false, []⟩,
⟨some 7, .alloc 110 [.str ByteArray.empty, .int .i64 0, .int .i64 0, .int .i64 0], none, false, []⟩,
⟨some 6, .mv (.t 55), none, false, []⟩,
⟨none, .store 4 (.t 7) (.t 57), none, false, []⟩]) (.seq (.region false [
⟨some 58, .faddr 2 (.t 1), none, false, []⟩,
⟨some 59, .load 1 false (.t 58), none, false, []⟩,
⟨some 60, .mv (.t 6), none, false, []⟩,
⟨some 61, .slice 4 (.t 59) none (some (.t 60)) none, none, false, []⟩,
⟨some 62, .mkf 79 [] [(.t 7)], none, false, []⟩,
⟨some 63, .call 78 [(.t 61), (.t 62)], none, false, []⟩,
⟨some 8, .mv (.t 63), none, false, []⟩]) (.seq (.region false [
⟨some 64, .faddr 1 (.t 7), none, false, []⟩,
⟨some 65, .load 1 false (.t 64), none, false, []⟩,
⟨some 66, .call 80 [(.t 65), (.c (.int .i64 10000))], none, false, []⟩,
⟨some 67, .mv (.t 66), none, false, []⟩,
⟨some 68, .faddr 2 (.t 7), some (67, true), false, []⟩,
⟨some 69, .load 1 false (.t 68), some (67, true), false, []⟩,
⟨some 70, .call 80 [(.t 69), (.c (.int .i64 10000))], some (67, true), false, []⟩,
⟨some 71, .pick (.t 67) (.t 70) (.c (.bool false)), none, false, []⟩,
⟨some 72, .mv (.t 71), none, false, []⟩,
⟨some 73, .faddr 3 (.t 7), some (72, true), false, []⟩,
⟨some 74, .load 1 false (.t 73), some (72, true), false, []⟩,
⟨some 75, .call 75 [(.t 74), (.c (.int .i64 0)), (.c (.int .i64 10000))], some (72, true), false, []⟩,
⟨some 76, .pick (.t 72) (.t 75) (.c (.bool false)), none, false, []⟩,
⟨some 9, .mv (.t 76), none, false, []⟩]) (.seq (.region false [
⟨some 77, .faddr 0 (.t 7), none, false, []⟩,
⟨some 78, .load 1 false (.t 77), none, false, []⟩,
⟨some 79, .call 81 [(.t 78)], none, false, []⟩,
⟨some 80, .call 70 [(.t 79), (.c (.int .i64 4))], none, false, []⟩,
⟨some 81, .mv (.t 8), none, false, []⟩,
⟨some 82, .un .not (.t 81), none, false, []⟩,
⟨some 83, .call 70 [(.t 82), (.c (.int .i64 5))], none, false, []⟩,
⟨some 84, .mv (.t 9), none, false, []⟩,
⟨some 85, .call 70 [(.t 84), (.c (.int .i64 2))], none, false, []⟩,
⟨some 86, .bslice 34 1 3 [.int .i64 0] [(0, (.t 80)), (1, (.t 83)), (2, (.t 85))], none, false, []⟩,
⟨some 87, .call 69 [(.t 86)], none, false, []⟩,
⟨some 10, .mv (.t 87), none, false, []⟩]) (.seq (.region false [
⟨some 88, .mv (.t 10), none, false, []⟩,
⟨some 89, .bin .neq (.t 88) (.c (.int .i64 0)), none, false, []⟩]) (.cond (.t 89) (.seq (.region false [
⟨some 90, .mv (.t 6), none, false, []⟩,
⟨some 91, .mv (.t 10), none, false, []⟩,
⟨some 2, .mv (.t 90), none, false, []⟩,
⟨some 3, .mv (.t 91), none, false, []⟩]) .ret) .skip))))))) (.region false [
⟨some 92, .bin .add (.t 53) (.c (.int .i64 1)), none, false, []⟩,
⟨some 53, .mv (.t 92), none, false, []⟩]))))
def a30l0 : ACode := .loop [1, 51, 52, 53] [2, 3] a30l0b
def a30 : AFunc := ⟨93, [.tmp 2, .tmp 3], (.seq (.region false [
⟨some 1, .box 24 (.t 0), none, false, []⟩,
⟨some 2, .mv (.c (.int .i64 0)), none, false, []⟩,
⟨some 3, .mv (.c (.int .i64 0)), none, false, []⟩]) (.seq (.region false [
⟨some 4, .mv (.c (.func 77 [] [])), none, false, []⟩]) (.seq (.region true [
⟨some 11, .mv (.t 4), none, false, []⟩,
⟨some 12, .faddr 0 (.t 1), none, false, []⟩,
⟨some 13, .load 1 false (.t 12), none, false, []⟩,
⟨some 14, .callv (.t 11) [(.t 13)], none, true, []⟩,
⟨some 15, .mv (.t 14), none, false, []⟩,
⟨some 16, .mv (.t 4), some (15, true), false, []⟩,
⟨some 17, .faddr 1 (.t 1), some (15, true), false, []⟩,
⟨some 18, .load 1 false (.t 17), some (15, true), false, []⟩,
⟨some 19, .callv (.t 16) [(.t 18)], some (15, true), true, []⟩,
⟨some 20, .pick (.t 15) (.t 19) (.c (.bool false)), none, false, []⟩,
⟨some 21, .call 70 [(.t 20), (.c (.int .i64 2))], none, true, []⟩,
⟨some 22, .faddr 0 (.t 1), none, false, []⟩,
⟨some 23, .load 1 false (.t 22), none, true, [3, 8, 10]⟩,
⟨some 24, .faddr 1 (.t 1), none, false, []⟩,
⟨some 25, .load 1 false (.t 24), none, true, [3, 8, 10]⟩,
⟨some 26, .bin .leq (.t 23) (.t 25), none, false, []⟩,
⟨some 27, .call 70 [(.t 26), (.c (.int .i64 9))], none, true, []⟩,
⟨some 28, .faddr 1 (.t 1), none, false, []⟩,
⟨some 29, .load 1 false (.t 28), none, true, [3, 8, 10, 16]⟩,
⟨some 30, .faddr 0 (.t 1), none, false, []⟩,
⟨some 31, .load 1 false (.t 30), none, true, [3, 8, 10, 16]⟩,
⟨some 32, .bin .sub (.t 29) (.t 31), none, false, []⟩,
⟨some 33, .bin .lss (.t 32) (.c (.int .i64 40)), none, false, []⟩,
⟨some 34, .call 70 [(.t 33), (.c (.int .i64 8))], none, true, []⟩,
⟨some 35, .faddr 2 (.t 1), none, false, []⟩,
⟨some 36, .load 1 false (.t 35), none, true, [3, 8, 10, 16, 23]⟩,
⟨some 37, .len false (.t 36), none, false, []⟩,
⟨some 38, .bin .gtr (.t 37) (.c (.int .i64 0)), none, false, []⟩,
⟨some 39, .call 70 [(.t 38), (.c (.int .i64 10))], none, true, []⟩,
⟨some 40, .faddr 2 (.t 1), none, false, []⟩,
⟨some 41, .load 1 false (.t 40), none, true, [3, 8, 10, 16, 23, 28]⟩,
⟨some 42, .len false (.t 41), none, false, []⟩,
⟨some 43, .bin .leq (.t 42) (.c (.int .i64 5)), none, false, []⟩,
⟨some 44, .call 70 [(.t 43), (.c (.int .i64 8))], none, false, []⟩,
⟨some 45, .bslice 34 1 5 [.int .i64 0] [(0, (.t 21)), (1, (.t 27)), (2, (.t 34)), (3, (.t 39)), (4, (.t 44))], none, false, []⟩,
⟨some 46, .call 69 [(.t 45)], none, false, []⟩,
⟨some 5, .mv (.t 46), none, false, []⟩]) (.seq (.seq (.region false [
⟨some 47, .mv (.t 5), none, false, []⟩,
⟨some 48, .bin .neq (.t 47) (.c (.int .i64 0)), none, false, []⟩]) (.cond (.t 48) (.seq (.region false [
⟨some 49, .mv (.t 5), none, false, []⟩,
⟨some 2, .mv (.c (.int .i64 0)), none, false, []⟩,
⟨some 3, .mv (.t 49), none, false, []⟩]) .ret) .skip)) (.seq (.seq (.region false [
⟨some 50, .faddr 2 (.t 1), none, false, []⟩,
⟨some 51, .load 1 false (.t 50), none, false, []⟩,
⟨some 52, .len false (.t 51), none, false, []⟩,
⟨some 53, .mv (.c (.int .i64 0)), none, false, []⟩]) (.block 0 a30l0)) (.seq (.region false [
⟨some 2, .mv (.c (.int .i64 0)), none, false, []⟩,
⟨some 3, .mv (.c (.int .i64 0)), none, false, []⟩]) .ret))))))⟩
def a31l0b : ACode := (.seq (.region false [
⟨some 56, .bin .lss (.t 55) (.t 54), none, false, []⟩]) (.seq (.cond (.t 56) .skip (.exit 0)) (.seq (.block 1 (.seq (.region false [
⟨some 57, .mv (.t 55), none, false, []⟩,
⟨some 58, .iaddr 3 (.t 53) (.t 55), none, false, []⟩,
⟨some 59, .load 3 true (.t 58), none, false, []⟩,
⟨some 9, .alloc 130 [.int .i64 0, .int .i64 0, .int .i64 0], none, false, []⟩,
⟨some 8, .mv (.t 57), none, false, []⟩,
⟨none, .store 3 (.t 9) (.t 59), none, false, []⟩]) (.seq (.region true [
⟨some 60, .faddr 0 (.t 9), none, false, []⟩,
⟨some 61, .load 1 false (.t 60), none, false, []⟩,
⟨some 62, .call 82 [(.t 61)], none, true, []⟩,
⟨some 63, .mv (.t 62), none, false, []⟩,
⟨some 64, .faddr 1 (.t 9), some (63, true), false, []⟩,
⟨some 65, .load 1 false (.t 64), some (63, true), false, []⟩,
⟨some 66, .call 82 [(.t 65)], some (63, true), true, []⟩,
⟨some 67, .pick (.t 63) (.t 66) (.c (.bool false)), none, false, []⟩,
⟨some 68, .mv (.t 67), none, false, []⟩,
⟨some 69, .faddr 2 (.t 9), some (68, true), false, []⟩,
⟨some 70, .load 1 false (.t 69), some (68, true), false, []⟩,
⟨some 71, .call 82 [(.t 70)], some (68, true), true, []⟩,
⟨some 72, .pick (.t 68) (.t 71) (.c (.bool false)), none, false, []⟩,
⟨some 73, .call 70 [(.t 72), (.c (.int .i64 2))], none, true, []⟩,
⟨some 74, .faddr 1 (.t 9), none, false, []⟩,
⟨some 75, .load 1 false (.t 74), none, true, [2, 6, 11, 13]⟩,
⟨some 76, .faddr 0 (.t 9), none, false, []⟩,
⟨some 77, .load 1 false (.t 76), none, true, [2, 6, 11, 13]⟩,
⟨some 78, .bin .leq (.t 75) (.t 77), none, false, []⟩,
⟨some 79, .call 70 [(.t 78), (.c (.int .i64 9))], none, false, []⟩,
⟨some 80, .bslice 34 1 2 [.int .i64 0] [(0, (.t 73)), (1, (.t 79))], none, false, []⟩,
⟨some 81, .call 69 [(.t 80)], none, false, []⟩,
⟨some 10, .mv (.t 81), none, false, []⟩]) (.seq (.region false [
⟨some 82, .mv (.t 10), none, false, []⟩,
⟨some 83, .bin .neq (.t 82) (.c (.int .i64 0)), none, false, []⟩]) (.cond (.t 83) (.seq (.region false [
⟨some 84, .mv (.t 8), none, false, []⟩,
⟨some 85, .mv (.t 10), none, false, []⟩,
⟨some 4, .mv (.t 84), none, false, []⟩,
⟨some 5, .mv (.t 85), none, false, []⟩]) .ret) .skip))))) (.region false [
⟨some 86, .bin .add (.t 55) (.c (.int .i64 1)), none, false, []⟩,
⟨some 55, .mv (.t 86), none, false, []⟩]))))
def a31l0 : ACode := .loop [53, 54, 55] [4, 5] a31l0b
def a31 : AFunc := ⟨87, [.tmp 4, .tmp 5], (.seq (.region false [
⟨some 2, .box 24 (.t 0), none, false, []⟩,
⟨some 3, .box 27 (.t 1), none, false, []⟩,
⟨some 4, .mv (.c (.int .i64 0)), none, false, []⟩,
⟨some 5, .mv (.c (.int .i64 0)), none, false, []⟩]) (.seq (.region false [
⟨some 12, .load 3 true (.t 2), none, false, []⟩,
⟨some 13, .call 30 [(.t 12)], none, false, []⟩,
⟨some 11, .mv (.t 13), none, false, []⟩,
⟨some 14, .ext (.t 11) 0, none, false, []⟩,
⟨some 15, .ext (.t 11) 1, none, false, []⟩,
⟨some 6, .mv (.t 14), none, false, []⟩,
⟨some 7, .mv (.t 15), none, false, []⟩]) (.seq (.region true [
⟨some 16, .mv (.t 7), none, false, []⟩,
⟨some 17, .faddr 0 (.t 3), none, false, []⟩,
⟨some 18, .load 1 false (.t 17), none, false, []⟩,
⟨some 19, .faddr 0 (.t 2), none, false, []⟩,
⟨some 20, .load 1 false (.t 19), none, false, []⟩,
⟨some 21, .faddr 1 (.t 2), none, false, []⟩,
⟨some 22, .load 1 false (.t 21), none, false, []⟩,
⟨some 23, .call 75 [(.t 18), (.t 20), (.t 22)], none, true, []⟩,
⟨some 24, .call 70 [(.t 23), (.c (.int .i64 2))], none, true, []⟩,
⟨some 25, .faddr 1 (.t 3), none, false, []⟩,
⟨some 26, .load 1 false (.t 25), none, true, [7, 8]⟩,
⟨some 27, .faddr 2 (.t 2), none, false, []⟩,
⟨some 28, .load 1 false (.t 27), none, true, [7, 8]⟩,
⟨some 29, .len false (.t 28), none, false, []⟩,
⟨some 30, .bin .sub (.t 29) (.c (.int .i64 1)), none, false, []⟩,
⟨some 31, .call 75 [(.t 26), (.c (.int .i64 0)), (.t 30)], none, true, []⟩,
⟨some 32, .call 70 [(.t 31), (.c (.int .i64 6))], none, true, []⟩,
⟨some 33, .faddr 2 (.t 3), none, false, []⟩,
⟨some 34, .load 1 false (.t 33), none, true, [7, 8, 15, 16]⟩,
⟨some 35, .call 82 [(.t 34)], none, true, []⟩,
⟨some 36, .call 70 [(.t 35), (.c (.int .i64 2))], none, true, []⟩,
⟨some 37, .faddr 3 (.t 3), none, false, []⟩,
⟨some 38, .load 1 false (.t 37), none, true, [7, 8, 15, 16, 19, 20]⟩,
⟨some 39, .len false (.t 38), none, false, []⟩,
⟨some 40, .bin .gtr (.t 39) (.c (.int .i64 0)), none, false, []⟩,
⟨some 41, .call 70 [(.t 40), (.c (.int .i64 10))], none, true, []⟩,
⟨some 42, .faddr 3 (.t 3), none, false, []⟩,
⟨some 43, .load 1 false (.t 42), none, true, [7, 8, 15, 16, 19, 20, 25]⟩,
⟨some 44, .len false (.t 43), none, false, []⟩,
⟨some 45, .bin .leq (.t 44) (.c (.int .i64 10)), none, false, []⟩,
⟨some 46, .call 70 [(.t 45), (.c (.int .i64 8))], none, false, []⟩,
⟨some 47, .bslice 34 1 6 [.int .i64 0] [(0, (.t 16)), (1, (.t 24)), (2, (.t 32)), (3, (.t 36)), (4, (.t 41)), (5, (.t 46))], none, false, []⟩,
⟨some 48, .call 69 [(.t 47)], none, false, []⟩,
⟨some 7, .mv (.t 48), none, false, []⟩]) (.seq (.seq (.region false [
⟨some 49, .mv (.t 7), none, false, []⟩,
⟨some 50, .bin .neq (.t 49) (.c (.int .i64 0)), none, false, []⟩]) (.cond (.t 50) (.seq (.region false [
⟨some 51, .mv (.t 7), none, false, []⟩,
⟨some 4, .mv (.c (.int .i64 0)), none, false, []⟩,
⟨some 5, .mv (.t 51), none, false, []⟩]) .ret) .skip)) (.seq (.seq (.region false [
⟨some 52, .faddr 3 (.t 3), none, false, []⟩,
⟨some 53, .load 1 false (.t 52), none, false, []⟩,
⟨some 54, .len false (.t 53), none, false, []⟩,
⟨some 55, .mv (.c (.int .i64 0)), none, false, []⟩]) (.block 0 a31l0)) (.seq (.region false [
⟨some 4, .mv (.c (.int .i64 0)), none, false, []⟩,
⟨some 5, .mv (.c (.int .i64 0)), none, false, []⟩]) .ret))))))⟩
def a34l0b : ACode := (.seq (.seq (.region false [
⟨some 36, .mv (.t 5), none, false, []⟩,
⟨some 37, .faddr 2 (.t 1), none, false, []⟩,
⟨some 38, .load 1 false (.t 37), none, false, []⟩,
⟨some 39, .len false (.t 38), none, false, []⟩,
⟨some 40, .bin .lss (.t 36) (.t 39), none, false, []⟩]) (.cond (.t 40) .skip (.exit 0))) (.seq (.block 1 (.seq (.seq (.region false [
⟨some 43, .faddr 2 (.t 1), none, false, []⟩,
⟨some 44, .load 1 false (.t 43), none, false, []⟩,
⟨some 45, .mv (.t 5), none, false, []⟩,
⟨some 46, .iaddr 4 (.t 44) (.t 45), none, false, []⟩,
⟨some 47, .load 4 true (.t 46), none, false, []⟩,
⟨some 48, .mv (.t 4), none, false, []⟩,
⟨some 49, .call 85 [(.t 47), (.t 48)], none, false, []⟩,
⟨some 6, .mv (.t 49), none, false, []⟩]) (.seq (.region false [
⟨some 50, .mv (.t 6), none, false, []⟩,
⟨some 51, .bin .neq (.t 50) (.c (.int .i64 0)), none, false, []⟩]) (.cond (.t 51) (.seq (.region false [
⟨some 52, .mv (.t 5), none, false, []⟩,
⟨some 53, .mv (.t 6), none, false, []⟩,
⟨some 2, .mv (.t 52), none, false, []⟩,
⟨some 3, .mv (.t 53), none, false, []⟩]) .ret) .skip))) (.region false [
⟨some 54, .mv (.t 4), none, false, []⟩,
⟨some 55, .faddr 2 (.t 1), none, false, []⟩,
⟨some 56, .load 1 false (.t 55), none, false, []⟩,
⟨some 57, .mv (.t 5), none, false, []⟩,
⟨some 58, .iaddr 4 (.t 56) (.t 57), none, false, []⟩,
⟨some 59, .faddr 0 (.t 58), none, false, []⟩,
⟨some 60, .load 1 false (.t 59), none, false, []⟩,
⟨some 61, .bslice 9 1 1 [.str ByteArray.empty] [(0, (.t 60))], none, false, []⟩,
⟨some 62, .app 9 1 16 [.str ByteArray.empty] (.t 54) (.t 61), none, false, []⟩,
⟨some 4, .mv (.t 62), none, false, []⟩]))) (.region false [
⟨some 41, .mv (.t 5), none, false, []⟩,
⟨some 42, .bin .add (.t 41) (.c (.int .i64 1)), none, false, []⟩,
⟨some 5, .mv (.t 42), none, false, []⟩])))
def a34l0 : ACode := .loop [1, 4, 5] [2, 3] a34l0b
def a34 : AFunc := ⟨63, [.tmp 2, .tmp 3], (.seq (.region false [
⟨some 1, .box 24 (.t 0), none, false, []⟩,
⟨some 2, .mv (.c (.int .i64 0)), none, false, []⟩,
⟨some 3, .mv (.c (.int .i64 0)), none, false, []⟩]) (.seq (.seq (.region false [
⟨some 7, .faddr 0 (.t 1), none, false, []⟩,
⟨some 8, .load 1 false (.t 7), none, false, []⟩,
⟨some 9, .call 27 [(.t 8), (.c (.int .i64 0)), (.c (.int .i64 1000000))], none, false, []⟩,
⟨some 10, .un .not (.t 9), none, false, []⟩,
⟨some 11, .mv (.t 10), none, false, []⟩,
⟨some 12, .faddr 1 (.t 1), some (11, false), false, []⟩,
⟨some 13, .load 1 false (.t 12), some (11, false), false, []⟩,
⟨some 14, .call 27 [(.t 13), (.c (.int .i64 0)), (.c (.int .i64 1000000))], some (11, false), false, []⟩,
⟨some 15, .un .not (.t 14), some (11, false), false, []⟩,
⟨some 16, .pick (.t 11) (.c (.bool true)) (.t 15), none, false, []⟩]) (.cond (.t 16) (.seq (.region false [
⟨some 2, .mv (.c (.int .i64 0)), none, false, []⟩,
⟨some 3, .mv (.c (.int .i64 2)), none, false, []⟩]) .ret) .skip)) (.seq (.seq (.region false [
⟨some 17, .faddr 0 (.t 1), none, false, []⟩,
⟨some 18, .load 1 false (.t 17), none, false, []⟩,
⟨some 19, .faddr 1 (.t 1), none, false, []⟩,
⟨some 20, .load 1 false (.t 19), none, false, []⟩,
⟨some 21, .bin .gtr (.t 18) (.t 20), none, false, []⟩]) (.cond (.t 21) (.seq (.region false [
⟨some 2, .mv (.c (.int .i64 0)), none, false, []⟩,
⟨some 3, .mv (.c (.int .i64 9)), none, false, []⟩]) .ret) .skip)) (.seq (.seq (.region false [
⟨some 22, .faddr 1 (.t 1), none, false, []⟩,
⟨some 23, .load 1 false (.t 22), none, false, []⟩,
⟨some 24, .faddr 0 (.t 1), none, false, []⟩,
⟨some 25, .load 1 false (.t 24), none, false, []⟩,
⟨some 26, .bin .sub (.t 23) (.t 25), none, false, []⟩,
⟨some 27, .bin .geq (.t 26) (.c (.int .i64 40)), none, false, []⟩]) (.cond (.t 27) (.seq (.region false [
⟨some 2, .mv (.c (.int .i64 0)), none, false, []⟩,
⟨some 3, .mv (.c (.int .i64 8)), none, false, []⟩]) .ret) .skip)) (.seq (.seq (.region false [
⟨some 28, .faddr 2 (.t 1), none, false, []⟩,
⟨some 29, .load 1 false (.t 28), none, false, []⟩,
⟨some 30, .len false (.t 29), none, false, []⟩,
⟨some 31, .bin .eql (.t 30) (.c (.int .i64 0)), none, false, []⟩]) (.cond (.t 31) (.seq (.region false [
⟨some 2, .mv (.c (.int .i64 0)), none, false, []⟩,
⟨some 3, .mv (.c (.int .i64 10)), none, false, []⟩]) .ret) .skip)) (.seq (.seq (.region false [
⟨some 32, .faddr 2 (.t 1), none, false, []⟩,
⟨some 33, .load 1 false (.t 32), none, false, []⟩,
⟨some 34, .len false (.t 33), none, false, []⟩,
⟨some 35, .bin .gtr (.t 34) (.c (.int .i64 5)), none, false, []⟩]) (.cond (.t 35) (.seq (.region false [
⟨some 2, .mv (.c (.int .i64 0)), none, false, []⟩,
⟨some 3, .mv (.c (.int .i64 8)), none, false, []⟩]) .ret) .skip)) (.seq (.region false [
⟨some 4, .nils 1 (.c (.nilSlice)), none, false, []⟩]) (.seq (.seq (.region false [
⟨some 5, .mv (.c (.int .i64 0)), none, false, []⟩]) (.block 0 a34l0)) (.seq (.region false [
⟨some 2, .mv (.c (.int .i64 0)), none, false, []⟩,
⟨some 3, .mv (.c (.int .i64 0)), none, false, []⟩]) .ret)))))))))⟩
def a35l0b : ACode := (.seq (.seq (.region false [
⟨some 42, .mv (.t 7), none, false, []⟩,
⟨some 43, .faddr 3 (.t 3), none, false, []⟩,
⟨some 44, .load 1 false (.t 43), none, false, []⟩,
⟨some 45, .len false (.t 44), none, false, []⟩,
⟨some 46, .bin .lss (.t 42) (.t 45), none, false, []⟩]) (.cond (.t 46) .skip (.exit 0))) (.seq (.block 1 (.seq (.region false [
⟨some 49, .faddr 3 (.t 3), none, false, []⟩,
⟨some 50, .load 1 false (.t 49), none, false, []⟩,
⟨some 51, .mv (.t 7), none, false, []⟩,
⟨some 52, .iaddr 3 (.t 50) (.t 51), none, false, []⟩,
⟨some 53, .load 3 true (.t 52), none, false, []⟩,
⟨some 8, .alloc 130 [.int .i64 0, .int .i64 0, .int .i64 0], none, false, []⟩,
⟨none, .store 3 (.t 8) (.t 53), none, false, []⟩]) (.seq (.seq (.region false [
⟨some 54, .faddr 0 (.t 8), none, false, []⟩,
⟨some 55, .load 1 false (.t 54), none, false, []⟩,
⟨some 56, .call 86 [(.t 55)], none, false, []⟩,
⟨some 57, .un .not (.t 56), none, false, []⟩,
⟨some 58, .mv (.t 57), none, false, []⟩,
⟨some 59, .faddr 1 (.t 8), some (58, false), false, []⟩,
⟨some 60, .load 1 false (.t 59), some (58, false), false, []⟩,
⟨some 61, .call 86 [(.t 60)], some (58, false), false, []⟩,
⟨some 62, .un .not (.t 61), some (58, false), false, []⟩,
⟨some 63, .pick (.t 58) (.c (.bool true)) (.t 62), none, false, []⟩,
⟨some 64, .mv (.t 63), none, false, []⟩,
⟨some 65, .faddr 2 (.t 8), some (64, false), false, []⟩,
⟨some 66, .load 1 false (.t 65), some (64, false), false, []⟩,
⟨some 67, .call 86 [(.t 66)], some (64, false), false, []⟩,
⟨some 68, .un .not (.t 67), some (64, false), false, []⟩,
⟨some 69, .pick (.t 64) (.c (.bool true)) (.t 68), none, false, []⟩]) (.cond (.t 69) (.seq (.region false [
⟨some 70, .mv (.t 7), none, false, []⟩,
⟨some 4, .mv (.t 70), none, false, []⟩,
⟨some 5, .mv (.c (.int .i64 2)), none, false, []⟩]) .ret) .skip)) (.seq (.region false [
⟨some 71, .faddr 1 (.t 8), none, false, []⟩,
⟨some 72, .load 1 false (.t 71), none, false, []⟩,
⟨some 73, .faddr 0 (.t 8), none, false, []⟩,
⟨some 74, .load 1 false (.t 73), none, false, []⟩,
⟨some 75, .bin .gtr (.t 72) (.t 74), none, false, []⟩]) (.cond (.t 75) (.seq (.region false [
⟨some 76, .mv (.t 7), none, false, []⟩,
⟨some 4, .mv (.t 76), none, false, []⟩,
⟨some 5, .mv (.c (.int .i64 9)), none, false, []⟩]) .ret) .skip))))) (.region false [
⟨some 47, .mv (.t 7), none, false, []⟩,
⟨some 48, .bin .add (.t 47) (.c (.int .i64 1)), none, false, []⟩,
⟨some 7, .mv (.t 48), none, false, []⟩])))
def a35l0 : ACode := .loop [3, 7] [4, 5] a35l0b
def a35 : AFunc := ⟨77, [.tmp 4, .tmp 5], (.seq (.region false [
⟨some 2, .box 24 (.t 0), none, false, []⟩,
⟨some 3, .box 27 (.t 1), none, false, []⟩,
⟨some 4, .mv (.c (.int .i64 0)), none, false, []⟩,
⟨some 5, .mv (.c (.int .i64 0)), none, false, []⟩]) (.seq (.seq (.region false [
⟨some 9, .load 3 true (.t 2), none, false, []⟩,
⟨some 10, .call 50 [(.t 9)], none, false, []⟩,
⟨some 6, .mv (.t 10), none, false, []⟩]) (.seq (.region false [
⟨some 11, .mv (.t 6), none, false, []⟩,
⟨some 12, .bin .neq (.t 11) (.c (.int .i64 0)), none, false, []⟩]) (.cond (.t 12) (.seq (.region false [
⟨some 13, .mv (.t 6), none, false, []⟩,
⟨some 4, .mv (.c (.int .i64 0)), none, false, []⟩,
⟨some 5, .mv (.t 13), none, false, []⟩]) .ret) .skip))) (.seq (.seq (.region false [
⟨some 14, .faddr 0 (.t 3), none, false, []⟩,
⟨some 15, .load 1 false (.t 14), none, false, []⟩,
⟨some 16, .faddr 0 (.t 2), none, false, []⟩,
⟨some 17, .load 1 false (.t 16), none, false, []⟩,
⟨some 18, .faddr 1 (.t 2), none, false, []⟩,
⟨some 19, .load 1 false (.t 18), none, false, []⟩,
⟨some 20, .call 27 [(.t 15), (.t 17), (.t 19)], none, false, []⟩,
⟨some 21, .un .not (.t 20), none, false, []⟩]) (.cond (.t 21) (.seq (.region false [
⟨some 4, .mv (.c (.int .i64 0)), none, false, []⟩,
⟨some 5, .mv (.c (.int .i64 2)), none, false, []⟩]) .ret) .skip)) (.seq (.seq (.region false [
⟨some 22, .faddr 1 (.t 3), none, false, []⟩,
⟨some 23, .load 1 false (.t 22), none, false, []⟩,
⟨some 24, .faddr 2 (.t 2), none, false, []⟩,
⟨some 25, .load 1 false (.t 24), none, false, []⟩,
⟨some 26, .len false (.t 25), none, false, []⟩,
⟨some 27, .bin .sub (.t 26) (.c (.int .i64 1)), none, false, []⟩,
⟨some 28, .call 27 [(.t 23), (.c (.int .i64 0)), (.t 27)], none, false, []⟩,
⟨some 29, .un .not (.t 28), none, false, []⟩]) (.cond (.t 29) (.seq (.region false [
⟨some 4, .mv (.c (.int .i64 0)), none, false, []⟩,
⟨some 5, .mv (.c (.int .i64 6)), none, false, []⟩]) .ret) .skip)) (.seq (.seq (.region false [
⟨some 30, .faddr 2 (.t 3), none, false, []⟩,
⟨some 31, .load 1 false (.t 30), none, false, []⟩,
⟨some 32, .call 86 [(.t 31)], none, false, []⟩,
⟨some 33, .un .not (.t 32), none, false, []⟩]) (.cond (.t 33) (.seq (.region false [
⟨some 4, .mv (.c (.int .i64 0)), none, false, []⟩,
⟨some 5, .mv (.c (.int .i64 2)), none, false, []⟩]) .ret) .skip)) (.seq (.seq (.region false [
⟨some 34, .faddr 3 (.t 3), none, false, []⟩,
⟨some 35, .load 1 false (.t 34), none, false, []⟩,
⟨some 36, .len false (.t 35), none, false, []⟩,
⟨some 37, .bin .eql (.t 36) (.c (.int .i64 0)), none, false, []⟩]) (.cond (.t 37) (.seq (.region false [
⟨some 4, .mv (.c (.int .i64 0)), none, false, []⟩,
⟨some 5, .mv (.c (.int .i64 10)), none, false, []⟩]) .ret) .skip)) (.seq (.seq (.region false [
⟨some 38, .faddr 3 (.t 3), none, false, []⟩,
⟨some 39, .load 1 false (.t 38), none, false, []⟩,
⟨some 40, .len false (.t 39), none, false, []⟩,
⟨some 41, .bin .gtr (.t 40) (.c (.int .i64 10)), none, false, []⟩]) (.cond (.t 41) (.seq (.region false [
⟨some 4, .mv (.c (.int .i64 0)), none, false, []⟩,
⟨some 5, .mv (.c (.int .i64 8)), none, false, []⟩]) .ret) .skip)) (.seq (.seq (.region false [
⟨some 7, .mv (.c (.int .i64 0)), none, false, []⟩]) (.block 0 a35l0)) (.seq (.region false [
⟨some 4, .mv (.c (.int .i64 0)), none, false, []⟩,
⟨some 5, .mv (.c (.int .i64 0)), none, false, []⟩]) .ret)))))))))⟩
def a36l0b : ACode := (.seq (.seq (.region false [
⟨some 14, .mv (.t 7), none, false, []⟩,
⟨some 15, .mv (.t 2), none, false, []⟩,
⟨some 16, .len false (.t 15), none, false, []⟩,
⟨some 17, .bin .lss (.t 14) (.t 16), none, false, []⟩]) (.cond (.t 17) .skip (.exit 0))) (.seq (.block 1 (.seq (.region true [
⟨some 20, .mv (.t 2), none, false, []⟩,
⟨some 21, .mv (.t 7), none, false, []⟩,
⟨some 22, .iaddr 1 (.t 20) (.t 21), none, false, []⟩,
⟨some 23, .load 1 false (.t 22), none, false, []⟩,
⟨some 24, .faddr 2 (.t 3), none, false, []⟩,
⟨some 25, .load 1 false (.t 24), none, false, []⟩,
⟨some 26, .len false (.t 25), none, false, []⟩,
⟨some 27, .bin .sub (.t 26) (.c (.int .i64 1)), none, false, []⟩,
⟨some 28, .call 27 [(.t 23), (.c (.int .i64 0)), (.t 27)], none, false, []⟩,
⟨some 29, .un .not (.t 28), none, false, []⟩]) (.cond (.t 29) (.seq (.region false [
⟨some 6, .mv (.c (.int .i64 6)), none, false, []⟩]) .ret) .skip))) (.region false [
⟨some 18, .mv (.t 7), none, false, []⟩,
⟨some 19, .bin .add (.t 18) (.c (.int .i64 1)), none, false, []⟩,
⟨some 7, .mv (.t 19), none, false, []⟩])))
def a36l0 : ACode := .loop [2, 3, 4, 7] [2, 3, 4, 6] a36l0b
def a36 : AFunc := ⟨35, [.tmp 6], (.seq (.region false [
⟨some 3, .box 24 (.t 0), none, false, []⟩,
⟨some 4, .box 27 (.t 1), none, false, []⟩,
⟨some 6, .mv (.c (.int .i64 0)), none, false, []⟩]) (.seq (.seq (.region false [
⟨some 8, .mv (.t 2), none, false, []⟩,
⟨some 9, .len false (.t 8), none, false, []⟩,
⟨some 10, .faddr 3 (.t 4), none, false, []⟩,
⟨some 11, .load 1 false (.t 10), none, false, []⟩,
⟨some 12, .len false (.t 11), none, false, []⟩,
⟨some 13, .bin .neq (.t 9) (.t 12), none, false, []⟩]) (.cond (.t 13) (.seq (.region false [
⟨some 6, .mv (.c (.int .i64 10)), none, false, []⟩]) .ret) .skip)) (.seq (.seq (.region false [
⟨some 7, .mv (.c (.int .i64 0)), none, false, []⟩]) (.block 0 a36l0)) (.seq (.seq (.region false [
⟨some 30, .load 3 true (.t 3), none, false, []⟩,
⟨some 31, .load 4 true (.t 4), none, false, []⟩,
⟨some 32, .mv (.t 2), none, false, []⟩,
⟨some 33, .call 87 [(.t 30), (.t 31), (.t 32)], none, false, []⟩,
⟨some 34, .un .not (.t 33), none, false, []⟩]) (.cond (.t 34) (.seq (.region false [
⟨some 6, .mv (.c (.int .i64 22)), none, false, []⟩]) .ret) .skip)) (.seq (.region false [
⟨some 6, .mv (.c (.int .i64 0)), none, false, []⟩]) .ret)))))⟩
def a37l0b : ACode := (.seq (.seq (.region false [
⟨some 12, .mv (.t 8), none, false, []⟩,
⟨some 13, .mv (.t 2), none, false, []⟩,
⟨some 14, .len false (.t 13), none, false, []⟩,
⟨some 15, .bin .lss (.t 12) (.t 14), none, false, []⟩]) (.cond (.t 15) .skip (.exit 0))) (.seq (.block 1 (.region true [
⟨some 18, .mv (.t 7), none, false, []⟩,
⟨some 19, .mv (.t 7), none, false, []⟩,
⟨some 20, .mv (.t 8), none, false, []⟩,
⟨some 21, .iaddr 1 (.t 19) (.t 20), none, false, []⟩,
⟨some 22, .load 1 false (.t 21), none, false, []⟩,
⟨some 23, .faddr 3 (.t 4), none, false, []⟩,
⟨some 24, .load 1 false (.t 23), none, false, []⟩,
⟨some 25, .mv (.t 8), none, false, []⟩,
⟨some 26, .iaddr 3 (.t 24) (.t 25), none, false, []⟩,
⟨some 27, .faddr 2 (.t 26), none, false, []⟩,
⟨some 28, .load 1 false (.t 27), none, false, []⟩,
⟨some 29, .bin .add (.t 22) (.t 28), none, false, []⟩,
⟨some 30, .faddr 2 (.t 3), none, false, []⟩,
⟨some 31, .load 1 false (.t 30), none, false, []⟩,
⟨some 32, .mv (.t 2), none, false, []⟩,
⟨some 33, .mv (.t 8), none, false, []⟩,
⟨some 34, .iaddr 1 (.t 32) (.t 33), none, false, []⟩,
⟨some 35, .load 1 false (.t 34), none, false, []⟩,
⟨some 36, .iaddr 4 (.t 31) (.t 35), none, false, []⟩,
⟨some 37, .faddr 1 (.t 36), none, false, []⟩,
⟨some 38, .load 1 false (.t 37), none, false, []⟩,
⟨some 39, .bin .add (.t 29) (.t 38), none, false, []⟩,
⟨some 40, .bslice 3 1 1 [.int .i64 0] [(0, (.t 39))], none, false, []⟩,
⟨some 41, .app 3 1 8 [.int .i64 0] (.t 18) (.t 40), none, false, []⟩,
⟨some 7, .mv (.t 41), none, false, []⟩])) (.region false [
⟨some 16, .mv (.t 8), none, false, []⟩,
⟨some 17, .bin .add (.t 16) (.c (.int .i64 1)), none, false, []⟩,
⟨some 8, .mv (.t 17), none, false, []⟩])))
def a37l0 : ACode := .loop [2, 3, 4, 7, 8] [6, 7] a37l0b
def a37 : AFunc := ⟨43, [.tmp 6], (.seq (.region false [
⟨some 3, .box 24 (.t 0), none, false, []⟩,
⟨some 4, .box 27 (.t 1), none, false, []⟩,
⟨some 6, .nils 1 (.c (.nilSlice)), none, false, []⟩]) (.seq (.region false [
⟨some 9, .faddr 0 (.t 4), none, false, []⟩,
⟨some 10, .load 1 false (.t 9), none, false, []⟩,
⟨some 11, .bslice 3 1 1 [.int .i64 0] [(0, (.t 10))], none, false, []⟩,
⟨some 7, .mv (.t 11), none, false, []⟩]) (.seq (.seq (.region false [
⟨some 8, .mv (.c (.int .i64 0)), none, false, []⟩]) (.block 0 a37l0)) (.seq (.region false [
⟨some 42, .mv (.t 7), none, false, []⟩,
⟨some 6, .mv (.t 42), none, false, []⟩]) .ret))))⟩
def a40 : AFunc := ⟨37, [.tmp 6, .tmp 7], (.seq (.region false [
⟨some 3, .box 24 (.t 0), none, false, []⟩,
⟨some 4, .box 27 (.t 1), none, false, []⟩,
⟨some 5, .box 3 (.t 2), none, false, []⟩,
⟨some 6, .nils 1 (.c (.nilSlice)), none, false, []⟩,
⟨some 7, .mv (.c (.int .i64 0)), none, false, []⟩]) (.seq (.region false [
⟨some 12, .load 3 true (.t 3), none, false, []⟩,
⟨some 13, .load 4 true (.t 4), none, false, []⟩,
⟨some 14, .call 74 [(.t 12), (.t 13)], none, false, []⟩,
⟨some 11, .mv (.t 14), none, false, []⟩,
⟨some 15, .ext (.t 11) 0, none, false, []⟩,
⟨some 16, .ext (.t 11) 1, none, false, []⟩,
⟨some 8, .nalloc [0, 0, 4, 0, 0, 0, 3] 112 [.int .i64 0, .int .i64 0, .nilSlice, .int .i64 0, .int .i64 0, .int .i64 0, .nilSlice], none, false, []⟩,
⟨none, .store 7 (.t 8) (.t 15), none, false, []⟩,
⟨some 9, .mv (.t 16), none, false, []⟩]) (.seq (.seq (.region false [
⟨some 17, .mv (.t 9), none, false, []⟩,
⟨some 18, .load 1 false (.t 5), none, false, []⟩,
⟨some 19, .faddr 3 (.t 4), none, false, []⟩,
⟨some 20, .load 1 false (.t 19), none, false, []⟩,
⟨some 21, .len false (.t 20), none, false, []⟩,
⟨some 22, .call 75 [(.t 18), (.c (.int .i64 0)), (.t 21)], none, false, []⟩,
⟨some 23, .call 70 [(.t 22), (.c (.int .i64 2))], none, false, []⟩,
⟨some 24, .bslice 34 1 2 [.int .i64 0] [(0, (.t 17)), (1, (.t 23))], none, false, []⟩,
⟨some 25, .call 69 [(.t 24)], none, false, []⟩,
⟨some 9, .mv (.t 25), none, false, []⟩]) (.seq (.region false [
⟨some 26, .mv (.t 9), none, false, []⟩,
⟨some 27, .bin .neq (.t 26) (.c (.int .i64 0)), none, false, []⟩]) (.cond (.t 27) (.seq (.region false [
⟨some 28, .mv (.t 9), none, false, []⟩,
⟨some 6, .nils 1 (.c (.nilSlice)), none, false, []⟩,
⟨some 7, .mv (.t 28), none, false, []⟩]) .ret) .skip))) (.seq (.region false [
⟨some 29, .load 7 true (.t 8), none, false, []⟩,
⟨some 30, .build [.int .i64 0, .int .i64 0] [(0, 1, (.c (.int .i64 (-1))))], none, false, []⟩,
⟨some 31, .call 89 [(.t 29), (.t 30)], none, false, []⟩,
⟨some 10, .nalloc [1] 73 [.nilSlice], none, false, []⟩,
⟨none, .store 1 (.t 10) (.t 31), none, false, []⟩]) (.seq (.region false [
⟨some 32, .load 7 true (.t 8), none, false, []⟩,
⟨some 33, .load 1 false (.t 5), none, false, []⟩,
⟨some 34, .call 91 [(.t 32), (.t 33)], none, false, []⟩,
⟨some 35, .mkf 92 [] [(.t 10), (.t 5), (.t 8)], none, false, []⟩,
⟨some 36, .call 90 [(.t 34), (.t 35)], none, false, []⟩,
⟨some 6, .mv (.t 36), none, false, []⟩,
⟨some 7, .mv (.c (.int .i64 0)), none, false, []⟩]) .ret)))))⟩
def a50 : AFunc := ⟨11, [.tmp 2], (.seq (.region false [
⟨some 1, .box 24 (.t 0), none, false, []⟩,
⟨some 2, .mv (.c (.int .i64 0)), none, false, []⟩]) (.seq (.region false [
⟨some 6, .load 3 true (.t 1), none, false, []⟩,
⟨some 7, .call 34 [(.t 6)], none, false, []⟩,
⟨some 5, .mv (.t 7), none, false, []⟩,
⟨some 8, .ext (.t 5) 0, none, false, []⟩,
⟨some 9, .ext (.t 5) 1, none, false, []⟩,
⟨some 3, .mv (.t 8), none, false, []⟩,
⟨some 4, .mv (.t 9), none, false, []⟩]) (.seq (.region false [
⟨some 10, .mv (.t 4), none, false, []⟩,
⟨some 2, .mv (.t 10), none, false, []⟩]) .ret)))⟩
def a51l0b : ACode := (.seq (.region false [
⟨some 26, .bin .lss (.t 25) (.t 24), none, false, []⟩]) (.seq (.cond (.t 26) .skip (.exit 0)) (.seq (.block 1 (.seq (.region false [
⟨some 27, .mv (.t 25), none, false, []⟩,
⟨some 28, .iaddr 3 (.t 23) (.t 25), none, false, []⟩,
⟨some 29, .load 3 true (.t 28), none, false, []⟩,
⟨some 6, .alloc 87 [.str ByteArray.empty, .int .i64 0, .int .i64 0], none, false, []⟩,
⟨some 5, .mv (.t 27), none, false, []⟩,
⟨none, .store 3 (.t 6) (.t 29), none, false, []⟩]) (.seq (.region false [
⟨some 30, .mv (.t 0), none, false, []⟩,
⟨some 31, .mv (.t 5), none, false, []⟩,
⟨some 32, .slice 3 (.t 30) none (some (.t 31)) none, none, false, []⟩,
⟨some 33, .mkf 104 [] [(.t 6)], none, false, []⟩,
⟨some 34, .call 103 [(.t 32), (.t 33)], none, false, []⟩,
⟨some 7, .mv (.t 34), none, false, []⟩]) (.seq (.region false [
⟨some 35, .faddr 1 (.t 6), none, false, []⟩,
⟨some 36, .load 1 false (.t 35), none, false, []⟩,
⟨some 37, .call 75 [(.t 36), (.c (.int .i64 0)), (.c (.int .i64 100000))], none, false, []⟩,
⟨some 38, .mv (.t 37), none, false, []⟩,
⟨some 39, .faddr 2 (.t 6), some (38, true), false, []⟩,
⟨some 40, .load 1 false (.t 39), some (38, true), false, []⟩,
⟨some 41, .call 75 [(.t 40), (.c (.int .i64 1)), (.c (.int .i64 100000))], some (38, true), false, []⟩,
⟨some 42, .pick (.t 38) (.t 41) (.c (.bool false)), none, false, []⟩,
⟨some 8, .mv (.t 42), none, false, []⟩]) (.seq (.region false [
⟨some 43, .faddr 0 (.t 6), none, false, []⟩,
⟨some 44, .load 1 false (.t 43), none, false, []⟩,
⟨some 45, .call 81 [(.t 44)], none, false, []⟩,
⟨some 46, .call 70 [(.t 45), (.c (.int .i64 4))], none, false, []⟩,
⟨some 47, .mv (.t 7), none, false, []⟩,
⟨some 48, .un .not (.t 47), none, false, []⟩,
⟨some 49, .call 70 [(.t 48), (.c (.int .i64 5))], none, false, []⟩,
⟨some 50, .mv (.t 8), none, false, []⟩,
⟨some 51, .call 70 [(.t 50), (.c (.int .i64 2))], none, false, []⟩,
⟨some 52, .bslice 34 1 3 [.int .i64 0] [(0, (.t 46)), (1, (.t 49)), (2, (.t 51))], none, false, []⟩,
⟨some 53, .call 69 [(.t 52)], none, false, []⟩,
⟨some 9, .mv (.t 53), none, false, []⟩]) (.seq (.region false [
⟨some 54, .mv (.t 9), none, false, []⟩,
⟨some 55, .bin .neq (.t 54) (.c (.int .i64 0)), none, false, []⟩]) (.cond (.t 55) (.seq (.region false [
⟨some 56, .mv (.t 5), none, false, []⟩,
⟨some 57, .mv (.t 9), none, false, []⟩,
⟨some 2, .mv (.t 56), none, false, []⟩,
⟨some 3, .mv (.t 57), none, false, []⟩]) .ret) .skip))))))) (.region false [
⟨some 58, .bin .add (.t 25) (.c (.int .i64 1)), none, false, []⟩,
⟨some 25, .mv (.t 58), none, false, []⟩]))))
def a51l0 : ACode := .loop [0, 23, 24, 25] [2, 3] a51l0b
def a51 : AFunc := ⟨59, [.tmp 2, .tmp 3], (.seq (.region false [
⟨some 2, .mv (.c (.int .i64 0)), none, false, []⟩,
⟨some 3, .mv (.c (.int .i64 0)), none, false, []⟩]) (.seq (.seq (.region false [
⟨some 10, .mv (.t 0), none, false, []⟩,
⟨some 11, .len false (.t 10), none, false, []⟩,
⟨some 12, .bin .gtr (.t 11) (.c (.int .i64 0)), none, false, []⟩,
⟨some 13, .call 70 [(.t 12), (.c (.int .i64 10))], none, false, []⟩,
⟨some 14, .mv (.t 0), none, false, []⟩,
⟨some 15, .len false (.t 14), none, false, []⟩,
⟨some 16, .bin .leq (.t 15) (.c (.int .i64 8)), none, false, []⟩,
⟨some 17, .call 70 [(.t 16), (.c (.int .i64 8))], none, false, []⟩,
⟨some 18, .bslice 34 1 2 [.int .i64 0] [(0, (.t 13)), (1, (.t 17))], none, false, []⟩,
⟨some 19, .call 69 [(.t 18)], none, false, []⟩,
⟨some 4, .mv (.t 19), none, false, []⟩]) (.seq (.region false [
⟨some 20, .mv (.t 4), none, false, []⟩,
⟨some 21, .bin .neq (.t 20) (.c (.int .i64 0)), none, false, []⟩]) (.cond (.t 21) (.seq (.region false [
⟨some 22, .mv (.t 4), none, false, []⟩,
⟨some 2, .mv (.c (.int .i64 0)), none, false, []⟩,
⟨some 3, .mv (.t 22), none, false, []⟩]) .ret) .skip))) (.seq (.seq (.region false [
⟨some 23, .mv (.t 0), none, false, []⟩,
⟨some 24, .len false (.t 23), none, false, []⟩,
⟨some 25, .mv (.c (.int .i64 0)), none, false, []⟩]) (.block 0 a51l0)) (.seq (.region false [
⟨some 2, .mv (.c (.int .i64 0)), none, false, []⟩,
⟨some 3, .mv (.c (.int .i64 0)), none, false, []⟩]) .ret))))⟩
def a54l0b : ACode := (.seq (.region false [
⟨some 35, .bin .lss (.t 34) (.t 33), none, false, []⟩]) (.seq (.cond (.t 35) .skip (.exit 2)) (.seq (.block 3 (.seq (.region false [
⟨some 36, .mv (.t 34), none, false, []⟩,
⟨some 37, .iaddr 1 (.t 32) (.t 34), none, false, []⟩,
⟨some 38, .load 1 false (.t 37), none, false, []⟩,
⟨some 11, .mv (.t 36), none, false, []⟩,
⟨some 12, .mv (.t 38), none, false, []⟩]) (.seq (.region false [
⟨some 39, .mv (.t 7), none, false, []⟩,
⟨some 40, .call 111 [(.t 39)], none, false, []⟩,
⟨some 41, .mv (.t 11), none, false, []⟩,
⟨some 42, .mv (.t 11), none, false, []⟩,
⟨some 43, .bin .add (.t 42) (.c (.int .i64 1)), none, false, []⟩,
⟨some 44, .call 110 [(.t 40), (.t 41), (.t 43)], none, false, []⟩,
⟨some 13, .mv (.t 44), none, false, []⟩]) (.seq (.region false [
⟨some 45, .mv (.t 5), none, false, []⟩,
⟨some 46, .mv (.t 12), none, false, []⟩,
⟨some 47, .bslice 3 1 1 [.int .i64 0] [(0, (.t 46))], none, false, []⟩,
⟨some 48, .mv (.t 5), none, false, []⟩,
⟨some 49, .mv (.t 13), none, false, []⟩,
⟨some 50, .call 109 [(.t 48), (.t 49)], none, false, []⟩,
⟨some 51, .app 3 1 8 [.int .i64 0] (.t 47) (.t 50), none, false, []⟩,
⟨some 52, .mv (.t 10), none, false, []⟩,
⟨some 53, .call 107 [(.t 45), (.t 51), (.t 52)], none, false, []⟩,
⟨some 54, .mv (.t 8), none, false, []⟩,
⟨some 55, .bin .leq (.t 53) (.t 54), none, false, []⟩]) (.cond (.t 55) (.seq (.region true [
⟨some 56, .mv (.t 9), none, false, []⟩,
⟨some 57, .mv (.t 12), none, false, []⟩,
⟨some 58, .bslice 3 1 1 [.int .i64 0] [(0, (.t 57))], none, true, []⟩,
⟨some 59, .app 3 1 8 [.int .i64 0] (.t 56) (.t 58), none, false, []⟩,
⟨some 60, .mv (.t 13), none, false, []⟩,
⟨some 61, .mv (.t 10), none, false, []⟩,
⟨some 62, .mv (.t 5), none, false, []⟩,
⟨some 63, .mv (.t 12), none, false, []⟩,
⟨some 64, .iaddr 3 (.t 62) (.t 63), none, false, []⟩,
⟨some 65, .faddr 2 (.t 64), none, false, []⟩,
⟨some 66, .load 1 false (.t 65), none, true, [2, 3]⟩,
⟨some 67, .bin .add (.t 61) (.t 66), none, false, []⟩,
⟨some 9, .mv (.t 59), none, false, []⟩,
⟨some 7, .mv (.t 60), none, false, []⟩,
⟨some 10, .mv (.t 67), none, false, []⟩]) (.exit 2)) .skip))))) (.region false [
⟨some 68, .bin .add (.t 34) (.c (.int .i64 1)), none, false, []⟩,
⟨some 34, .mv (.t 68), none, false, []⟩]))))
def a54l0 : ACode := .loop [5, 7, 8, 9, 10, 32, 33, 34] [2, 3, 4, 5, 7, 8, 9, 10] a54l0b
def a54l1b : ACode := (.seq (.seq (.region false [
⟨some 29, .mv (.t 7), none, false, []⟩,
⟨some 30, .len false (.t 29), none, false, []⟩,
⟨some 31, .bin .gtr (.t 30) (.c (.int .i64 0)), none, false, []⟩]) (.cond (.t 31) .skip (.exit 0))) (.block 1 (.seq (.region false [
⟨some 32, .mv (.t 7), none, false, []⟩,
⟨some 33, .len false (.t 32), none, false, []⟩,
⟨some 34, .mv (.c (.int .i64 0)), none, false, []⟩]) (.block 2 a54l0))))
def a54l1 : ACode := .loop [5, 7, 8, 9, 10] [2, 3, 4, 8, 9] a54l1b
def a54 : AFunc := ⟨71, [.tmp 2, .tmp 3, .tmp 4], (.seq (.region false [
⟨some 2, .nils 1 (.c (.nilSlice)), none, false, []⟩,
⟨some 3, .mv (.c (.int .i64 0)), none, false, []⟩,
⟨some 4, .mv (.c (.int .i64 0)), none, false, []⟩]) (.seq (.region false [
⟨some 15, .mv (.t 0), none, false, []⟩,
⟨some 16, .call 105 [(.t 15)], none, false, []⟩,
⟨some 14, .mv (.t 16), none, false, []⟩,
⟨some 17, .ext (.t 14) 0, none, false, []⟩,
⟨some 18, .ext (.t 14) 1, none, false, []⟩,
⟨some 5, .mv (.t 17), none, false, []⟩,
⟨some 6, .mv (.t 18), none, false, []⟩]) (.seq (.seq (.region false [
⟨some 19, .mv (.t 6), none, false, []⟩,
⟨some 20, .bin .neq (.t 19) (.c (.int .i64 0)), none, false, []⟩]) (.cond (.t 20) (.seq (.region false [
⟨some 21, .mv (.t 6), none, false, []⟩,
⟨some 2, .nils 1 (.c (.nilSlice)), none, false, []⟩,
⟨some 3, .mv (.c (.int .i64 0)), none, false, []⟩,
⟨some 4, .mv (.t 21), none, false, []⟩]) .ret) .skip)) (.seq (.region false [
⟨some 22, .mv (.t 5), none, false, []⟩,
⟨some 23, .call 108 [(.t 22)], none, false, []⟩,
⟨some 7, .mv (.t 23), none, false, []⟩]) (.seq (.region false [
⟨some 24, .mv (.t 5), none, false, []⟩,
⟨some 25, .mv (.t 5), none, false, []⟩,
⟨some 26, .mv (.t 7), none, false, []⟩,
⟨some 27, .call 109 [(.t 25), (.t 26)], none, false, []⟩,
⟨some 28, .call 107 [(.t 24), (.t 27), (.c (.int .i64 0))], none, false, []⟩,
⟨some 8, .mv (.t 28), none, false, []⟩]) (.seq (.region false [
⟨some 9, .nils 1 (.c (.nilSlice)), none, false, []⟩]) (.seq (.region false [
⟨some 10, .mv (.c (.int .i64 0)), none, false, []⟩]) (.seq (.block 0 a54l1) (.seq (.region false [
⟨some 69, .mv (.t 9), none, false, []⟩,
⟨some 70, .mv (.t 8), none, false, []⟩,
⟨some 2, .mv (.t 69), none, false, []⟩,
⟨some 3, .mv (.t 70), none, false, []⟩,
⟨some 4, .mv (.c (.int .i64 0)), none, false, []⟩]) .ret)))))))))⟩
def a64 : AFunc := ⟨6, [.cell 0 3 true], (.seq (.region false [
⟨some 0, .nalloc [0, 0, 4] 24 [.int .i64 0, .int .i64 0, .nilSlice], none, false, []⟩]) (.seq (.region false [
⟨some 1, .build [.str ByteArray.empty, .int .i64 0, .int .i64 0, .int .i64 0] [(0, 1, (.c (.str ⟨#[114, 101, 115, 116]⟩)))], none, false, []⟩,
⟨some 2, .build [.str ByteArray.empty, .int .i64 0, .int .i64 0, .int .i64 0] [(0, 1, (.c (.str ⟨#[112, 117, 109, 112]⟩))), (1, 1, (.c (.int .i64 3))), (2, 1, (.c (.int .i64 (-4)))), (3, 1, (.c (.int .i64 5)))], none, false, []⟩,
⟨some 3, .build [.str ByteArray.empty, .int .i64 0, .int .i64 0, .int .i64 0] [(0, 1, (.c (.str ⟨#[116, 117, 114, 98, 105, 110, 101]⟩))), (1, 1, (.c (.int .i64 (-3)))), (2, 1, (.c (.int .i64 3))), (3, 1, (.c (.int .i64 2)))], none, false, []⟩,
⟨some 4, .bslice 110 4 3 [.str ByteArray.empty, .int .i64 0, .int .i64 0, .int .i64 0] [(0, (.t 1)), (1, (.t 2)), (2, (.t 3))], none, false, []⟩,
⟨some 5, .nbuild [0, 0, 4] [.int .i64 0, .int .i64 0, .nilSlice] [(1, 1, (.c (.int .i64 10))), (2, 1, (.t 4))], none, false, []⟩,
⟨none, .store 3 (.t 0) (.t 5), none, false, []⟩]) .ret))⟩
def a65 : AFunc := ⟨5, [.cell 0 4 true], (.seq (.region false [
⟨some 0, .nalloc [0, 0, 0, 3] 27 [.int .i64 0, .int .i64 0, .int .i64 0, .nilSlice], none, false, []⟩]) (.seq (.region false [
⟨some 1, .build [.int .i64 0, .int .i64 0, .int .i64 0] [(0, 1, (.c (.int .i64 2))), (1, 1, (.c (.int .i64 1)))], none, false, []⟩,
⟨some 2, .build [.int .i64 0, .int .i64 0, .int .i64 0] [(0, 1, (.c (.int .i64 12))), (1, 1, (.c (.int .i64 10))), (2, 1, (.c (.int .i64 1)))], none, false, []⟩,
⟨some 3, .bslice 130 3 2 [.int .i64 0, .int .i64 0, .int .i64 0] [(0, (.t 1)), (1, (.t 2))], none, false, []⟩,
⟨some 4, .nbuild [0, 0, 0, 3] [.int .i64 0, .int .i64 0, .int .i64 0, .nilSlice] [(0, 1, (.c (.int .i64 4))), (2, 1, (.c (.int .i64 1))), (3, 1, (.t 3))], none, false, []⟩,
⟨none, .store 4 (.t 0) (.t 4), none, false, []⟩]) .ret))⟩
def a66l0b : ACode := (.seq (.region false [
⟨some 31, .bin .lss (.t 30) (.t 29), none, false, []⟩]) (.seq (.cond (.t 31) .skip (.exit 0)) (.seq (.block 1 (.seq (.region false [
⟨some 32, .mv (.t 30), none, false, []⟩,
⟨some 33, .iaddr 1 (.t 28) (.t 30), none, false, []⟩,
⟨some 34, .load 1 false (.t 33), none, false, []⟩,
⟨some 8, .mv (.t 32), none, false, []⟩,
⟨some 9, .mv (.t 34), none, false, []⟩]) (.seq (.region false [
⟨some 35, .mv (.t 1), none, false, []⟩,
⟨some 36, .mv (.t 8), none, false, []⟩,
⟨some 37, .iaddr 1 (.t 35) (.t 36), none, false, []⟩,
⟨some 38, .load 1 false (.t 37), none, false, []⟩,
⟨some 10, .mv (.t 38), none, false, []⟩]) (.seq (.region false [
⟨some 11, .mv (.c (.int .i64 0)), none, false, []⟩]) (.seq (.seq (.region false [
⟨some 39, .mv (.t 9), none, false, []⟩,
⟨some 40, .bin .gtr (.t 39) (.c (.int .i64 0)), none, false, []⟩,
⟨some 41, .mv (.t 40), none, false, []⟩,
⟨some 42, .mv (.t 10), some (41, true), false, []⟩,
⟨some 43, .bin .gtr (.t 42) (.c (.int .i64 0)), some (41, true), false, []⟩,
⟨some 44, .pick (.t 41) (.t 43) (.c (.bool false)), none, false, []⟩,
⟨some 45, .mv (.t 44), none, false, []⟩,
⟨some 46, .mv (.t 9), some (45, false), false, []⟩,
⟨some 47, .bin .lss (.t 46) (.c (.int .i64 0)), some (45, false), false, []⟩,
⟨some 48, .mv (.t 47), some (45, false), false, []⟩,
⟨some 49, .mv (.t 10), some (48, true), false, []⟩,
⟨some 50, .bin .lss (.t 49) (.c (.int .i64 0)), some (48, true), false, []⟩,
⟨some 51, .pick (.t 48) (.t 50) (.c (.bool false)), some (45, false), false, []⟩,
⟨some 52, .pick (.t 45) (.c (.bool true)) (.t 51), none, false, []⟩]) (.cond (.t 52) (.region false [
⟨some 53, .mv (.t 9), none, false, []⟩,
⟨some 54, .call 119 [(.t 53)], none, false, []⟩,
⟨some 55, .mv (.t 10), none, false, []⟩,
⟨some 56, .call 119 [(.t 55)], none, false, []⟩,
⟨some 57, .minmax false (.t 54) [(.t 56)], none, false, []⟩,
⟨some 11, .mv (.t 57), none, false, []⟩]) .skip)) (.seq (.region false [
⟨some 58, .faddr 0 (.t 7), none, false, []⟩,
⟨some 59, .load 1 false (.t 58), none, false, []⟩,
⟨some 60, .mv (.t 11), none, false, []⟩,
⟨some 61, .bin .add (.t 59) (.t 60), none, false, []⟩,
⟨some 62, .faddr 0 (.t 7), none, false, []⟩,
⟨none, .store 1 (.t 62) (.t 61), none, false, []⟩]) (.seq (.region true [
⟨some 63, .faddr 1 (.t 7), none, false, []⟩,
⟨some 64, .load 1 false (.t 63), none, true, []⟩,
⟨some 65, .mv (.t 9), none, false, []⟩,
⟨some 66, .call 119 [(.t 65)], none, true, []⟩,
⟨some 67, .mv (.t 11), none, false, []⟩,
⟨some 68, .bin .sub (.t 66) (.t 67), none, false, []⟩,
⟨some 69, .bin .add (.t 64) (.t 68), none, false, []⟩,
⟨some 70, .faddr 1 (.t 7), none, false, []⟩,
⟨none, .store 1 (.t 70) (.t 69), none, false, []⟩]) (.region true [
⟨some 71, .faddr 2 (.t 7), none, false, []⟩,
⟨some 72, .load 1 false (.t 71), none, true, []⟩,
⟨some 73, .mv (.t 10), none, false, []⟩,
⟨some 74, .call 119 [(.t 73)], none, true, []⟩,
⟨some 75, .mv (.t 11), none, false, []⟩,
⟨some 76, .bin .sub (.t 74) (.t 75), none, false, []⟩,
⟨some 77, .bin .add (.t 72) (.t 76), none, false, []⟩,
⟨some 78, .faddr 2 (.t 7), none, false, []⟩,
⟨none, .store 1 (.t 78) (.t 77), none, false, []⟩])))))))) (.region false [
⟨some 79, .bin .add (.t 30) (.c (.int .i64 1)), none, false, []⟩,
⟨some 30, .mv (.t 79), none, false, []⟩]))))
def a66l0 : ACode := .loop [1, 4, 7, 28, 29, 30] [4, 5, 7] a66l0b
def a66 : AFunc := ⟨81, [.cell 4 3 true, .tmp 5], (.seq (.region false [
⟨some 4, .alloc 105 [.int .i64 0, .int .i64 0, .int .i64 0], none, false, []⟩,
⟨some 5, .mv (.c (.int .i64 0)), none, false, []⟩]) (.seq (.seq (.region false [
⟨some 12, .mv (.t 0), none, false, []⟩,
⟨some 13, .call 118 [(.t 12)], none, false, []⟩,
⟨some 14, .mv (.t 1), none, false, []⟩,
⟨some 15, .call 118 [(.t 14)], none, false, []⟩,
⟨some 16, .mv (.t 0), none, false, []⟩,
⟨some 17, .len false (.t 16), none, false, []⟩,
⟨some 18, .mv (.t 1), none, false, []⟩,
⟨some 19, .len false (.t 18), none, false, []⟩,
⟨some 20, .bin .eql (.t 17) (.t 19), none, false, []⟩,
⟨some 21, .call 70 [(.t 20), (.c (.int .i64 10))], none, false, []⟩,
⟨some 22, .bslice 34 1 3 [.int .i64 0] [(0, (.t 13)), (1, (.t 15)), (2, (.t 21))], none, false, []⟩,
⟨some 23, .call 69 [(.t 22)], none, false, []⟩,
⟨some 6, .mv (.t 23), none, false, []⟩]) (.seq (.region false [
⟨some 24, .mv (.t 6), none, false, []⟩,
⟨some 25, .bin .neq (.t 24) (.c (.int .i64 0)), none, false, []⟩]) (.cond (.t 25) (.seq (.region false [
⟨some 26, .build [.int .i64 0, .int .i64 0, .int .i64 0] [], none, false, []⟩,
⟨some 27, .mv (.t 6), none, false, []⟩,
⟨none, .store 3 (.t 4) (.t 26), none, false, []⟩,
⟨some 5, .mv (.t 27), none, false, []⟩]) .ret) .skip))) (.seq (.region false [
⟨some 7, .alloc 105 [.int .i64 0, .int .i64 0, .int .i64 0], none, false, []⟩]) (.seq (.seq (.region false [
⟨some 28, .mv (.t 0), none, false, []⟩,
⟨some 29, .len false (.t 28), none, false, []⟩,
⟨some 30, .mv (.c (.int .i64 0)), none, false, []⟩]) (.block 0 a66l0)) (.seq (.region false [
⟨some 80, .load 3 true (.t 7), none, false, []⟩,
⟨none, .store 3 (.t 4) (.t 80), none, false, []⟩,
⟨some 5, .mv (.c (.int .i64 0)), none, false, []⟩]) .ret)))))⟩
def a67 : AFunc := ⟨5, [.tmp 0], (.seq (.region false [
⟨some 0, .nils 3 (.c (.nilSlice)), none, false, []⟩]) (.seq (.region false [
⟨some 1, .build [.str ByteArray.empty, .int .i64 0, .int .i64 0] [(0, 1, (.c (.str ⟨#[97]⟩))), (1, 1, (.c (.int .i64 5))), (2, 1, (.c (.int .i64 3)))], none, false, []⟩,
⟨some 2, .build [.str ByteArray.empty, .int .i64 0, .int .i64 0] [(0, 1, (.c (.str ⟨#[98]⟩))), (1, 1, (.c (.int .i64 4))), (2, 1, (.c (.int .i64 2)))], none, false, []⟩,
⟨some 3, .build [.str ByteArray.empty, .int .i64 0, .int .i64 0] [(0, 1, (.c (.str ⟨#[99]⟩))), (1, 1, (.c (.int .i64 9))), (2, 1, (.c (.int .i64 5)))], none, false, []⟩,
⟨some 4, .bslice 87 3 3 [.str ByteArray.empty, .int .i64 0, .int .i64 0] [(0, (.t 1)), (1, (.t 2)), (2, (.t 3))], none, false, []⟩,
⟨some 0, .mv (.t 4), none, false, []⟩]) .ret))⟩
def a68 : AFunc := ⟨50, [.cell 6 7 true, .tmp 7, .tmp 8], (.seq (.region false [
⟨some 3, .box 24 (.t 0), none, false, []⟩,
⟨some 4, .box 27 (.t 1), none, false, []⟩,
⟨some 6, .nalloc [0, 0, 4, 0, 0, 0, 3] 112 [.int .i64 0, .int .i64 0, .nilSlice, .int .i64 0, .int .i64 0, .int .i64 0, .nilSlice], none, false, []⟩,
⟨some 7, .nils 1 (.c (.nilSlice)), none, false, []⟩,
⟨some 8, .mv (.c (.int .i64 0)), none, false, []⟩]) (.seq (.region false [
⟨some 15, .load 3 true (.t 3), none, false, []⟩,
⟨some 16, .load 4 true (.t 4), none, false, []⟩,
⟨some 17, .call 74 [(.t 15), (.t 16)], none, false, []⟩,
⟨some 14, .mv (.t 17), none, false, []⟩,
⟨some 18, .ext (.t 14) 0, none, false, []⟩,
⟨some 19, .ext (.t 14) 1, none, false, []⟩,
⟨some 9, .nalloc [0, 0, 4, 0, 0, 0, 3] 112 [.int .i64 0, .int .i64 0, .nilSlice, .int .i64 0, .int .i64 0, .int .i64 0, .nilSlice], none, false, []⟩,
⟨none, .store 7 (.t 9) (.t 18), none, false, []⟩,
⟨some 10, .mv (.t 19), none, false, []⟩]) (.seq (.region false [
⟨some 20, .mv (.t 2), none, false, []⟩,
⟨some 21, .mkf 120 [] [(.t 9)], none, false, []⟩,
⟨some 22, .call 99 [(.t 20), (.t 21)], none, false, []⟩,
⟨some 11, .mv (.t 22), none, false, []⟩]) (.seq (.seq (.region false [
⟨some 23, .mv (.t 10), none, false, []⟩,
⟨some 24, .mv (.t 2), none, false, []⟩,
⟨some 25, .len false (.t 24), none, false, []⟩,
⟨some 26, .faddr 3 (.t 4), none, false, []⟩,
⟨some 27, .load 1 false (.t 26), none, false, []⟩,
⟨some 28, .len false (.t 27), none, false, []⟩,
⟨some 29, .bin .eql (.t 25) (.t 28), none, false, []⟩,
⟨some 30, .call 70 [(.t 29), (.c (.int .i64 10))], none, false, []⟩,
⟨some 31, .mv (.t 11), none, false, []⟩,
⟨some 32, .un .not (.t 31), none, false, []⟩,
⟨some 33, .call 70 [(.t 32), (.c (.int .i64 6))], none, false, []⟩,
⟨some 34, .bslice 34 1 3 [.int .i64 0] [(0, (.t 23)), (1, (.t 30)), (2, (.t 33))], none, false, []⟩,
⟨some 35, .call 69 [(.t 34)], none, false, []⟩,
⟨some 10, .mv (.t 35), none, false, []⟩]) (.seq (.region false [
⟨some 36, .mv (.t 10), none, false, []⟩,
⟨some 37, .bin .neq (.t 36) (.c (.int .i64 0)), none, false, []⟩]) (.cond (.t 37) (.seq (.region false [
⟨some 38, .load 7 true (.t 9), none, false, []⟩,
⟨some 39, .mv (.t 10), none, false, []⟩,
⟨none, .store 7 (.t 6) (.t 38), none, false, []⟩,
⟨some 7, .nils 1 (.c (.nilSlice)), none, false, []⟩,
⟨some 8, .mv (.t 39), none, false, []⟩]) .ret) .skip))) (.seq (.region false [
⟨some 41, .load 7 true (.t 9), none, false, []⟩,
⟨some 42, .mv (.t 2), none, false, []⟩,
⟨some 43, .call 121 [(.t 41), (.t 42)], none, false, []⟩,
⟨some 40, .mv (.t 43), none, false, []⟩,
⟨some 44, .ext (.t 40) 0, none, false, []⟩,
⟨some 45, .ext (.t 40) 1, none, false, []⟩,
⟨some 12, .mv (.t 44), none, false, []⟩,
⟨some 13, .mv (.t 45), none, false, []⟩]) (.seq (.region true [
⟨some 46, .load 7 true (.t 9), none, true, []⟩,
⟨some 47, .mv (.t 12), none, false, []⟩,
⟨some 48, .mv (.t 13), none, false, []⟩,
⟨some 49, .call 70 [(.t 48), (.c (.int .i64 22))], none, true, []⟩,
⟨none, .store 7 (.t 6) (.t 46), none, false, []⟩,
⟨some 7, .mv (.t 47), none, false, []⟩,
⟨some 8, .mv (.t 49), none, false, []⟩]) .ret))))))⟩
def a69l0b : ACode := (.seq (.region false [
⟨some 8, .bin .lss (.t 7) (.t 6), none, false, []⟩]) (.seq (.cond (.t 8) .skip (.exit 0)) (.seq (.block 1 (.seq (.region false [
⟨some 9, .iaddr 1 (.t 5) (.t 7), none, false, []⟩,
⟨some 10, .load 1 false (.t 9), none, false, []⟩,
⟨some 4, .mv (.t 10), none, false, []⟩]) (.seq (.region false [
⟨some 11, .mv (.t 4), none, false, []⟩,
⟨some 12, .bin .neq (.t 11) (.c (.int .i64 0)), none, false, []⟩]) (.cond (.t 12) (.seq (.region false [
⟨some 13, .mv (.t 4), none, false, []⟩,
⟨some 2, .mv (.t 13), none, false, []⟩]) .ret) .skip)))) (.region false [
⟨some 14, .bin .add (.t 7) (.c (.int .i64 1)), none, false, []⟩,
⟨some 7, .mv (.t 14), none, false, []⟩]))))
def a69l0 : ACode := .loop [5, 6, 7] [2] a69l0b
def a69 : AFunc := ⟨15, [.tmp 2], (.seq (.region false [
⟨some 2, .mv (.c (.int .i64 0)), none, false, []⟩]) (.seq (.seq (.region false [
⟨some 5, .mv (.t 0), none, false, []⟩,
⟨some 6, .len false (.t 5), none, false, []⟩,
⟨some 7, .mv (.c (.int .i64 0)), none, false, []⟩]) (.block 0 a69l0)) (.seq (.region false [
⟨some 2, .mv (.c (.int .i64 0)), none, false, []⟩]) .ret)))⟩
def a70 : AFunc := ⟨7, [.tmp 4], (.seq (.region false [
⟨some 4, .mv (.c (.int .i64 0)), none, false, []⟩]) (.seq (.seq (.region false [
⟨some 5, .mv (.t 0), none, false, []⟩]) (.cond (.t 5) (.seq (.region false [
⟨some 4, .mv (.c (.int .i64 0)), none, false, []⟩]) .ret) .skip)) (.seq (.region false [
⟨some 6, .mv (.t 1), none, false, []⟩,
⟨some 4, .mv (.t 6), none, false, []⟩]) .ret)))⟩
def a71 : AFunc := ⟨12, [.tmp 4], (.seq (.region false [
⟨some 2, .box 112 (.t 0), none, false, []⟩,
⟨some 4, .mv (.c (.bool false)), none, false, []⟩]) (.seq (.region false [
⟨some 5, .mv (.t 1), none, false, []⟩,
⟨some 6, .faddr 0 (.t 2), none, false, []⟩,
⟨some 7, .faddr 2 (.t 6), none, false, []⟩,
⟨some 8, .load 1 false (.t 7), none, false, []⟩,
⟨some 9, .len false (.t 8), none, false, []⟩,
⟨some 10, .bin .sub (.t 9) (.c (.int .i64 1)), none, false, []⟩,
⟨some 11, .call 75 [(.t 5), (.c (.int .i64 0)), (.t 10)], none, false, []⟩,
⟨some 4, .mv (.t 11), none, false, []⟩]) .ret))⟩
def a72l0b : ACode := (.seq (.seq (.region false [
⟨some 10, .mv (.t 2), none, false, []⟩,
⟨some 11, .mv (.t 9), none, false, []⟩,
⟨some 12, .bin .add (.t 10) (.t 11), none, false, []⟩,
⟨some 13, .faddr 3 (.t 4), none, false, []⟩,
⟨some 14, .faddr 3 (.t 13), none, false, []⟩,
⟨some 15, .load 1 false (.t 14), none, false, []⟩,
⟨some 16, .len false (.t 15), none, false, []⟩,
⟨some 17, .bin .lss (.t 12) (.t 16), none, false, []⟩]) (.cond (.t 17) .skip (.exit 0))) (.block 1 (.seq (.seq (.region false [
⟨some 18, .load 7 true (.t 4), none, false, []⟩,
⟨some 19, .mv (.t 1), none, false, []⟩,
⟨some 20, .mv (.t 2), none, false, []⟩,
⟨some 21, .mv (.t 9), none, false, []⟩,
⟨some 22, .bin .add (.t 20) (.t 21), none, false, []⟩,
⟨some 23, .mv (.t 3), none, false, []⟩,
⟨some 24, .call 122 [(.t 18), (.t 19), (.t 22), (.t 23)], none, false, []⟩,
⟨some 1, .mv (.t 24), none, false, []⟩]) (.seq (.region false [
⟨some 25, .load 7 true (.t 4), none, false, []⟩,
⟨some 26, .mv (.t 1), none, false, []⟩,
⟨some 27, .call 123 [(.t 25), (.t 26)], none, false, []⟩,
⟨some 28, .un .not (.t 27), none, false, []⟩]) (.cond (.t 28) (.exit 0) .skip))) (.region false [
⟨some 29, .mv (.t 9), none, false, []⟩,
⟨some 30, .bin .add (.t 29) (.c (.int .i64 1)), none, false, []⟩,
⟨some 9, .mv (.t 30), none, false, []⟩]))))
def a72l0 : ACode := .loop [1, 2, 3, 4, 9] [8, 9] a72l0b
def a72 : AFunc := ⟨32, [.tmp 8], (.seq (.region false [
⟨some 4, .box 112 (.t 0), none, false, []⟩,
⟨some 8, .mv (.c (.int .i64 0)), none, false, []⟩]) (.seq (.region false [
⟨some 9, .mv (.c (.int .i64 0)), none, false, []⟩]) (.seq (.block 0 a72l0) (.seq (.region false [
⟨some 31, .mv (.t 9), none, false, []⟩,
⟨some 8, .mv (.t 31), none, false, []⟩]) .ret))))⟩
def a73l0b : ACode := (.seq (.seq (.region false [
⟨some 14, .mv (.t 12), none, false, []⟩,
⟨some 15, .faddr 3 (.t 6), none, false, []⟩,
⟨some 16, .load 1 false (.t 15), none, false, []⟩,
⟨some 17, .len false (.t 16), none, false, []⟩,
⟨some 18, .bin .lss (.t 14) (.t 17), none, false, []⟩]) (.cond (.t 18) .skip (.exit 0))) (.seq (.block 1 (.seq (.region true [
⟨some 21, .mv (.t 3), none, false, []⟩,
⟨some 22, .faddr 3 (.t 6), none, false, []⟩,
⟨some 23, .load 1 false (.t 22), none, false, []⟩,
⟨some 24, .mv (.t 12), none, false, []⟩,
⟨some 25, .iaddr 3 (.t 23) (.t 24), none, false, []⟩,
⟨some 26, .faddr 2 (.t 25), none, false, []⟩,
⟨some 27, .load 1 false (.t 26), none, false, []⟩,
⟨some 28, .bin .add (.t 21) (.t 27), none, false, []⟩,
⟨some 29, .faddr 2 (.t 5), none, false, []⟩,
⟨some 30, .load 1 false (.t 29), none, false, []⟩,
⟨some 31, .mv (.t 4), none, false, []⟩,
⟨some 32, .iaddr 4 (.t 30) (.t 31), none, false, []⟩,
⟨some 33, .faddr 1 (.t 32), none, false, []⟩,
⟨some 34, .load 1 false (.t 33), none, false, []⟩,
⟨some 35, .bin .add (.t 28) (.t 34), none, false, []⟩,
⟨some 3, .mv (.t 35), none, false, []⟩]) (.seq (.seq (.region false [
⟨some 36, .mv (.t 3), none, false, []⟩,
⟨some 37, .faddr 0 (.t 5), none, false, []⟩,
⟨some 38, .load 1 false (.t 37), none, false, []⟩,
⟨some 39, .faddr 1 (.t 5), none, false, []⟩,
⟨some 40, .load 1 false (.t 39), none, false, []⟩,
⟨some 41, .call 27 [(.t 36), (.t 38), (.t 40)], none, false, []⟩,
⟨some 42, .un .not (.t 41), none, false, []⟩]) (.cond (.t 42) (.seq (.region false [
⟨some 43, .mv (.t 11), none, false, []⟩,
⟨some 10, .mv (.t 43), none, false, []⟩]) .ret) .skip)) (.region false [
⟨some 44, .mv (.t 11), none, false, []⟩,
⟨some 45, .bin .add (.t 44) (.c (.int .i64 1)), none, false, []⟩,
⟨some 11, .mv (.t 45), none, false, []⟩])))) (.region false [
⟨some 19, .mv (.t 12), none, false, []⟩,
⟨some 20, .bin .add (.t 19) (.c (.int .i64 1)), none, false, []⟩,
⟨some 12, .mv (.t 20), none, false, []⟩])))
def a73l0 : ACode := .loop [3, 4, 5, 6, 11, 12] [10, 11] a73l0b
def a73 : AFunc := ⟨47, [.tmp 10], (.seq (.region false [
⟨some 5, .box 24 (.t 0), none, false, []⟩,
⟨some 6, .box 27 (.t 1), none, false, []⟩,
⟨some 10, .mv (.c (.int .i64 0)), none, false, []⟩]) (.seq (.region false [
⟨some 11, .mv (.c (.int .i64 0)), none, false, []⟩]) (.seq (.seq (.region false [
⟨some 13, .mv (.t 2), none, false, []⟩,
⟨some 12, .mv (.t 13), none, false, []⟩]) (.block 0 a73l0)) (.seq (.region false [
⟨some 46, .mv (.t 11), none, false, []⟩,
⟨some 10, .mv (.t 46), none, false, []⟩]) .ret))))⟩
def a74 : AFunc := ⟨18, [.cell 4 7 true, .tmp 5], (.seq (.region false [
⟨some 2, .box 24 (.t 0), none, false, []⟩,
⟨some 3, .box 27 (.t 1), none, false, []⟩,
⟨some 4, .nalloc [0, 0, 4, 0, 0, 0, 3] 112 [.int .i64 0, .int .i64 0, .nilSlice, .int .i64 0, .int .i64 0, .int .i64 0, .nilSlice], none, false, []⟩,
⟨some 5, .mv (.c (.int .i64 0)), none, false, []⟩]) (.seq (.region false [
⟨some 9, .load 3 true (.t 2), none, false, []⟩,
⟨some 10, .load 4 true (.t 3), none, false, []⟩,
⟨some 11, .call 31 [(.t 9), (.t 10)], none, false, []⟩,
⟨some 8, .mv (.t 11), none, false, []⟩,
⟨some 12, .ext (.t 8) 0, none, false, []⟩,
⟨some 13, .ext (.t 8) 1, none, false, []⟩,
⟨some 6, .mv (.t 12), none, false, []⟩,
⟨some 7, .mv (.t 13), none, false, []⟩]) (.seq (.region false [
⟨some 14, .load 3 true (.t 2), none, false, []⟩,
⟨some 15, .load 4 true (.t 3), none, false, []⟩,
⟨some 16, .nbuild [0, 0, 4, 0, 0, 0, 3] [.int .i64 0, .int .i64 0, .nilSlice, .int .i64 0, .int .i64 0, .int .i64 0, .nilSlice] [(0, 3, (.t 14)), (3, 4, (.t 15))], none, false, []⟩,
⟨some 17, .mv (.t 7), none, false, []⟩,
⟨none, .store 7 (.t 4) (.t 16), none, false, []⟩,
⟨some 5, .mv (.t 17), none, false, []⟩]) .ret)))⟩
def a75 : AFunc := ⟨15, [.tmp 6], (.seq (.region false [
⟨some 6, .mv (.c (.bool false)), none, false, []⟩]) (.seq (.region false [
⟨some 7, .mv (.t 1), none, false, []⟩,
⟨some 8, .mv (.t 0), none, false, []⟩,
⟨some 9, .bin .leq (.t 7) (.t 8), none, false, []⟩,
⟨some 10, .mv (.t 9), none, false, []⟩,
⟨some 11, .mv (.t 0), some (10, true), false, []⟩,
⟨some 12, .mv (.t 2), some (10, true), false, []⟩,
⟨some 13, .bin .leq (.t 11) (.t 12), some (10, true), false, []⟩,
⟨some 14, .pick (.t 10) (.t 13) (.c (.bool false)), none, false, []⟩,
⟨some 6, .mv (.t 14), none, false, []⟩]) .ret))⟩
def a76r0A : ACode := (.seq (.region false [
⟨some 14, .mv (.t 62), none, false, []⟩]) (.region false [
⟨some 15, .mv (.t 63), none, false, []⟩]))
def a76r0a : ACode := a76r0A
def a76r0B : ACode := (.block 3 (.seq (.region true [
⟨some 64, .load 7 true (.t 2), none, false, []⟩,
⟨some 65, .load 1 false (.t 12), none, false, []⟩,
⟨some 66, .load 1 false (.t 11), none, false, []⟩,
⟨some 67, .mv (.t 14), none, false, []⟩,
⟨some 68, .call 125 [(.t 64), (.t 65), (.t 66), (.t 67)], none, true, []⟩,
⟨some 69, .load 1 false (.t 7), none, true, [4]⟩,
⟨some 70, .load 1 false (.t 12), none, true, [4]⟩,
⟨some 71, .bin .add (.t 70) (.c (.int .i64 1)), none, false, []⟩,
⟨some 72, .iaddr 1 (.t 69) (.t 71), none, false, []⟩,
⟨some 73, .load 1 false (.t 72), none, true, [4]⟩,
⟨some 74, .load 7 true (.t 2), none, true, [4]⟩,
⟨some 75, .mv (.t 15), none, false, []⟩,
⟨some 76, .mv (.t 14), none, false, []⟩,
⟨some 77, .call 94 [(.t 74), (.t 75), (.t 76)], none, true, []⟩,
⟨some 78, .iaddr 1 (.t 73) (.t 77), none, false, []⟩,
⟨some 79, .load 1 false (.t 78), none, false, []⟩,
⟨some 80, .bin .add (.t 68) (.t 79), none, false, []⟩,
⟨some 81, .load 1 false (.t 13), none, true, [4, 13]⟩,
⟨some 82, .bin .eql (.t 80) (.t 81), none, false, []⟩]) (.cond (.t 82) (.seq (.region false [
⟨some 83, .load 1 false (.t 9), none, false, []⟩,
⟨some 84, .mv (.t 14), none, false, []⟩,
⟨some 85, .bslice 3 1 1 [.int .i64 0] [(0, (.t 84))], none, false, []⟩,
⟨some 86, .app 3 1 8 [.int .i64 0] (.t 83) (.t 85), none, false, []⟩,
⟨some 87, .mv (.t 15), none, false, []⟩,
⟨some 88, .mv (.t 14), none, false, []⟩,
⟨none, .store 1 (.t 9) (.t 86), none, false, []⟩,
⟨none, .store 1 (.t 10) (.t 87), none, false, []⟩,
⟨none, .store 1 (.t 11) (.t 88), none, false, []⟩]) (.exit 2)) .skip)))
def a76r0b : ACode := a76r0B
def a76l1b : ACode := (.seq (.region false [
⟨some 46, .bin .lss (.t 45) (.t 44), none, false, []⟩]) (.seq (.cond (.t 46) .skip (.exit 0)) (.seq (.block 1 (.seq (.region false [
⟨some 47, .mv (.t 45), none, false, []⟩,
⟨some 12, .alloc 3 [.int .i64 0], none, false, []⟩,
⟨none, .store 1 (.t 12) (.t 47), none, false, []⟩]) (.seq (.region true [
⟨some 48, .load 1 false (.t 7), none, true, []⟩,
⟨some 49, .load 1 false (.t 12), none, true, []⟩,
⟨some 50, .iaddr 1 (.t 48) (.t 49), none, false, []⟩,
⟨some 51, .load 1 false (.t 50), none, true, []⟩,
⟨some 52, .load 7 true (.t 2), none, true, []⟩,
⟨some 53, .load 1 false (.t 10), none, true, []⟩,
⟨some 54, .load 1 false (.t 11), none, true, []⟩,
⟨some 55, .call 94 [(.t 52), (.t 53), (.t 54)], none, true, []⟩,
⟨some 56, .iaddr 1 (.t 51) (.t 55), none, false, []⟩,
⟨some 57, .load 1 false (.t 56), none, true, []⟩,
⟨some 13, .alloc 3 [.int .i64 0], none, true, [7]⟩,
⟨none, .store 1 (.t 13) (.t 57), none, false, []⟩]) (.seq (.region false [
⟨some 58, .load 7 true (.t 2), none, false, []⟩,
⟨some 59, .load 1 false (.t 10), none, false, []⟩,
⟨some 60, .load 1 false (.t 12), none, false, []⟩,
⟨some 61, .call 124 [(.t 58), (.t 59), (.t 60)], none, false, []⟩]) (.block 2 (.rangeFunc [2, 4, 5, 6, 7, 8, 9, 10, 11, 12, 13, 44, 45] (.t 61) [62, 63] a76r0a a76r0b)))))) (.region false [
⟨some 89, .bin .add (.t 45) (.c (.int .i64 1)), none, false, []⟩,
⟨some 45, .mv (.t 89), none, false, []⟩]))))
def a76l1 : ACode := .loop [2, 4, 5, 6, 7, 8, 9, 10, 11, 44, 45] [4, 5, 6, 8, 9] a76l1b
def a76 : AFunc := ⟨92, [.tmp 4, .tmp 5, .tmp 6], (.seq (.region false [
⟨some 2, .box 112 (.t 0), none, false, []⟩,
⟨some 3, .box 124 (.t 1), none, false, []⟩,
⟨some 4, .nils 1 (.c (.nilSlice)), none, false, []⟩,
⟨some 5, .mv (.c (.int .i64 0)), none, false, []⟩,
⟨some 6, .mv (.c (.bool false)), none, false, []⟩]) (.seq (.region false [
⟨some 16, .load 7 true (.t 2), none, false, []⟩,
⟨some 17, .load 2 true (.t 3), none, false, []⟩,
⟨some 18, .call 89 [(.t 16), (.t 17)], none, false, []⟩,
⟨some 7, .nalloc [1] 73 [.nilSlice], none, false, []⟩,
⟨none, .store 1 (.t 7) (.t 18), none, false, []⟩]) (.seq (.region true [
⟨some 19, .load 1 false (.t 7), none, true, []⟩,
⟨some 20, .iaddr 1 (.t 19) (.c (.int .i64 0)), none, false, []⟩,
⟨some 21, .load 1 false (.t 20), none, true, []⟩,
⟨some 22, .load 7 true (.t 2), none, false, []⟩,
⟨some 23, .faddr 3 (.t 2), none, false, []⟩,
⟨some 24, .faddr 0 (.t 23), none, false, []⟩,
⟨some 25, .load 1 false (.t 24), none, false, []⟩,
⟨some 26, .faddr 3 (.t 2), none, false, []⟩,
⟨some 27, .faddr 1 (.t 26), none, false, []⟩,
⟨some 28, .load 1 false (.t 27), none, false, []⟩,
⟨some 29, .call 94 [(.t 22), (.t 25), (.t 28)], none, true, []⟩,
⟨some 30, .iaddr 1 (.t 21) (.t 29), none, false, []⟩,
⟨some 31, .load 1 false (.t 30), none, false, []⟩,
⟨some 8, .mv (.t 31), none, false, []⟩]) (.seq (.seq (.region false [
⟨some 32, .mv (.t 8), none, false, []⟩,
⟨some 33, .call 93 [(.t 32)], none, false, []⟩,
⟨some 34, .un .not (.t 33), none, false, []⟩]) (.cond (.t 34) (.seq (.region false [
⟨some 4, .nils 1 (.c (.nilSlice)), none, false, []⟩,
⟨some 5, .mv (.c (.int .i64 0)), none, false, []⟩,
⟨some 6, .mv (.c (.bool false)), none, false, []⟩]) .ret) .skip)) (.seq (.region false [
⟨some 9, .nalloc [1] 28 [.nilSlice], none, false, []⟩]) (.seq (.region true [
⟨some 35, .faddr 3 (.t 2), none, false, []⟩,
⟨some 36, .faddr 0 (.t 35), none, false, []⟩,
⟨some 37, .load 1 false (.t 36), none, true, []⟩,
⟨some 38, .faddr 3 (.t 2), none, false, []⟩,
⟨some 39, .faddr 1 (.t 38), none, false, []⟩,
⟨some 40, .load 1 false (.t 39), none, true, []⟩,
⟨some 10, .alloc 3 [.int .i64 0], none, true, []⟩,
⟨some 11, .alloc 3 [.int .i64 0], none, true, [6]⟩,
⟨none, .store 1 (.t 10) (.t 37), none, true, [5]⟩,
⟨none, .store 1 (.t 11) (.t 40), none, false, []⟩]) (.seq (.seq (.region false [
⟨some 41, .faddr 3 (.t 2), none, false, []⟩,
⟨some 42, .faddr 3 (.t 41), none, false, []⟩,
⟨some 43, .load 1 false (.t 42), none, false, []⟩,
⟨some 44, .len false (.t 43), none, false, []⟩,
⟨some 45, .mv (.c (.int .i64 0)), none, false, []⟩]) (.block 0 a76l1)) (.seq (.region false [
⟨some 90, .load 1 false (.t 9), none, false, []⟩,
⟨some 91, .mv (.t 8), none, false, []⟩,
⟨some 4, .mv (.t 90), none, false, []⟩,
⟨some 5, .mv (.t 91), none, false, []⟩,
⟨some 6, .mv (.c (.bool true)), none, false, []⟩]) .ret))))))))⟩
def a77 : AFunc := ⟨5, [.tmp 2], (.seq (.region false [
⟨some 2, .mv (.c (.bool false)), none, false, []⟩]) (.seq (.region false [
⟨some 3, .mv (.t 0), none, false, []⟩,
⟨some 4, .call 75 [(.t 3), (.c (.int .i64 0)), (.c (.int .i64 1000000))], none, false, []⟩,
⟨some 2, .mv (.t 4), none, false, []⟩]) .ret))⟩
def a78 : AFunc := ⟨9, [.tmp 4], (.seq (.region false [
⟨some 4, .mv (.c (.bool false)), none, false, []⟩]) (.seq (.region false [
⟨some 5, .mv (.t 0), none, false, []⟩,
⟨some 6, .mv (.t 1), none, false, []⟩,
⟨some 7, .call 126 [(.t 5), (.t 6)], none, false, []⟩,
⟨some 8, .bin .geq (.t 7) (.c (.int .i64 0)), none, false, []⟩,
⟨some 4, .mv (.t 8), none, false, []⟩]) .ret))⟩
def a79 : AFunc := ⟨9, [.tmp 3], (.seq (.region false [
⟨some 2, .box 110 (.t 0), none, false, []⟩,
⟨some 3, .mv (.c (.bool false)), none, false, []⟩]) (.seq (.region false [
⟨some 4, .faddr 0 (.t 2), none, false, []⟩,
⟨some 5, .load 1 false (.t 4), none, false, []⟩,
⟨some 6, .faddr 0 (.t 1), none, false, []⟩,
⟨some 7, .load 1 false (.t 6), none, false, []⟩,
⟨some 8, .bin .eql (.t 5) (.t 7), none, false, []⟩,
⟨some 3, .mv (.t 8), none, false, []⟩]) .ret))⟩
def a80 : AFunc := ⟨10, [.tmp 4], (.seq (.region false [
⟨some 4, .mv (.c (.bool false)), none, false, []⟩]) (.seq (.region false [
⟨some 5, .mv (.t 0), none, false, []⟩,
⟨some 6, .mv (.t 1), none, false, []⟩,
⟨some 7, .un .neg (.t 6), none, false, []⟩,
⟨some 8, .mv (.t 1), none, false, []⟩,
⟨some 9, .call 75 [(.t 5), (.t 7), (.t 8)], none, false, []⟩,
⟨some 4, .mv (.t 9), none, false, []⟩]) .ret))⟩
def a81l0b : ACode := (.seq (.region false [
⟨some 10, .bin .lss (.t 9) (.t 8), none, false, []⟩]) (.seq (.cond (.t 10) .skip (.exit 0)) (.seq (.block 1 (.seq (.region false [
⟨some 11, .mv (.t 9), none, false, []⟩,
⟨some 12, .iaddr 1 (.t 7) (.t 9), none, false, []⟩,
⟨some 13, .load 1 false (.t 12), none, false, []⟩,
⟨some 3, .mv (.t 11), none, false, []⟩,
⟨some 4, .mv (.t 13), none, false, []⟩]) (.seq (.region false [
⟨some 14, .mv (.t 4), none, false, []⟩,
⟨some 15, .bin .or (.t 14) (.c (.int .u8 32)), none, false, []⟩,
⟨some 16, .conv .i64 (.t 15), none, false, []⟩,
⟨some 17, .call 75 [(.t 16), (.c (.int .i64 97)), (.c (.int .i64 122))], none, false, []⟩,
⟨some 5, .mv (.t 17), none, false, []⟩]) (.seq (.region false [
⟨some 18, .mv (.t 5), none, false, []⟩,
⟨some 19, .un .not (.t 18), none, false, []⟩,
⟨some 20, .mv (.t 19), none, false, []⟩,
⟨some 21, .mv (.t 3), some (20, true), false, []⟩,
⟨some 22, .bin .eql (.t 21) (.c (.int .i64 0)), some (20, true), false, []⟩,
⟨some 23, .mv (.t 22), some (20, true), false, []⟩,
⟨some 24, .mv (.t 4), some (23, false), false, []⟩,
⟨some 25, .bin .neq (.t 24) (.c (.int .u8 45)), some (23, false), false, []⟩,
⟨some 26, .mv (.t 25), some (23, false), false, []⟩,
⟨some 27, .mv (.t 4), some (26, true), false, []⟩,
⟨some 28, .conv .i64 (.t 27), some (26, true), false, []⟩,
⟨some 29, .call 75 [(.t 28), (.c (.int .i64 48)), (.c (.int .i64 57))], some (26, true), false, []⟩,
⟨some 30, .un .not (.t 29), some (26, true), false, []⟩,
⟨some 31, .pick (.t 26) (.t 30) (.c (.bool false)), some (23, false), false, []⟩,
⟨some 32, .pick (.t 23) (.c (.bool true)) (.t 31), some (20, true), false, []⟩,
⟨some 33, .pick (.t 20) (.t 32) (.c (.bool false)), none, false, []⟩]) (.cond (.t 33) (.seq (.region false [
⟨some 2, .mv (.c (.bool false)), none, false, []⟩]) .ret) .skip))))) (.region false [
⟨some 34, .bin .add (.t 9) (.c (.int .i64 1)), none, false, []⟩,
⟨some 9, .mv (.t 34), none, false, []⟩]))))
def a81l0 : ACode := .loop [0, 7, 8, 9] [0, 2] a81l0b
def a81 : AFunc := ⟨38, [.tmp 2], (.seq (.region false [
⟨some 2, .mv (.c (.bool false)), none, false, []⟩]) (.seq (.seq (.region false [
⟨some 6, .mv (.t 0), none, false, []⟩,
⟨some 7, .bytes 5 (.t 6), none, false, []⟩,
⟨some 8, .len false (.t 7), none, false, []⟩,
⟨some 9, .mv (.c (.int .i64 0)), none, false, []⟩]) (.block 0 a81l0)) (.seq (.region false [
⟨some 35, .mv (.t 0), none, false, []⟩,
⟨some 36, .len true (.t 35), none, false, []⟩,
⟨some 37, .call 75 [(.t 36), (.c (.int .i64 1)), (.c (.int .i64 12))], none, false, []⟩,
⟨some 2, .mv (.t 37), none, false, []⟩]) .ret)))⟩
def a82 : AFunc := ⟨5, [.tmp 2], (.seq (.region false [
⟨some 2, .mv (.c (.bool false)), none, false, []⟩]) (.seq (.region false [
⟨some 3, .mv (.t 0), none, false, []⟩,
⟨some 4, .call 80 [(.t 3), (.c (.int .i64 10000))], none, false, []⟩,
⟨some 2, .mv (.t 4), none, false, []⟩]) .ret))⟩
def a85 : AFunc := ⟨29, [.tmp 4], (.seq (.region false [
⟨some 2, .box 110 (.t 0), none, false, []⟩,
⟨some 4, .mv (.c (.int .i64 0)), none, false, []⟩]) (.seq (.seq (.region false [
⟨some 5, .faddr 0 (.t 2), none, false, []⟩,
⟨some 6, .load 1 false (.t 5), none, false, []⟩,
⟨some 7, .call 114 [(.t 6)], none, false, []⟩,
⟨some 8, .un .not (.t 7), none, false, []⟩]) (.cond (.t 8) (.seq (.region false [
⟨some 4, .mv (.c (.int .i64 4)), none, false, []⟩]) .ret) .skip)) (.seq (.seq (.region false [
⟨some 9, .mv (.t 1), none, false, []⟩,
⟨some 10, .faddr 0 (.t 2), none, false, []⟩,
⟨some 11, .load 1 false (.t 10), none, false, []⟩,
⟨some 12, .call 115 [(.t 9), (.t 11)], none, false, []⟩]) (.cond (.t 12) (.seq (.region false [
⟨some 4, .mv (.c (.int .i64 5)), none, false, []⟩]) .ret) .skip)) (.seq (.seq (.region false [
⟨some 13, .faddr 1 (.t 2), none, false, []⟩,
⟨some 14, .load 1 false (.t 13), none, false, []⟩,
⟨some 15, .call 27 [(.t 14), (.c (.int .i64 (-10000))), (.c (.int .i64 10000))], none, false, []⟩,
⟨some 16, .un .not (.t 15), none, false, []⟩,
⟨some 17, .mv (.t 16), none, false, []⟩,
⟨some 18, .faddr 2 (.t 2), some (17, false), false, []⟩,
⟨some 19, .load 1 false (.t 18), some (17, false), false, []⟩,
⟨some 20, .call 27 [(.t 19), (.c (.int .i64 (-10000))), (.c (.int .i64 10000))], some (17, false), false, []⟩,
⟨some 21, .un .not (.t 20), some (17, false), false, []⟩,
⟨some 22, .pick (.t 17) (.c (.bool true)) (.t 21), none, false, []⟩,
⟨some 23, .mv (.t 22), none, false, []⟩,
⟨some 24, .faddr 3 (.t 2), some (23, false), false, []⟩,
⟨some 25, .load 1 false (.t 24), some (23, false), false, []⟩,
⟨some 26, .call 27 [(.t 25), (.c (.int .i64 0)), (.c (.int .i64 10000))], some (23, false), false, []⟩,
⟨some 27, .un .not (.t 26), some (23, false), false, []⟩,
⟨some 28, .pick (.t 23) (.c (.bool true)) (.t 27), none, false, []⟩]) (.cond (.t 28) (.seq (.region false [
⟨some 4, .mv (.c (.int .i64 2)), none, false, []⟩]) .ret) .skip)) (.seq (.region false [
⟨some 4, .mv (.c (.int .i64 0)), none, false, []⟩]) .ret)))))⟩
def a86 : AFunc := ⟨5, [.tmp 2], (.seq (.region false [
⟨some 2, .mv (.c (.bool false)), none, false, []⟩]) (.seq (.region false [
⟨some 3, .mv (.t 0), none, false, []⟩,
⟨some 4, .call 27 [(.t 3), (.c (.int .i64 (-10000))), (.c (.int .i64 10000))], none, false, []⟩,
⟨some 2, .mv (.t 4), none, false, []⟩]) .ret))⟩
def a87l0b : ACode := (.seq (.seq (.region false [
⟨some 13, .mv (.t 8), none, false, []⟩,
⟨some 14, .mv (.t 7), none, false, []⟩,
⟨some 15, .len false (.t 14), none, false, []⟩,
⟨some 16, .bin .lss (.t 13) (.t 15), none, false, []⟩]) (.cond (.t 16) .skip (.exit 0))) (.seq (.block 1 (.seq (.region true [
⟨some 19, .mv (.t 7), none, false, []⟩,
⟨some 20, .mv (.t 8), none, false, []⟩,
⟨some 21, .iaddr 1 (.t 19) (.t 20), none, false, []⟩,
⟨some 22, .load 1 false (.t 21), none, false, []⟩,
⟨some 23, .faddr 0 (.t 3), none, false, []⟩,
⟨some 24, .load 1 false (.t 23), none, false, []⟩,
⟨some 25, .faddr 1 (.t 3), none, false, []⟩,
⟨some 26, .load 1 false (.t 25), none, false, []⟩,
⟨some 27, .call 27 [(.t 22), (.t 24), (.t 26)], none, false, []⟩,
⟨some 28, .un .not (.t 27), none, false, []⟩]) (.cond (.t 28) (.seq (.region false [
⟨some 6, .mv (.c (.bool false)), none, false, []⟩]) .ret) .skip))) (.region false [
⟨some 17, .mv (.t 8), none, false, []⟩,
⟨some 18, .bin .add (.t 17) (.c (.int .i64 1)), none, false, []⟩,
⟨some 8, .mv (.t 18), none, false, []⟩])))
def a87l0 : ACode := .loop [3, 7, 8] [6] a87l0b
def a87 : AFunc := ⟨29, [.tmp 6], (.seq (.region false [
⟨some 3, .box 24 (.t 0), none, false, []⟩,
⟨some 4, .box 27 (.t 1), none, false, []⟩,
⟨some 6, .mv (.c (.bool false)), none, false, []⟩]) (.seq (.region false [
⟨some 9, .load 3 true (.t 3), none, false, []⟩,
⟨some 10, .load 4 true (.t 4), none, false, []⟩,
⟨some 11, .mv (.t 2), none, false, []⟩,
⟨some 12, .call 37 [(.t 9), (.t 10), (.t 11)], none, false, []⟩,
⟨some 7, .mv (.t 12), none, false, []⟩]) (.seq (.seq (.region false [
⟨some 8, .mv (.c (.int .i64 0)), none, false, []⟩]) (.block 0 a87l0)) (.seq (.region false [
⟨some 6, .mv (.c (.bool true)), none, false, []⟩]) .ret))))⟩
def a89r0A : ACode := (.seq (.region false [
⟨some 12, .mv (.t 89), none, false, []⟩]) (.region false [
⟨some 13, .mv (.t 90), none, false, []⟩]))
def a89r0a : ACode := a89r0A
def a89r0B : ACode := (.block 7 (.region true [
⟨some 91, .load 1 false (.t 11), none, true, []⟩,
⟨some 92, .load 1 false (.t 11), none, true, []⟩,
⟨some 93, .nilck (.t 92), none, false, []⟩,
⟨some 94, .load 1 false (.t 93), none, true, []⟩,
⟨some 95, .load 7 true (.t 2), none, false, []⟩,
⟨some 96, .load 1 false (.t 8), none, false, []⟩,
⟨some 97, .load 1 false (.t 10), none, false, []⟩,
⟨some 98, .mv (.t 12), none, false, []⟩,
⟨some 99, .call 125 [(.t 95), (.t 96), (.t 97), (.t 98)], none, true, []⟩,
⟨some 100, .load 1 false (.t 7), none, true, [8]⟩,
⟨some 101, .load 1 false (.t 8), none, true, [8]⟩,
⟨some 102, .bin .add (.t 101) (.c (.int .i64 1)), none, false, []⟩,
⟨some 103, .iaddr 1 (.t 100) (.t 102), none, false, []⟩,
⟨some 104, .load 1 false (.t 103), none, true, [8]⟩,
⟨some 105, .load 7 true (.t 2), none, true, [8]⟩,
⟨some 106, .mv (.t 13), none, false, []⟩,
⟨some 107, .mv (.t 12), none, false, []⟩,
⟨some 108, .call 94 [(.t 105), (.t 106), (.t 107)], none, true, []⟩,
⟨some 109, .iaddr 1 (.t 104) (.t 108), none, false, []⟩,
⟨some 110, .load 1 false (.t 109), none, false, []⟩,
⟨some 111, .bin .add (.t 99) (.t 110), none, false, []⟩,
⟨some 112, .minmax true (.t 94) [(.t 111)], none, false, []⟩,
⟨some 113, .nilck (.t 91), none, false, []⟩,
⟨none, .store 1 (.t 113) (.t 112), none, false, []⟩]))
def a89r0b : ACode := a89r0B
def a89l1b : ACode := (.seq (.region false [
⟨some 58, .bin .lss (.t 57) (.t 56), none, false, []⟩]) (.seq (.cond (.t 58) .skip (.exit 4)) (.seq (.block 5 (.seq (.region false [
⟨some 59, .mv (.t 57), none, false, []⟩,
⟨some 10, .alloc 3 [.int .i64 0], none, false, []⟩,
⟨none, .store 1 (.t 10) (.t 59), none, false, []⟩]) (.seq (.region true [
⟨some 60, .load 1 false (.t 7), none, true, []⟩,
⟨some 61, .load 1 false (.t 8), none, true, []⟩,
⟨some 62, .iaddr 1 (.t 60) (.t 61), none, false, []⟩,
⟨some 63, .load 1 false (.t 62), none, true, []⟩,
⟨some 64, .load 7 true (.t 2), none, true, []⟩,
⟨some 65, .mv (.t 9), none, false, []⟩,
⟨some 66, .load 1 false (.t 10), none, true, []⟩,
⟨some 67, .call 94 [(.t 64), (.t 65), (.t 66)], none, true, []⟩,
⟨some 68, .iaddr 1 (.t 63) (.t 67), none, false, []⟩,
⟨some 11, .alloc 174 [.nilPtr], none, true, [7]⟩,
⟨none, .store 1 (.t 11) (.t 68), none, false, []⟩]) (.seq (.seq (.region false [
⟨some 69, .load 1 false (.t 8), none, false, []⟩,
⟨some 70, .mv (.t 5), none, false, []⟩,
⟨some 71, .bin .eql (.t 69) (.t 70), none, false, []⟩]) (.cond (.t 71) (.seq (.region false [
⟨some 72, .load 1 false (.t 11), none, false, []⟩,
⟨some 73, .faddr 3 (.t 2), none, false, []⟩,
⟨some 74, .faddr 2 (.t 73), none, false, []⟩,
⟨some 75, .load 1 false (.t 74), none, false, []⟩,
⟨some 76, .mv (.t 9), none, false, []⟩,
⟨some 77, .bin .mul (.t 75) (.t 76), none, false, []⟩,
⟨some 78, .nilck (.t 72), none, false, []⟩,
⟨none, .store 1 (.t 78) (.t 77), none, false, []⟩]) (.exit 5)) .skip)) (.seq (.seq (.region false [
⟨some 79, .load 7 true (.t 2), none, false, []⟩,
⟨some 80, .mv (.t 9), none, false, []⟩,
⟨some 81, .load 1 false (.t 8), none, false, []⟩,
⟨some 82, .load 2 true (.t 3), none, false, []⟩,
⟨some 83, .call 129 [(.t 79), (.t 80), (.t 81), (.t 82)], none, false, []⟩,
⟨some 84, .un .not (.t 83), none, false, []⟩]) (.cond (.t 84) (.exit 5) .skip)) (.seq (.region false [
⟨some 85, .load 7 true (.t 2), none, false, []⟩,
⟨some 86, .mv (.t 9), none, false, []⟩,
⟨some 87, .load 1 false (.t 8), none, false, []⟩,
⟨some 88, .call 124 [(.t 85), (.t 86), (.t 87)], none, false, []⟩]) (.block 6 (.rangeFunc [2, 3, 4, 5, 6, 7, 8, 9, 10, 11, 56, 57] (.t 88) [89, 90] a89r0a a89r0b)))))))) (.region false [
⟨some 114, .bin .add (.t 57) (.c (.int .i64 1)), none, false, []⟩,
⟨some 57, .mv (.t 114), none, false, []⟩]))))
def a89l1 : ACode := .loop [2, 3, 4, 5, 6, 7, 8, 9, 56, 57] [2, 3, 4, 5, 6, 7, 8, 9] a89l1b
def a89l2b : ACode := (.seq (.seq (.region false [
⟨some 46, .mv (.t 9), none, false, []⟩,
⟨some 47, .faddr 0 (.t 2), none, false, []⟩,
⟨some 48, .faddr 1 (.t 47), none, false, []⟩,
⟨some 49, .load 1 false (.t 48), none, false, []⟩,
⟨some 50, .bin .leq (.t 46) (.t 49), none, false, []⟩]) (.cond (.t 50) .skip (.exit 2))) (.seq (.block 3 (.seq (.region false [
⟨some 53, .faddr 0 (.t 2), none, false, []⟩,
⟨some 54, .faddr 2 (.t 53), none, false, []⟩,
⟨some 55, .load 1 false (.t 54), none, false, []⟩,
⟨some 56, .len false (.t 55), none, false, []⟩,
⟨some 57, .mv (.c (.int .i64 0)), none, false, []⟩]) (.block 4 a89l1))) (.region false [
⟨some 51, .mv (.t 9), none, false, []⟩,
⟨some 52, .bin .add (.t 51) (.c (.int .i64 1)), none, false, []⟩,
⟨some 9, .mv (.t 52), none, false, []⟩])))
def a89l2 : ACode := .loop [2, 3, 4, 5, 6, 7, 8, 9] [2, 3, 4, 5, 6, 7, 8] a89l2b
def a89l3b : ACode := (.seq (.seq (.region false [
⟨some 33, .load 1 false (.t 8), none, false, []⟩,
⟨some 34, .bin .geq (.t 33) (.c (.int .i64 0)), none, false, []⟩]) (.cond (.t 34) .skip (.exit 0))) (.seq (.block 1 (.seq (.region true [
⟨some 37, .load 1 false (.t 7), none, true, []⟩,
⟨some 38, .load 1 false (.t 8), none, true, []⟩,
⟨some 39, .bslice 3 1 1 [.int .i64 0] [(0, (.c (.int .i64 (-100000000000))))], none, true, []⟩,
⟨some 40, .mv (.t 6), none, false, []⟩,
⟨some 41, .call 128 [(.t 39), (.t 40)], none, true, []⟩,
⟨some 42, .iaddr 1 (.t 37) (.t 38), none, false, []⟩,
⟨none, .storem (.t 42) (.t 41), none, false, []⟩]) (.seq (.region false [
⟨some 43, .faddr 0 (.t 2), none, false, []⟩,
⟨some 44, .faddr 0 (.t 43), none, false, []⟩,
⟨some 45, .load 1 false (.t 44), none, false, []⟩,
⟨some 9, .mv (.t 45), none, false, []⟩]) (.block 2 a89l2)))) (.seq (.seq (.region false [
⟨some 115, .load 1 false (.t 8), none, false, []⟩]) (.region false [
⟨some 8, .alloc 3 [.int .i64 0], none, false, []⟩,
⟨none, .store 1 (.t 8) (.t 115), none, false, []⟩])) (.region false [
⟨some 35, .load 1 false (.t 8), none, false, []⟩,
⟨some 36, .bin .sub (.t 35) (.c (.int .i64 1)), none, false, []⟩,
⟨none, .store 1 (.t 8) (.t 36), none, false, []⟩]))))
def a89l3 : ACode := .loop [2, 3, 4, 5, 6, 7, 8] [4, 7] a89l3b
def a89 : AFunc := ⟨117, [.tmp 4], (.seq (.region false [
⟨some 2, .box 112 (.t 0), none, false, []⟩,
⟨some 3, .box 124 (.t 1), none, false, []⟩,
⟨some 4, .nilm (.c (.nilSlice)), none, false, []⟩]) (.seq (.region true [
⟨some 14, .faddr 3 (.t 2), none, false, []⟩,
⟨some 15, .faddr 3 (.t 14), none, false, []⟩,
⟨some 16, .load 1 false (.t 15), none, true, []⟩,
⟨some 17, .len false (.t 16), none, false, []⟩,
⟨some 18, .load 7 true (.t 2), none, false, []⟩,
⟨some 19, .faddr 0 (.t 2), none, false, []⟩,
⟨some 20, .faddr 1 (.t 19), none, false, []⟩,
⟨some 21, .load 1 false (.t 20), none, false, []⟩,
⟨some 22, .faddr 0 (.t 2), none, false, []⟩,
⟨some 23, .faddr 2 (.t 22), none, false, []⟩,
⟨some 24, .load 1 false (.t 23), none, false, []⟩,
⟨some 25, .len false (.t 24), none, false, []⟩,
⟨some 26, .bin .sub (.t 25) (.c (.int .i64 1)), none, false, []⟩,
⟨some 27, .call 94 [(.t 18), (.t 21), (.t 26)], none, true, []⟩,
⟨some 28, .bin .add (.t 27) (.c (.int .i64 1)), none, false, []⟩,
⟨some 5, .mv (.t 17), none, false, []⟩,
⟨some 6, .mv (.t 28), none, false, []⟩]) (.seq (.region false [
⟨some 29, .mv (.t 5), none, false, []⟩,
⟨some 30, .bin .add (.t 29) (.c (.int .i64 1)), none, false, []⟩,
⟨some 31, .mkmat 28 24 (.t 30) (.t 30), none, false, []⟩,
⟨some 7, .nalloc [1] 73 [.nilSlice], none, false, []⟩,
⟨none, .store 1 (.t 7) (.t 31), none, false, []⟩]) (.seq (.seq (.region false [
⟨some 32, .mv (.t 5), none, false, []⟩,
⟨some 8, .alloc 3 [.int .i64 0], none, false, []⟩,
⟨none, .store 1 (.t 8) (.t 32), none, false, []⟩]) (.block 0 a89l3)) (.seq (.region false [
⟨some 116, .load 1 false (.t 7), none, false, []⟩,
⟨some 4, .mv (.t 116), none, false, []⟩]) .ret)))))⟩
def a90l0b : ACode := (.seq (.seq (.region false [
⟨some 16, .mv (.t 6), none, false, []⟩,
⟨some 17, .mv (.t 0), none, false, []⟩,
⟨some 18, .len false (.t 17), none, false, []⟩,
⟨some 19, .bin .lss (.t 16) (.t 18), none, false, []⟩]) (.cond (.t 19) .skip (.exit 0))) (.seq (.block 1 (.seq (.region false [
⟨some 22, .mv (.t 0), none, false, []⟩,
⟨some 23, .mv (.t 6), none, false, []⟩,
⟨some 24, .iaddr 1 (.t 22) (.t 23), none, false, []⟩,
⟨some 25, .load 1 false (.t 24), none, false, []⟩,
⟨some 7, .mv (.t 25), none, false, []⟩]) (.seq (.region false [
⟨some 26, .mv (.t 1), none, false, []⟩,
⟨some 27, .mv (.t 7), none, false, []⟩,
⟨some 28, .callv (.t 26) [(.t 27)], none, false, []⟩,
⟨some 29, .un .not (.t 28), none, false, []⟩]) (.cond (.t 29) (.seq (.region false [
⟨some 30, .mv (.t 0), none, false, []⟩,
⟨some 31, .mv (.t 5), none, false, []⟩,
⟨some 32, .mv (.t 7), none, false, []⟩,
⟨some 33, .iaddr 1 (.t 30) (.t 31), none, false, []⟩,
⟨none, .store 1 (.t 33) (.t 32), none, false, []⟩]) (.region false [
⟨some 34, .mv (.t 5), none, false, []⟩,
⟨some 35, .bin .add (.t 34) (.c (.int .i64 1)), none, false, []⟩,
⟨some 5, .mv (.t 35), none, false, []⟩])) .skip)))) (.region false [
⟨some 20, .mv (.t 6), none, false, []⟩,
⟨some 21, .bin .add (.t 20) (.c (.int .i64 1)), none, false, []⟩,
⟨some 6, .mv (.t 21), none, false, []⟩])))
def a90l0 : ACode := .loop [0, 1, 5, 6] [0, 4, 5] a90l0b
def a90 : AFunc := ⟨42, [.tmp 4], (.seq (.region false [
⟨some 4, .nils 1 (.c (.nilSlice)), none, false, []⟩]) (.seq (.region false [
⟨some 8, .mv (.t 0), none, false, []⟩,
⟨some 9, .mv (.t 1), none, false, []⟩,
⟨some 10, .call 130 [(.t 8), (.t 9)], none, false, []⟩,
⟨some 5, .mv (.t 10), none, false, []⟩]) (.seq (.seq (.region false [
⟨some 11, .mv (.t 5), none, false, []⟩,
⟨some 12, .bin .eql (.t 11) (.c (.int .i64 (-1))), none, false, []⟩]) (.cond (.t 12) (.seq (.region false [
⟨some 13, .mv (.t 0), none, false, []⟩,
⟨some 4, .mv (.t 13), none, false, []⟩]) .ret) .skip)) (.seq (.seq (.region false [
⟨some 14, .mv (.t 5), none, false, []⟩,
⟨some 15, .bin .add (.t 14) (.c (.int .i64 1)), none, false, []⟩,
⟨some 6, .mv (.t 15), none, false, []⟩]) (.block 0 a90l0)) (.seq (.region false [
⟨some 36, .mv (.t 0), none, false, []⟩,
⟨some 37, .mv (.t 5), none, false, []⟩,
⟨some 38, .slice 1 (.t 36) (some (.t 37)) none none, none, false, []⟩,
⟨none, .clear 3 1 [.int .i64 0] (.t 38), none, false, []⟩]) (.seq (.region false [
⟨some 39, .mv (.t 0), none, false, []⟩,
⟨some 40, .mv (.t 5), none, false, []⟩,
⟨some 41, .slice 1 (.t 39) none (some (.t 40)) none, none, false, []⟩,
⟨some 4, .mv (.t 41), none, false, []⟩]) .ret))))))⟩
def a91r0A : ACode := (.region false [
⟨some 11, .mv (.t 31), none, false, []⟩])
def a91r0a : ACode := a91r0A
def a91r0B : ACode := (.block 5 (.region false [
⟨some 32, .load 1 false (.t 7), none, false, []⟩,
⟨some 33, .mv (.t 11), none, false, []⟩,
⟨some 34, .bslice 3 1 1 [.int .i64 0] [(0, (.t 33))], none, false, []⟩,
⟨some 35, .app 3 1 8 [.int .i64 0] (.t 32) (.t 34), none, false, []⟩,
⟨none, .store 1 (.t 7) (.t 35), none, false, []⟩]))
def a91r0b : ACode := a91r0B
def a91l1b : ACode := (.seq (.region false [
⟨some 23, .bin .lss (.t 22) (.t 21), none, false, []⟩]) (.seq (.cond (.t 23) .skip (.exit 2)) (.seq (.block 3 (.seq (.region false [
⟨some 24, .iaddr 1 (.t 20) (.t 22), none, false, []⟩,
⟨some 25, .load 1 false (.t 24), none, false, []⟩,
⟨some 9, .mv (.t 25), none, false, []⟩]) (.seq (.region false [
⟨some 26, .load 7 true (.t 2), none, false, []⟩,
⟨some 27, .mv (.t 9), none, false, []⟩,
⟨some 28, .mv (.t 6), none, false, []⟩,
⟨some 29, .call 124 [(.t 26), (.t 27), (.t 28)], none, false, []⟩]) (.block 4 (.rangeFunc [2, 4, 5, 6, 7, 16, 17, 20, 21, 22] (.t 29) [30, 31] a91r0a a91r0b))))) (.region false [
⟨some 36, .bin .add (.t 22) (.c (.int .i64 1)), none, false, []⟩,
⟨some 22, .mv (.t 36), none, false, []⟩]))))
def a91l1 : ACode := .loop [2, 4, 5, 6, 7, 16, 17, 20, 21, 22] [2, 4, 5, 7, 16, 17] a91l1b
def a91l2b : ACode := (.seq (.region false [
⟨some 18, .bin .lss (.t 17) (.t 16), none, false, []⟩]) (.seq (.cond (.t 18) .skip (.exit 0)) (.seq (.block 1 (.seq (.region false [
⟨some 19, .mv (.t 17), none, false, []⟩,
⟨some 6, .mv (.t 19), none, false, []⟩]) (.seq (.region false [
⟨some 7, .nalloc [1] 28 [.nilSlice], none, false, []⟩]) (.seq (.seq (.region false [
⟨some 20, .mv (.t 5), none, false, []⟩,
⟨some 21, .len false (.t 20), none, false, []⟩,
⟨some 22, .mv (.c (.int .i64 0)), none, false, []⟩]) (.block 2 a91l1)) (.seq (.region false [
⟨some 37, .load 1 false (.t 7), none, false, []⟩,
⟨some 38, .call 131 [(.t 37)], none, false, []⟩]) (.region false [
⟨some 39, .load 1 false (.t 7), none, false, []⟩,
⟨some 40, .call 132 [(.t 39)], none, false, []⟩,
⟨some 5, .mv (.t 40), none, false, []⟩])))))) (.region false [
⟨some 41, .bin .add (.t 17) (.c (.int .i64 1)), none, false, []⟩,
⟨some 17, .mv (.t 41), none, false, []⟩]))))
def a91l2 : ACode := .loop [2, 4, 5, 16, 17] [4, 5] a91l2b
def a91 : AFunc := ⟨43, [.tmp 4], (.seq (.region false [
⟨some 2, .box 112 (.t 0), none, false, []⟩,
⟨some 4, .nils 1 (.c (.nilSlice)), none, false, []⟩]) (.seq (.region false [
⟨some 12, .faddr 3 (.t 2), none, false, []⟩,
⟨some 13, .faddr 0 (.t 12), none, false, []⟩,
⟨some 14, .load 1 false (.t 13), none, false, []⟩,
⟨some 15, .bslice 3 1 1 [.int .i64 0] [(0, (.t 14))], none, false, []⟩,
⟨some 5, .mv (.t 15), none, false, []⟩]) (.seq (.seq (.region false [
⟨some 16, .mv (.t 1), none, false, []⟩,
⟨some 17, .mv (.c (.int .i64 0)), none, false, []⟩]) (.block 0 a91l2)) (.seq (.region false [
⟨some 42, .mv (.t 5), none, false, []⟩,
⟨some 4, .mv (.t 42), none, false, []⟩]) .ret))))⟩
def a92 : AFunc := ⟨17, [.tmp 5], (.seq (.region false [
⟨some 5, .mv (.c (.bool false)), none, false, []⟩]) (.seq (.region true [
⟨some 6, .load 1 false (.t 1), none, true, []⟩,
⟨some 7, .load 1 false (.t 2), none, true, []⟩,
⟨some 8, .iaddr 1 (.t 6) (.t 7), none, false, []⟩,
⟨some 9, .load 1 false (.t 8), none, true, []⟩,
⟨some 10, .load 7 true (.t 3), none, false, []⟩,
⟨some 11, .mv (.t 0), none, false, []⟩,
⟨some 12, .call 94 [(.t 10), (.t 11), (.c (.int .i64 0))], none, true, []⟩,
⟨some 13, .iaddr 1 (.t 9) (.t 12), none, false, []⟩,
⟨some 14, .load 1 false (.t 13), none, false, []⟩,
⟨some 15, .call 93 [(.t 14)], none, false, []⟩,
⟨some 16, .un .not (.t 15), none, false, []⟩,
⟨some 5, .mv (.t 16), none, false, []⟩]) .ret))⟩
def a93 : AFunc := ⟨5, [.tmp 2], (.seq (.region false [
⟨some 2, .mv (.c (.bool false)), none, false, []⟩]) (.seq (.region false [
⟨some 3, .mv (.t 0), none, false, []⟩,
⟨some 4, .bin .gtr (.t 3) (.c (.int .i64 (-50000000000))), none, false, []⟩,
⟨some 2, .mv (.t 4), none, false, []⟩]) .ret))⟩
def a94 : AFunc := ⟨19, [.tmp 6], (.seq (.region false [
⟨some 3, .box 112 (.t 0), none, false, []⟩,
⟨some 6, .mv (.c (.int .i64 0)), none, false, []⟩]) (.seq (.region false [
⟨some 7, .mv (.t 1), none, false, []⟩,
⟨some 8, .faddr 0 (.t 3), none, false, []⟩,
⟨some 9, .faddr 0 (.t 8), none, false, []⟩,
⟨some 10, .load 1 false (.t 9), none, false, []⟩,
⟨some 11, .bin .sub (.t 7) (.t 10), none, false, []⟩,
⟨some 12, .faddr 0 (.t 3), none, false, []⟩,
⟨some 13, .faddr 2 (.t 12), none, false, []⟩,
⟨some 14, .load 1 false (.t 13), none, false, []⟩,
⟨some 15, .len false (.t 14), none, false, []⟩,
⟨some 16, .bin .mul (.t 11) (.t 15), none, false, []⟩,
⟨some 17, .mv (.t 2), none, false, []⟩,
⟨some 18, .bin .add (.t 16) (.t 17), none, false, []⟩,
⟨some 6, .mv (.t 18), none, false, []⟩]) .ret))⟩
def a99 : AFunc := ⟨9, [.tmp 4], (.seq (.region false [
⟨some 4, .mv (.c (.bool false)), none, false, []⟩]) (.seq (.region false [
⟨some 5, .mv (.t 0), none, false, []⟩,
⟨some 6, .mv (.t 1), none, false, []⟩,
⟨some 7, .call 130 [(.t 5), (.t 6)], none, false, []⟩,
⟨some 8, .bin .geq (.t 7) (.c (.int .i64 0)), none, false, []⟩,
⟨some 4, .mv (.t 8), none, false, []⟩]) .ret))⟩
def a103 : AFunc := ⟨9, [.tmp 4], (.seq (.region false [
⟨some 4, .mv (.c (.bool false)), none, false, []⟩]) (.seq (.region false [
⟨some 5, .mv (.t 0), none, false, []⟩,
⟨some 6, .mv (.t 1), none, false, []⟩,
⟨some 7, .call 135 [(.t 5), (.t 6)], none, false, []⟩,
⟨some 8, .bin .geq (.t 7) (.c (.int .i64 0)), none, false, []⟩,
⟨some 4, .mv (.t 8), none, false, []⟩]) .ret))⟩
def a104 : AFunc := ⟨9, [.tmp 3], (.seq (.region false [
⟨some 2, .box 87 (.t 0), none, false, []⟩,
⟨some 3, .mv (.c (.bool false)), none, false, []⟩]) (.seq (.region false [
⟨some 4, .faddr 0 (.t 2), none, false, []⟩,
⟨some 5, .load 1 false (.t 4), none, false, []⟩,
⟨some 6, .faddr 0 (.t 1), none, false, []⟩,
⟨some 7, .load 1 false (.t 6), none, false, []⟩,
⟨some 8, .bin .eql (.t 5) (.t 7), none, false, []⟩,
⟨some 3, .mv (.t 8), none, false, []⟩]) .ret))⟩
def a105 : AFunc := ⟨13, [.tmp 2, .tmp 3], (.seq (.region false [
⟨some 2, .nils 3 (.c (.nilSlice)), none, false, []⟩,
⟨some 3, .mv (.c (.int .i64 0)), none, false, []⟩]) (.seq (.region false [
⟨some 7, .mv (.t 0), none, false, []⟩,
⟨some 8, .call 51 [(.t 7)], none, false, []⟩,
⟨some 6, .mv (.t 8), none, false, []⟩,
⟨some 9, .ext (.t 6) 0, none, false, []⟩,
⟨some 10, .ext (.t 6) 1, none, false, []⟩,
⟨some 4, .mv (.t 9), none, false, []⟩,
⟨some 5, .mv (.t 10), none, false, []⟩]) (.seq (.region false [
⟨some 11, .mv (.t 0), none, false, []⟩,
⟨some 12, .mv (.t 5), none, false, []⟩,
⟨some 2, .mv (.t 11), none, false, []⟩,
⟨some 3, .mv (.t 12), none, false, []⟩]) .ret)))⟩
def a107l0b : ACode := (.seq (.region false [
⟨some 13, .bin .lss (.t 12) (.t 11), none, false, []⟩]) (.seq (.cond (.t 13) .skip (.exit 0)) (.seq (.block 1 (.seq (.region false [
⟨some 14, .iaddr 1 (.t 10) (.t 12), none, false, []⟩,
⟨some 15, .load 1 false (.t 14), none, false, []⟩,
⟨some 9, .mv (.t 15), none, false, []⟩]) (.seq (.region false [
⟨some 16, .mv (.t 2), none, false, []⟩,
⟨some 17, .mv (.t 0), none, false, []⟩,
⟨some 18, .mv (.t 9), none, false, []⟩,
⟨some 19, .iaddr 3 (.t 17) (.t 18), none, false, []⟩,
⟨some 20, .faddr 2 (.t 19), none, false, []⟩,
⟨some 21, .load 1 false (.t 20), none, false, []⟩,
⟨some 22, .bin .add (.t 16) (.t 21), none, false, []⟩,
⟨some 2, .mv (.t 22), none, false, []⟩]) (.region false [
⟨some 23, .mv (.t 7), none, false, []⟩,
⟨some 24, .mv (.t 2), none, false, []⟩,
⟨some 25, .mv (.t 0), none, false, []⟩,
⟨some 26, .mv (.t 9), none, false, []⟩,
⟨some 27, .iaddr 3 (.t 25) (.t 26), none, false, []⟩,
⟨some 28, .faddr 1 (.t 27), none, false, []⟩,
⟨some 29, .load 1 false (.t 28), none, false, []⟩,
⟨some 30, .bin .sub (.t 24) (.t 29), none, false, []⟩,
⟨some 31, .minmax true (.t 23) [(.t 30)], none, false, []⟩,
⟨some 7, .mv (.t 31), none, false, []⟩])))) (.region false [
⟨some 32, .bin .add (.t 12) (.c (.int .i64 1)), none, false, []⟩,
⟨some 12, .mv (.t 32), none, false, []⟩]))))
def a107l0 : ACode := .loop [0, 2, 7, 10, 11, 12] [6, 7] a107l0b
def a107 : AFunc := ⟨34, [.tmp 6], (.seq (.region false [
⟨some 6, .mv (.c (.int .i64 0)), none, false, []⟩]) (.seq (.region false [
⟨some 7, .mv (.c (.int .i64 (-200000))), none, false, []⟩]) (.seq (.seq (.region false [
⟨some 10, .mv (.t 1), none, false, []⟩,
⟨some 11, .len false (.t 10), none, false, []⟩,
⟨some 12, .mv (.c (.int .i64 0)), none, false, []⟩]) (.block 0 a107l0)) (.seq (.region false [
⟨some 33, .mv (.t 7), none, false, []⟩,
⟨some 6, .mv (.t 33), none, false, []⟩]) .ret))))⟩
def a108l0b : ACode := (.seq (.region false [
⟨some 8, .bin .lss (.t 7) (.t 6), none, false, []⟩]) (.seq (.cond (.t 8) .skip (.exit 0)) (.seq (.block 1 (.seq (.region false [
⟨some 9, .mv (.t 7), none, false, []⟩,
⟨some 4, .mv (.t 9), none, false, []⟩]) (.region false [
⟨some 10, .mv (.t 3), none, false, []⟩,
⟨some 11, .mv (.t 4), none, false, []⟩,
⟨some 12, .bslice 3 1 1 [.int .i64 0] [(0, (.t 11))], none, false, []⟩,
⟨some 13, .app 3 1 8 [.int .i64 0] (.t 10) (.t 12), none, false, []⟩,
⟨some 3, .mv (.t 13), none, false, []⟩]))) (.region false [
⟨some 14, .bin .add (.t 7) (.c (.int .i64 1)), none, false, []⟩,
⟨some 7, .mv (.t 14), none, false, []⟩]))))
def a108l0 : ACode := .loop [3, 6, 7] [2, 3] a108l0b
def a108 : AFunc := ⟨16, [.tmp 2], (.seq (.region false [
⟨some 2, .nils 1 (.c (.nilSlice)), none, false, []⟩]) (.seq (.region false [
⟨some 3, .nils 1 (.c (.nilSlice)), none, false, []⟩]) (.seq (.seq (.region false [
⟨some 5, .mv (.t 0), none, false, []⟩,
⟨some 6, .len false (.t 5), none, false, []⟩,
⟨some 7, .mv (.c (.int .i64 0)), none, false, []⟩]) (.block 0 a108l0)) (.seq (.region false [
⟨some 15, .mv (.t 3), none, false, []⟩,
⟨some 2, .mv (.t 15), none, false, []⟩]) .ret))))⟩
def a109 : AFunc := ⟨12, [.tmp 4], (.seq (.region false [
⟨some 2, .box 153 (.t 0), none, false, []⟩,
⟨some 4, .nils 1 (.c (.nilSlice)), none, false, []⟩]) (.seq (.region false [
⟨some 6, .mv (.t 1), none, false, []⟩,
⟨some 7, .call 111 [(.t 6)], none, false, []⟩,
⟨some 5, .mv (.t 7), none, false, []⟩]) (.seq (.region false [
⟨some 8, .mv (.t 5), none, false, []⟩,
⟨some 9, .mkf 138 [] [(.t 2)], none, false, []⟩,
⟨some 10, .call 137 [(.t 8), (.t 9)], none, false, []⟩]) (.seq (.region false [
⟨some 11, .mv (.t 5), none, false, []⟩,
⟨some 4, .mv (.t 11), none, false, []⟩]) .ret))))⟩
def a110 : AFunc := ⟨33, [.tmp 6], (.seq (.region false [
⟨some 6, .nils 1 (.c (.nilSlice)), none, false, []⟩]) (.seq (.region false [
⟨some 8, .mv (.t 0), none, false, []⟩,
⟨some 9, .mv (.t 1), none, false, []⟩,
⟨some 10, .mv (.t 2), none, false, []⟩,
⟨some 11, .mv (.t 0), none, false, []⟩,
⟨some 12, .len false (.t 11), none, false, []⟩,
⟨some 13, .slice 1 (.t 8) (some (.t 9)) (some (.t 10)) (some (.t 12)), none, false, []⟩]) (.seq (.seq (.region false [
⟨some 14, .mv (.t 1), none, false, []⟩,
⟨some 15, .mv (.t 2), none, false, []⟩,
⟨some 16, .bin .eql (.t 14) (.t 15), none, false, []⟩]) (.cond (.t 16) (.seq (.region false [
⟨some 17, .mv (.t 0), none, false, []⟩,
⟨some 6, .mv (.t 17), none, false, []⟩]) .ret) .skip)) (.seq (.region false [
⟨some 18, .mv (.t 0), none, false, []⟩,
⟨some 19, .len false (.t 18), none, false, []⟩,
⟨some 7, .mv (.t 19), none, false, []⟩]) (.seq (.region true [
⟨some 20, .mv (.t 0), none, false, []⟩,
⟨some 21, .mv (.t 1), none, false, []⟩,
⟨some 22, .slice 1 (.t 20) none (some (.t 21)) none, none, false, []⟩,
⟨some 23, .mv (.t 0), none, false, []⟩,
⟨some 24, .mv (.t 2), none, false, []⟩,
⟨some 25, .slice 1 (.t 23) (some (.t 24)) none none, none, false, []⟩,
⟨some 26, .app 3 1 8 [.int .i64 0] (.t 22) (.t 25), none, false, []⟩,
⟨some 0, .mv (.t 26), none, false, []⟩]) (.seq (.region false [
⟨some 27, .mv (.t 0), none, false, []⟩,
⟨some 28, .mv (.t 0), none, false, []⟩,
⟨some 29, .len false (.t 28), none, false, []⟩,
⟨some 30, .mv (.t 7), none, false, []⟩,
⟨some 31, .slice 1 (.t 27) (some (.t 29)) (some (.t 30)) none, none, false, []⟩,
⟨none, .clear 3 1 [.int .i64 0] (.t 31), none, false, []⟩]) (.seq (.region false [
⟨some 32, .mv (.t 0), none, false, []⟩,
⟨some 6, .mv (.t 32), none, false, []⟩]) .ret)))))))⟩
def a111 : AFunc := ⟨8, [.tmp 2], (.seq (.region false [
⟨some 2, .nils 1 (.c (.nilSlice)), none, false, []⟩]) (.seq (.seq (.region false [
⟨some 3, .mv (.t 0), none, false, []⟩,
⟨some 4, .eq false [9] (.t 3) (.c (.nilSlice)), none, false, []⟩]) (.cond (.t 4) (.seq (.region false [
⟨some 2, .nils 1 (.c (.nilSlice)), none, false, []⟩]) .ret) .skip)) (.seq (.region false [
⟨some 5, .bslice 3 1 0 [.int .i64 0] [], none, false, []⟩,
⟨some 6, .mv (.t 0), none, false, []⟩,
⟨some 7, .app 3 1 8 [.int .i64 0] (.t 5) (.t 6), none, false, []⟩,
⟨some 2, .mv (.t 7), none, false, []⟩]) .ret)))⟩
def a114l0b : ACode := (.seq (.seq (.region false [
⟨some 14, .mv (.t 3), none, false, []⟩,
⟨some 15, .mv (.t 0), none, false, []⟩,
⟨some 16, .len true (.t 15), none, false, []⟩,
⟨some 17, .bin .lss (.t 14) (.t 16), none, false, []⟩]) (.cond (.t 17) .skip (.exit 0))) (.seq (.block 1 (.seq (.region false [
⟨some 20, .mv (.t 0), none, false, []⟩,
⟨some 21, .mv (.t 3), none, false, []⟩,
⟨some 22, .sindex (.t 20) (.t 21), none, false, []⟩,
⟨some 4, .mv (.t 22), none, false, []⟩]) (.seq (.region false [
⟨some 23, .mv (.t 4), none, false, []⟩,
⟨some 24, .bin .geq (.t 23) (.c (.int .u8 97)), none, false, []⟩,
⟨some 25, .mv (.t 24), none, false, []⟩,
⟨some 26, .mv (.t 4), some (25, true), false, []⟩,
⟨some 27, .bin .leq (.t 26) (.c (.int .u8 122)), some (25, true), false, []⟩,
⟨some 28, .pick (.t 25) (.t 27) (.c (.bool false)), none, false, []⟩,
⟨some 29, .mv (.t 28), none, false, []⟩,
⟨some 30, .mv (.t 4), some (29, false), false, []⟩,
⟨some 31, .bin .geq (.t 30) (.c (.int .u8 65)), some (29, false), false, []⟩,
⟨some 32, .mv (.t 31), some (29, false), false, []⟩,
⟨some 33, .mv (.t 4), some (32, true), false, []⟩,
⟨some 34, .bin .leq (.t 33) (.c (.int .u8 90)), some (32, true), false, []⟩,
⟨some 35, .pick (.t 32) (.t 34) (.c (.bool false)), some (29, false), false, []⟩,
⟨some 36, .pick (.t 29) (.c (.bool true)) (.t 35), none, false, []⟩,
⟨some 5, .mv (.t 36), none, false, []⟩]) (.seq (.region false [
⟨some 37, .mv (.t 5), none, false, []⟩,
⟨some 38, .un .not (.t 37), none, false, []⟩,
⟨some 39, .mv (.t 38), none, false, []⟩,
⟨some 40, .mv (.t 3), some (39, true), false, []⟩,
⟨some 41, .bin .eql (.t 40) (.c (.int .i64 0)), some (39, true), false, []⟩,
⟨some 42, .mv (.t 41), some (39, true), false, []⟩,
⟨some 43, .mv (.t 4), some (42, false), false, []⟩,
⟨some 44, .bin .neq (.t 43) (.c (.int .u8 45)), some (42, false), false, []⟩,
⟨some 45, .mv (.t 44), some (42, false), false, []⟩,
⟨some 46, .mv (.t 4), some (45, true), false, []⟩,
⟨some 47, .bin .lss (.t 46) (.c (.int .u8 48)), some (45, true), false, []⟩,
⟨some 48, .mv (.t 47), some (45, true), false, []⟩,
⟨some 49, .mv (.t 4), some (48, false), false, []⟩,
⟨some 50, .bin .gtr (.t 49) (.c (.int .u8 57)), some (48, false), false, []⟩,
⟨some 51, .pick (.t 48) (.c (.bool true)) (.t 50), some (45, true), false, []⟩,
⟨some 52, .pick (.t 45) (.t 51) (.c (.bool false)), some (42, false), false, []⟩,
⟨some 53, .pick (.t 42) (.c (.bool true)) (.t 52), some (39, true), false, []⟩,
⟨some 54, .pick (.t 39) (.t 53) (.c (.bool false)), none, false, []⟩]) (.cond (.t 54) (.seq (.region false [
⟨some 2, .mv (.c (.bool false)), none, false, []⟩]) .ret) .skip))))) (.region false [
⟨some 18, .mv (.t 3), none, false, []⟩,
⟨some 19, .bin .add (.t 18) (.c (.int .i64 1)), none, false, []⟩,
⟨some 3, .mv (.t 19), none, false, []⟩])))
def a114l0 : ACode := .loop [0, 3] [2] a114l0b
def a114 : AFunc := ⟨55, [.tmp 2], (.seq (.region false [
⟨some 2, .mv (.c (.bool false)), none, false, []⟩]) (.seq (.seq (.region false [
⟨some 6, .mv (.t 0), none, false, []⟩,
⟨some 7, .len true (.t 6), none, false, []⟩,
⟨some 8, .bin .lss (.t 7) (.c (.int .i64 1)), none, false, []⟩,
⟨some 9, .mv (.t 8), none, false, []⟩,
⟨some 10, .mv (.t 0), some (9, false), false, []⟩,
⟨some 11, .len true (.t 10), some (9, false), false, []⟩,
⟨some 12, .bin .gtr (.t 11) (.c (.int .i64 12)), some (9, false), false, []⟩,
⟨some 13, .pick (.t 9) (.c (.bool true)) (.t 12), none, false, []⟩]) (.cond (.t 13) (.seq (.region false [
⟨some 2, .mv (.c (.bool false)), none, false, []⟩]) .ret) .skip)) (.seq (.seq (.region false [
⟨some 3, .mv (.c (.int .i64 0)), none, false, []⟩]) (.block 0 a114l0)) (.seq (.region false [
⟨some 2, .mv (.c (.bool true)), none, false, []⟩]) .ret))))⟩
def a115l0b : ACode := (.seq (.seq (.region false [
⟨some 6, .mv (.t 5), none, false, []⟩,
⟨some 7, .mv (.t 0), none, false, []⟩,
⟨some 8, .len false (.t 7), none, false, []⟩,
⟨some 9, .bin .lss (.t 6) (.t 8), none, false, []⟩]) (.cond (.t 9) .skip (.exit 0))) (.seq (.block 1 (.seq (.region false [
⟨some 12, .mv (.t 0), none, false, []⟩,
⟨some 13, .mv (.t 5), none, false, []⟩,
⟨some 14, .iaddr 1 (.t 12) (.t 13), none, false, []⟩,
⟨some 15, .load 1 false (.t 14), none, false, []⟩,
⟨some 16, .mv (.t 1), none, false, []⟩,
⟨some 17, .bin .eql (.t 15) (.t 16), none, false, []⟩]) (.cond (.t 17) (.seq (.region false [
⟨some 4, .mv (.c (.bool true)), none, false, []⟩]) .ret) .skip))) (.region false [
⟨some 10, .mv (.t 5), none, false, []⟩,
⟨some 11, .bin .add (.t 10) (.c (.int .i64 1)), none, false, []⟩,
⟨some 5, .mv (.t 11), none, false, []⟩])))
def a115l0 : ACode := .loop [0, 1, 5] [4] a115l0b
def a115 : AFunc := ⟨18, [.tmp 4], (.seq (.region false [
⟨some 4, .mv (.c (.bool false)), none, false, []⟩]) (.seq (.seq (.region false [
⟨some 5, .mv (.c (.int .i64 0)), none, false, []⟩]) (.block 0 a115l0)) (.seq (.region false [
⟨some 4, .mv (.c (.bool false)), none, false, []⟩]) .ret)))⟩
def a118 : AFunc := ⟨15, [.tmp 2], (.seq (.region false [
⟨some 2, .mv (.c (.int .i64 0)), none, false, []⟩]) (.seq (.region false [
⟨some 4, .mv (.t 0), none, false, []⟩,
⟨some 5, .call 99 [(.t 4), (.c (.func 140 [] []))], none, false, []⟩,
⟨some 3, .mv (.t 5), none, false, []⟩]) (.seq (.region false [
⟨some 6, .mv (.t 0), none, false, []⟩,
⟨some 7, .len false (.t 6), none, false, []⟩,
⟨some 8, .bin .leq (.t 7) (.c (.int .i64 300)), none, false, []⟩,
⟨some 9, .call 70 [(.t 8), (.c (.int .i64 8))], none, false, []⟩,
⟨some 10, .mv (.t 3), none, false, []⟩,
⟨some 11, .un .not (.t 10), none, false, []⟩,
⟨some 12, .call 70 [(.t 11), (.c (.int .i64 2))], none, false, []⟩,
⟨some 13, .bslice 34 1 2 [.int .i64 0] [(0, (.t 9)), (1, (.t 12))], none, false, []⟩,
⟨some 14, .call 69 [(.t 13)], none, false, []⟩,
⟨some 2, .mv (.t 14), none, false, []⟩]) .ret)))⟩
def a119 : AFunc := ⟨7, [.tmp 2], (.seq (.region false [
⟨some 2, .mv (.c (.int .i64 0)), none, false, []⟩]) (.seq (.region false [
⟨some 3, .mv (.t 0), none, false, []⟩,
⟨some 4, .mv (.t 0), none, false, []⟩,
⟨some 5, .un .neg (.t 4), none, false, []⟩,
⟨some 6, .minmax true (.t 3) [(.t 5)], none, false, []⟩,
⟨some 2, .mv (.t 6), none, false, []⟩]) .ret))⟩
def a120 : AFunc := ⟨8, [.tmp 3], (.seq (.region false [
⟨some 3, .mv (.c (.bool false)), none, false, []⟩]) (.seq (.region false [
⟨some 4, .load 7 true (.t 1), none, false, []⟩,
⟨some 5, .mv (.t 0), none, false, []⟩,
⟨some 6, .call 71 [(.t 4), (.t 5)], none, false, []⟩,
⟨some 7, .un .not (.t 6), none, false, []⟩,
⟨some 3, .mv (.t 7), none, false, []⟩]) .ret))⟩
def a121l0b : ACode := (.seq (.region false [
⟨some 17, .bin .lss (.t 16) (.t 15), none, false, []⟩]) (.seq (.cond (.t 17) .skip (.exit 0)) (.seq (.block 1 (.seq (.region false [
⟨some 18, .mv (.t 16), none, false, []⟩,
⟨some 19, .iaddr 1 (.t 14) (.t 16), none, false, []⟩,
⟨some 20, .load 1 false (.t 19), none, false, []⟩,
⟨some 7, .mv (.t 18), none, false, []⟩,
⟨some 8, .mv (.t 20), none, false, []⟩]) (.seq (.region true [
⟨some 21, .load 7 true (.t 2), none, false, []⟩,
⟨some 22, .mv (.t 6), none, false, []⟩,
⟨some 23, .mv (.t 7), none, false, []⟩,
⟨some 24, .iaddr 1 (.t 22) (.t 23), none, false, []⟩,
⟨some 25, .load 1 false (.t 24), none, false, []⟩,
⟨some 26, .mv (.t 7), none, false, []⟩,
⟨some 27, .mv (.t 8), none, false, []⟩,
⟨some 28, .call 122 [(.t 21), (.t 25), (.t 26), (.t 27)], none, false, []⟩,
⟨some 9, .mv (.t 28), none, false, []⟩]) (.seq (.seq (.region false [
⟨some 29, .load 7 true (.t 2), none, false, []⟩,
⟨some 30, .mv (.t 9), none, false, []⟩,
⟨some 31, .call 123 [(.t 29), (.t 30)], none, false, []⟩,
⟨some 32, .un .not (.t 31), none, false, []⟩]) (.cond (.t 32) (.seq (.region false [
⟨some 4, .nils 1 (.c (.nilSlice)), none, false, []⟩,
⟨some 5, .mv (.c (.bool false)), none, false, []⟩]) .ret) .skip)) (.region false [
⟨some 33, .mv (.t 6), none, false, []⟩,
⟨some 34, .mv (.t 9), none, false, []⟩,
⟨some 35, .bslice 3 1 1 [.int .i64 0] [(0, (.t 34))], none, false, []⟩,
⟨some 36, .app 3 1 8 [.int .i64 0] (.t 33) (.t 35), none, false, []⟩,
⟨some 6, .mv (.t 36), none, false, []⟩]))))) (.region false [
⟨some 37, .bin .add (.t 16) (.c (.int .i64 1)), none, false, []⟩,
⟨some 16, .mv (.t 37), none, false, []⟩]))))
def a121l0 : ACode := .loop [2, 6, 14, 15, 16] [4, 5, 6] a121l0b
def a121 : AFunc := ⟨39, [.tmp 4, .tmp 5], (.seq (.region false [
⟨some 2, .box 112 (.t 0), none, false, []⟩,
⟨some 4, .nils 1 (.c (.nilSlice)), none, false, []⟩,
⟨some 5, .mv (.c (.bool false)), none, false, []⟩]) (.seq (.region false [
⟨some 10, .faddr 3 (.t 2), none, false, []⟩,
⟨some 11, .faddr 0 (.t 10), none, false, []⟩,
⟨some 12, .load 1 false (.t 11), none, false, []⟩,
⟨some 13, .bslice 3 1 1 [.int .i64 0] [(0, (.t 12))], none, false, []⟩,
⟨some 6, .mv (.t 13), none, false, []⟩]) (.seq (.seq (.region false [
⟨some 14, .mv (.t 1), none, false, []⟩,
⟨some 15, .len false (.t 14), none, false, []⟩,
⟨some 16, .mv (.c (.int .i64 0)), none, false, []⟩]) (.block 0 a121l0)) (.seq (.region false [
⟨some 38, .mv (.t 6), none, false, []⟩,
⟨some 4, .mv (.t 38), none, false, []⟩,
⟨some 5, .mv (.c (.bool true)), none, false, []⟩]) .ret))))⟩
def a122 : AFunc := ⟨26, [.tmp 8], (.seq (.region false [
⟨some 4, .box 112 (.t 0), none, false, []⟩,
⟨some 8, .mv (.c (.int .i64 0)), none, false, []⟩]) (.seq (.region true [
⟨some 9, .mv (.t 1), none, false, []⟩,
⟨some 10, .faddr 3 (.t 4), none, false, []⟩,
⟨some 11, .faddr 3 (.t 10), none, false, []⟩,
⟨some 12, .load 1 false (.t 11), none, false, []⟩,
⟨some 13, .mv (.t 2), none, false, []⟩,
⟨some 14, .iaddr 3 (.t 12) (.t 13), none, false, []⟩,
⟨some 15, .faddr 2 (.t 14), none, false, []⟩,
⟨some 16, .load 1 false (.t 15), none, false, []⟩,
⟨some 17, .bin .add (.t 9) (.t 16), none, false, []⟩,
⟨some 18, .faddr 0 (.t 4), none, false, []⟩,
⟨some 19, .faddr 2 (.t 18), none, false, []⟩,
⟨some 20, .load 1 false (.t 19), none, false, []⟩,
⟨some 21, .mv (.t 3), none, false, []⟩,
⟨some 22, .iaddr 4 (.t 20) (.t 21), none, false, []⟩,
⟨some 23, .faddr 1 (.t 22), none, false, []⟩,
⟨some 24, .load 1 false (.t 23), none, false, []⟩,
⟨some 25, .bin .add (.t 17) (.t 24), none, false, []⟩,
⟨some 8, .mv (.t 25), none, false, []⟩]) .ret))⟩
def a123 : AFunc := ⟨13, [.tmp 4], (.seq (.region false [
⟨some 2, .box 112 (.t 0), none, false, []⟩,
⟨some 4, .mv (.c (.bool false)), none, false, []⟩]) (.seq (.region false [
⟨some 5, .mv (.t 1), none, false, []⟩,
⟨some 6, .faddr 0 (.t 2), none, false, []⟩,
⟨some 7, .faddr 0 (.t 6), none, false, []⟩,
⟨some 8, .load 1 false (.t 7), none, false, []⟩,
⟨some 9, .faddr 0 (.t 2), none, false, []⟩,
⟨some 10, .faddr 1 (.t 9), none, false, []⟩,
⟨some 11, .load 1 false (.t 10), none, false, []⟩,
⟨some 12, .call 75 [(.t 5), (.t 8), (.t 11)], none, false, []⟩,
⟨some 4, .mv (.t 12), none, false, []⟩]) .ret))⟩
def a124 : AFunc := ⟨8, [.tmp 6], (.seq (.region false [
⟨some 3, .box 112 (.t 0), none, false, []⟩,
⟨some 4, .box 3 (.t 1), none, false, []⟩,
⟨some 5, .box 3 (.t 2), none, false, []⟩,
⟨some 6, .mv (.c (.nilFunc)), none, false, []⟩]) (.seq (.region false [
⟨some 7, .mkf 142 [] [(.t 3), (.t 4), (.t 5)], none, false, []⟩,
⟨some 6, .mv (.t 7), none, false, []⟩]) .ret))⟩
def a125 : AFunc := ⟨44, [.tmp 8], (.seq (.region false [
⟨some 4, .box 112 (.t 0), none, false, []⟩,
⟨some 8, .mv (.c (.int .i64 0)), none, false, []⟩]) (.seq (.region true [
⟨some 13, .faddr 0 (.t 4), none, false, []⟩,
⟨some 14, .faddr 2 (.t 13), none, false, []⟩,
⟨some 15, .load 1 false (.t 14), none, true, []⟩,
⟨some 16, .mv (.t 3), none, false, []⟩,
⟨some 17, .iaddr 4 (.t 15) (.t 16), none, false, []⟩,
⟨some 18, .load 4 true (.t 17), none, true, []⟩,
⟨some 19, .faddr 3 (.t 4), none, false, []⟩,
⟨some 20, .faddr 3 (.t 19), none, false, []⟩,
⟨some 21, .load 1 false (.t 20), none, true, []⟩,
⟨some 22, .mv (.t 1), none, false, []⟩,
⟨some 23, .iaddr 3 (.t 21) (.t 22), none, false, []⟩,
⟨some 24, .load 3 true (.t 23), none, true, []⟩,
⟨some 9, .alloc 110 [.str ByteArray.empty, .int .i64 0, .int .i64 0, .int .i64 0], none, true, []⟩,
⟨some 10, .alloc 130 [.int .i64 0, .int .i64 0, .int .i64 0], none, true, [12]⟩,
⟨none, .store 4 (.t 9) (.t 18), none, true, [8, 11]⟩,
⟨none, .store 3 (.t 10) (.t 24), none, false, []⟩]) (.seq (.region false [
⟨some 25, .faddr 0 (.t 10), none, false, []⟩,
⟨some 26, .load 1 false (.t 25), none, false, []⟩,
⟨some 11, .mv (.t 26), none, false, []⟩]) (.seq (.seq (.region false [
⟨some 27, .faddr 2 (.t 9), none, false, []⟩,
⟨some 28, .load 1 false (.t 27), none, false, []⟩,
⟨some 29, .bin .gtr (.t 28) (.c (.int .i64 0)), none, false, []⟩]) (.cond (.t 29) (.region false [
⟨some 30, .faddr 1 (.t 10), none, false, []⟩,
⟨some 31, .load 1 false (.t 30), none, false, []⟩,
⟨some 11, .mv (.t 31), none, false, []⟩]) .skip)) (.seq (.region false [
⟨some 32, .faddr 2 (.t 9), none, false, []⟩,
⟨some 33, .load 1 false (.t 32), none, false, []⟩,
⟨some 34, .mv (.t 11), none, false, []⟩,
⟨some 35, .bin .mul (.t 33) (.t 34), none, false, []⟩,
⟨some 12, .mv (.t 35), none, false, []⟩]) (.seq (.seq (.region false [
⟨some 36, .mv (.t 2), none, false, []⟩,
⟨some 37, .mv (.t 3), none, false, []⟩,
⟨some 38, .bin .neq (.t 36) (.t 37), none, false, []⟩]) (.cond (.t 38) (.region false [
⟨some 39, .mv (.t 12), none, false, []⟩,
⟨some 40, .faddr 3 (.t 9), none, false, []⟩,
⟨some 41, .load 1 false (.t 40), none, false, []⟩,
⟨some 42, .bin .sub (.t 39) (.t 41), none, false, []⟩,
⟨some 12, .mv (.t 42), none, false, []⟩]) .skip)) (.seq (.region false [
⟨some 43, .mv (.t 12), none, false, []⟩,
⟨some 8, .mv (.t 43), none, false, []⟩]) .ret)))))))⟩
def a126l0b : ACode := (.seq (.region false [
⟨some 9, .bin .lss (.t 8) (.t 7), none, false, []⟩]) (.seq (.cond (.t 9) .skip (.exit 0)) (.seq (.block 1 (.seq (.region false [
⟨some 10, .mv (.t 8), none, false, []⟩,
⟨some 5, .mv (.t 10), none, false, []⟩]) (.seq (.region false [
⟨some 11, .mv (.t 1), none, false, []⟩,
⟨some 12, .mv (.t 0), none, false, []⟩,
⟨some 13, .mv (.t 5), none, false, []⟩,
⟨some 14, .iaddr 4 (.t 12) (.t 13), none, false, []⟩,
⟨some 15, .load 4 true (.t 14), none, false, []⟩,
⟨some 16, .callv (.t 11) [(.t 15)], none, false, []⟩]) (.cond (.t 16) (.seq (.region false [
⟨some 17, .mv (.t 5), none, false, []⟩,
⟨some 4, .mv (.t 17), none, false, []⟩]) .ret) .skip)))) (.region false [
⟨some 18, .bin .add (.t 8) (.c (.int .i64 1)), none, false, []⟩,
⟨some 8, .mv (.t 18), none, false, []⟩]))))
def a126l0 : ACode := .loop [0, 1, 7, 8] [4] a126l0b
def a126 : AFunc := ⟨19, [.tmp 4], (.seq (.region false [
⟨some 4, .mv (.c (.int .i64 0)), none, false, []⟩]) (.seq (.seq (.region false [
⟨some 6, .mv (.t 0), none, false, []⟩,
⟨some 7, .len false (.t 6), none, false, []⟩,
⟨some 8, .mv (.c (.int .i64 0)), none, false, []⟩]) (.block 0 a126l0)) (.seq (.region false [
⟨some 4, .mv (.c (.int .i64 (-1))), none, false, []⟩]) .ret)))⟩
def a128l0b : ACode := (.seq (.seq (.region false [
⟨some 34, .mv (.t 8), none, false, []⟩,
⟨some 35, .mv (.t 7), none, false, []⟩,
⟨some 36, .len false (.t 35), none, false, []⟩,
⟨some 37, .bin .lss (.t 34) (.t 36), none, false, []⟩]) (.cond (.t 37) .skip (.exit 0))) (.block 1 (.region true [
⟨some 38, .mv (.t 8), none, false, []⟩,
⟨some 39, .mv (.t 7), none, false, []⟩,
⟨some 40, .mv (.t 8), none, false, []⟩,
⟨some 41, .slice 1 (.t 39) (some (.t 40)) none none, none, false, []⟩,
⟨some 42, .mv (.t 7), none, false, []⟩,
⟨some 43, .mv (.t 8), none, false, []⟩,
⟨some 44, .slice 1 (.t 42) none (some (.t 43)) none, none, false, []⟩,
⟨some 45, .copy 3 (.t 41) (.t 44), none, false, []⟩,
⟨some 46, .bin .add (.t 38) (.t 45), none, false, []⟩,
⟨some 8, .mv (.t 46), none, false, []⟩])))
def a128l0 : ACode := .loop [7, 8] [4, 7] a128l0b
def a128 : AFunc := ⟨48, [.tmp 4], (.seq (.region false [
⟨some 4, .nils 1 (.c (.nilSlice)), none, false, []⟩]) (.seq (.seq (.region false [
⟨some 9, .mv (.t 1), none, false, []⟩,
⟨some 10, .bin .lss (.t 9) (.c (.int .i64 0)), none, false, []⟩]) (.cond (.t 10) (.region false [
⟨some 11, .stop, none, false, []⟩,
⟨none, .stop, none, false, []⟩]) .skip)) (.seq (.region false [
⟨some 13, .mv (.t 0), none, false, []⟩,
⟨some 14, .len false (.t 13), none, false, []⟩,
⟨some 15, .conv .u64 (.t 14), none, false, []⟩,
⟨some 16, .mv (.t 1), none, false, []⟩,
⟨some 17, .conv .u64 (.t 16), none, false, []⟩,
⟨some 18, .call 143 [(.t 15), (.t 17)], none, false, []⟩,
⟨some 12, .mv (.t 18), none, false, []⟩,
⟨some 19, .ext (.t 12) 0, none, false, []⟩,
⟨some 20, .ext (.t 12) 1, none, false, []⟩,
⟨some 5, .mv (.t 19), none, false, []⟩,
⟨some 6, .mv (.t 20), none, false, []⟩]) (.seq (.seq (.region false [
⟨some 21, .mv (.t 5), none, false, []⟩,
⟨some 22, .bin .gtr (.t 21) (.c (.int .u64 0)), none, false, []⟩,
⟨some 23, .mv (.t 22), none, false, []⟩,
⟨some 24, .mv (.t 6), some (23, false), false, []⟩,
⟨some 25, .bin .gtr (.t 24) (.c (.int .u64 9223372036854775807)), some (23, false), false, []⟩,
⟨some 26, .pick (.t 23) (.c (.bool true)) (.t 25), none, false, []⟩]) (.cond (.t 26) (.region false [
⟨some 27, .stop, none, false, []⟩,
⟨none, .stop, none, false, []⟩]) .skip)) (.seq (.region false [
⟨some 28, .mv (.t 6), none, false, []⟩,
⟨some 29, .conv .i64 (.t 28), none, false, []⟩,
⟨some 30, .mkslice 3 1 8 [.int .i64 0] (.t 29) (.t 29), none, false, []⟩,
⟨some 7, .mv (.t 30), none, false, []⟩]) (.seq (.region false [
⟨some 31, .mv (.t 7), none, false, []⟩,
⟨some 32, .mv (.t 0), none, false, []⟩,
⟨some 33, .copy 3 (.t 31) (.t 32), none, false, []⟩,
⟨some 8, .mv (.t 33), none, false, []⟩]) (.seq (.block 0 a128l0) (.seq (.region false [
⟨some 47, .mv (.t 7), none, false, []⟩,
⟨some 4, .mv (.t 47), none, false, []⟩]) .ret))))))))⟩
def a129 : AFunc := ⟨30, [.tmp 8], (.seq (.region false [
⟨some 4, .box 112 (.t 0), none, false, []⟩,
⟨some 7, .box 124 (.t 3), none, false, []⟩,
⟨some 8, .mv (.c (.bool false)), none, false, []⟩]) (.seq (.region true [
⟨some 9, .faddr 0 (.t 7), none, false, []⟩,
⟨some 10, .load 1 false (.t 9), none, false, []⟩,
⟨some 11, .bin .lss (.t 10) (.c (.int .i64 0)), none, false, []⟩,
⟨some 12, .mv (.t 11), none, false, []⟩,
⟨some 13, .load 7 true (.t 4), some (12, false), false, []⟩,
⟨some 14, .mv (.t 1), some (12, false), false, []⟩,
⟨some 15, .mv (.t 2), some (12, false), false, []⟩,
⟨some 16, .faddr 0 (.t 7), some (12, false), false, []⟩,
⟨some 17, .load 1 false (.t 16), some (12, false), false, []⟩,
⟨some 18, .call 72 [(.t 13), (.t 14), (.t 15), (.t 17)], some (12, false), true, []⟩,
⟨some 19, .faddr 1 (.t 7), some (12, false), false, []⟩,
⟨some 20, .load 1 false (.t 19), some (12, false), true, [9]⟩,
⟨some 21, .faddr 3 (.t 4), some (12, false), false, []⟩,
⟨some 22, .faddr 3 (.t 21), some (12, false), false, []⟩,
⟨some 23, .load 1 false (.t 22), some (12, false), true, [9]⟩,
⟨some 24, .len false (.t 23), some (12, false), false, []⟩,
⟨some 25, .mv (.t 2), some (12, false), false, []⟩,
⟨some 26, .bin .sub (.t 24) (.t 25), some (12, false), false, []⟩,
⟨some 27, .minmax false (.t 20) [(.t 26)], some (12, false), false, []⟩,
⟨some 28, .bin .geq (.t 18) (.t 27), some (12, false), false, []⟩,
⟨some 29, .pick (.t 12) (.c (.bool true)) (.t 28), none, false, []⟩,
⟨some 8, .mv (.t 29), none, false, []⟩]) .ret))⟩
def a130l0b : ACode := (.seq (.region false [
⟨some 9, .bin .lss (.t 8) (.t 7), none, false, []⟩]) (.seq (.cond (.t 9) .skip (.exit 0)) (.seq (.block 1 (.seq (.region false [
⟨some 10, .mv (.t 8), none, false, []⟩,
⟨some 5, .mv (.t 10), none, false, []⟩]) (.seq (.region false [
⟨some 11, .mv (.t 1), none, false, []⟩,
⟨some 12, .mv (.t 0), none, false, []⟩,
⟨some 13, .mv (.t 5), none, false, []⟩,
⟨some 14, .iaddr 1 (.t 12) (.t 13), none, false, []⟩,
⟨some 15, .load 1 false (.t 14), none, false, []⟩,
⟨some 16, .callv (.t 11) [(.t 15)], none, false, []⟩]) (.cond (.t 16) (.seq (.region false [
⟨some 17, .mv (.t 5), none, false, []⟩,
⟨some 4, .mv (.t 17), none, false, []⟩]) .ret) .skip)))) (.region false [
⟨some 18, .bin .add (.t 8) (.c (.int .i64 1)), none, false, []⟩,
⟨some 8, .mv (.t 18), none, false, []⟩]))))
def a130l0 : ACode := .loop [0, 1, 7, 8] [4] a130l0b
def a130 : AFunc := ⟨19, [.tmp 4], (.seq (.region false [
⟨some 4, .mv (.c (.int .i64 0)), none, false, []⟩]) (.seq (.seq (.region false [
⟨some 6, .mv (.t 0), none, false, []⟩,
⟨some 7, .len false (.t 6), none, false, []⟩,
⟨some 8, .mv (.c (.int .i64 0)), none, false, []⟩]) (.block 0 a130l0)) (.seq (.region false [
⟨some 4, .mv (.c (.int .i64 (-1))), none, false, []⟩]) .ret)))⟩
def a131 : AFunc := ⟨11, [], (.seq (.region false [
⟨some 3, .mv (.t 0), none, false, []⟩,
⟨some 4, .len false (.t 3), none, false, []⟩,
⟨some 2, .mv (.t 4), none, false, []⟩]) (.region false [
⟨some 5, .mv (.t 0), none, false, []⟩,
⟨some 6, .mv (.t 2), none, false, []⟩,
⟨some 7, .mv (.t 2), none, false, []⟩,
⟨some 8, .conv .u64 (.t 7), none, false, []⟩,
⟨some 9, .call 145 [(.t 8)], none, false, []⟩,
⟨some 10, .call 144 [(.t 5), (.c (.int .i64 0)), (.t 6), (.t 9)], none, false, []⟩]))⟩
def a132l0b : ACode := (.seq (.seq (.region false [
⟨some 29, .mv (.t 5), none, false, []⟩,
⟨some 30, .mv (.t 4), none, false, []⟩,
⟨some 31, .len false (.t 30), none, false, []⟩,
⟨some 32, .bin .lss (.t 29) (.t 31), none, false, []⟩]) (.cond (.t 32) .skip (.exit 2))) (.seq (.block 3 (.seq (.region true [
⟨some 35, .mv (.t 4), none, false, []⟩,
⟨some 36, .mv (.t 5), none, false, []⟩,
⟨some 37, .iaddr 1 (.t 35) (.t 36), none, false, []⟩,
⟨some 38, .load 1 false (.t 37), none, false, []⟩,
⟨some 39, .mv (.t 4), none, false, []⟩,
⟨some 40, .mv (.t 5), none, false, []⟩,
⟨some 41, .bin .sub (.t 40) (.c (.int .i64 1)), none, false, []⟩,
⟨some 42, .iaddr 1 (.t 39) (.t 41), none, false, []⟩,
⟨some 43, .load 1 false (.t 42), none, false, []⟩,
⟨some 44, .bin .neq (.t 38) (.t 43), none, false, []⟩]) (.cond (.t 44) (.seq (.region false [
⟨some 45, .mv (.t 0), none, false, []⟩,
⟨some 46, .mv (.t 3), none, false, []⟩,
⟨some 47, .mv (.t 4), none, false, []⟩,
⟨some 48, .mv (.t 5), none, false, []⟩,
⟨some 49, .iaddr 1 (.t 47) (.t 48), none, false, []⟩,
⟨some 50, .load 1 false (.t 49), none, false, []⟩,
⟨some 51, .iaddr 1 (.t 45) (.t 46), none, false, []⟩,
⟨none, .store 1 (.t 51) (.t 50), none, false, []⟩]) (.region false [
⟨some 52, .mv (.t 3), none, false, []⟩,
⟨some 53, .bin .add (.t 52) (.c (.int .i64 1)), none, false, []⟩,
⟨some 3, .mv (.t 53), none, false, []⟩])) .skip))) (.region false [
⟨some 33, .mv (.t 5), none, false, []⟩,
⟨some 34, .bin .add (.t 33) (.c (.int .i64 1)), none, false, []⟩,
⟨some 5, .mv (.t 34), none, false, []⟩])))
def a132l0 : ACode := .loop [0, 3, 4, 5] [0, 2, 3] a132l0b
def a132l1b : ACode := (.seq (.seq (.region false [
⟨some 10, .mv (.t 3), none, false, []⟩,
⟨some 11, .mv (.t 0), none, false, []⟩,
⟨some 12, .len false (.t 11), none, false, []⟩,
⟨some 13, .bin .lss (.t 10) (.t 12), none, false, []⟩]) (.cond (.t 13) .skip (.exit 0))) (.seq (.block 1 (.seq (.region true [
⟨some 16, .mv (.t 0), none, false, []⟩,
⟨some 17, .mv (.t 3), none, false, []⟩,
⟨some 18, .iaddr 1 (.t 16) (.t 17), none, false, []⟩,
⟨some 19, .load 1 false (.t 18), none, false, []⟩,
⟨some 20, .mv (.t 0), none, false, []⟩,
⟨some 21, .mv (.t 3), none, false, []⟩,
⟨some 22, .bin .sub (.t 21) (.c (.int .i64 1)), none, false, []⟩,
⟨some 23, .iaddr 1 (.t 20) (.t 22), none, false, []⟩,
⟨some 24, .load 1 false (.t 23), none, false, []⟩,
⟨some 25, .bin .eql (.t 19) (.t 24), none, false, []⟩]) (.cond (.t 25) (.seq (.region false [
⟨some 26, .mv (.t 0), none, false, []⟩,
⟨some 27, .mv (.t 3), none, false, []⟩,
⟨some 28, .slice 1 (.t 26) (some (.t 27)) none none, none, false, []⟩,
⟨some 4, .mv (.t 28), none, false, []⟩]) (.seq (.seq (.region false [
⟨some 5, .mv (.c (.int .i64 1)), none, false, []⟩]) (.block 2 a132l0)) (.seq (.region false [
⟨some 54, .mv (.t 0), none, false, []⟩,
⟨some 55, .mv (.t 3), none, false, []⟩,
⟨some 56, .slice 1 (.t 54) (some (.t 55)) none none, none, false, []⟩,
⟨none, .clear 3 1 [.int .i64 0] (.t 56), none, false, []⟩]) (.seq (.region false [
⟨some 57, .mv (.t 0), none, false, []⟩,
⟨some 58, .mv (.t 3), none, false, []⟩,
⟨some 59, .slice 1 (.t 57) none (some (.t 58)) none, none, false, []⟩,
⟨some 2, .mv (.t 59), none, false, []⟩]) .ret)))) .skip))) (.region false [
⟨some 14, .mv (.t 3), none, false, []⟩,
⟨some 15, .bin .add (.t 14) (.c (.int .i64 1)), none, false, []⟩,
⟨some 3, .mv (.t 15), none, false, []⟩])))
def a132l1 : ACode := .loop [0, 3] [0, 2] a132l1b
def a132 : AFunc := ⟨61, [.tmp 2], (.seq (.region false [
⟨some 2, .nils 1 (.c (.nilSlice)), none, false, []⟩]) (.seq (.seq (.region false [
⟨some 6, .mv (.t 0), none, false, []⟩,
⟨some 7, .len false (.t 6), none, false, []⟩,
⟨some 8, .bin .lss (.t 7) (.c (.int .i64 2)), none, false, []⟩]) (.cond (.t 8) (.seq (.region false [
⟨some 9, .mv (.t 0), none, false, []⟩,
⟨some 2, .mv (.t 9), none, false, []⟩]) .ret) .skip)) (.seq (.seq (.region false [
⟨some 3, .mv (.c (.int .i64 1)), none, false, []⟩]) (.block 0 a132l1)) (.seq (.region false [
⟨some 60, .mv (.t 0), none, false, []⟩,
⟨some 2, .mv (.t 60), none, false, []⟩]) .ret))))⟩
def a135l0b : ACode := (.seq (.region false [
⟨some 9, .bin .lss (.t 8) (.t 7), none, false, []⟩]) (.seq (.cond (.t 9) .skip (.exit 0)) (.seq (.block 1 (.seq (.region false [
⟨some 10, .mv (.t 8), none, false, []⟩,
⟨some 5, .mv (.t 10), none, false, []⟩]) (.seq (.region false [
⟨some 11, .mv (.t 1), none, false, []⟩,
⟨some 12, .mv (.t 0), none, false, []⟩,
⟨some 13, .mv (.t 5), none, false, []⟩,
⟨some 14, .iaddr 3 (.t 12) (.t 13), none, false, []⟩,
⟨some 15, .load 3 true (.t 14), none, false, []⟩,
⟨some 16, .callv (.t 11) [(.t 15)], none, false, []⟩]) (.cond (.t 16) (.seq (.region false [
⟨some 17, .mv (.t 5), none, false, []⟩,
⟨some 4, .mv (.t 17), none, false, []⟩]) .ret) .skip)))) (.region false [
⟨some 18, .bin .add (.t 8) (.c (.int .i64 1)), none, false, []⟩,
⟨some 8, .mv (.t 18), none, false, []⟩]))))
def a135l0 : ACode := .loop [0, 1, 7, 8] [4] a135l0b
def a135 : AFunc := ⟨19, [.tmp 4], (.seq (.region false [
⟨some 4, .mv (.c (.int .i64 0)), none, false, []⟩]) (.seq (.seq (.region false [
⟨some 6, .mv (.t 0), none, false, []⟩,
⟨some 7, .len false (.t 6), none, false, []⟩,
⟨some 8, .mv (.c (.int .i64 0)), none, false, []⟩]) (.block 0 a135l0)) (.seq (.region false [
⟨some 4, .mv (.c (.int .i64 (-1))), none, false, []⟩]) .ret)))⟩
def a137 : AFunc := ⟨9, [], (.region false [
⟨some 4, .mv (.t 0), none, false, []⟩,
⟨some 5, .mv (.t 0), none, false, []⟩,
⟨some 6, .len false (.t 5), none, false, []⟩,
⟨some 7, .mv (.t 1), none, false, []⟩,
⟨some 8, .call 146 [(.t 4), (.t 6), (.t 7)], none, false, []⟩])⟩
def a138 : AFunc := ⟨17, [.tmp 5], (.seq (.region false [
⟨some 5, .mv (.c (.int .i64 0)), none, false, []⟩]) (.seq (.region true [
⟨some 6, .load 1 false (.t 2), none, false, []⟩,
⟨some 7, .mv (.t 0), none, false, []⟩,
⟨some 8, .iaddr 3 (.t 6) (.t 7), none, false, []⟩,
⟨some 9, .faddr 1 (.t 8), none, false, []⟩,
⟨some 10, .load 1 false (.t 9), none, false, []⟩,
⟨some 11, .load 1 false (.t 2), none, false, []⟩,
⟨some 12, .mv (.t 1), none, false, []⟩,
⟨some 13, .iaddr 3 (.t 11) (.t 12), none, false, []⟩,
⟨some 14, .faddr 1 (.t 13), none, false, []⟩,
⟨some 15, .load 1 false (.t 14), none, false, []⟩,
⟨some 16, .bin .sub (.t 10) (.t 15), none, false, []⟩,
⟨some 5, .mv (.t 16), none, false, []⟩]) .ret))⟩
def a140 : AFunc := ⟨6, [.tmp 2], (.seq (.region false [
⟨some 2, .mv (.c (.bool false)), none, false, []⟩]) (.seq (.region false [
⟨some 3, .mv (.t 0), none, false, []⟩,
⟨some 4, .call 141 [(.t 3)], none, false, []⟩,
⟨some 5, .un .not (.t 4), none, false, []⟩,
⟨some 2, .mv (.t 5), none, false, []⟩]) .ret))⟩
def a141 : AFunc := ⟨5, [.tmp 2], (.seq (.region false [
⟨some 2, .mv (.c (.bool false)), none, false, []⟩]) (.seq (.region false [
⟨some 3, .mv (.t 0), none, false, []⟩,
⟨some 4, .call 80 [(.t 3), (.c (.int .i64 1000000))], none, false, []⟩,
⟨some 2, .mv (.t 4), none, false, []⟩]) .ret))⟩
def a142l0b : ACode := (.seq (.region false [
⟨some 12, .bin .lss (.t 11) (.t 10), none, false, []⟩]) (.seq (.cond (.t 12) .skip (.exit 0)) (.seq (.block 1 (.seq (.region false [
⟨some 13, .mv (.t 11), none, false, []⟩,
⟨some 5, .mv (.t 13), none, false, []⟩]) (.seq (.region false [
⟨some 14, .load 7 true (.t 1), none, false, []⟩,
⟨some 15, .load 1 false (.t 2), none, false, []⟩,
⟨some 16, .load 1 false (.t 3), none, false, []⟩,
⟨some 17, .mv (.t 5), none, false, []⟩,
⟨some 18, .call 122 [(.t 14), (.t 15), (.t 16), (.t 17)], none, false, []⟩,
⟨some 6, .mv (.t 18), none, false, []⟩]) (.seq (.region false [
⟨some 19, .load 7 true (.t 1), none, false, []⟩,
⟨some 20, .mv (.t 6), none, false, []⟩,
⟨some 21, .call 123 [(.t 19), (.t 20)], none, false, []⟩,
⟨some 22, .mv (.t 21), none, false, []⟩,
⟨some 23, .mv (.t 0), some (22, true), false, []⟩,
⟨some 24, .mv (.t 5), some (22, true), false, []⟩,
⟨some 25, .mv (.t 6), some (22, true), false, []⟩,
⟨some 26, .callv (.t 23) [(.t 24), (.t 25)], some (22, true), false, []⟩,
⟨some 27, .un .not (.t 26), some (22, true), false, []⟩,
⟨some 28, .pick (.t 22) (.t 27) (.c (.bool false)), none, false, []⟩]) (.cond (.t 28) .ret .skip))))) (.region false [
⟨some 29, .bin .add (.t 11) (.c (.int .i64 1)), none, false, []⟩,
⟨some 11, .mv (.t 29), none, false, []⟩]))))
def a142l0 : ACode := .loop [0, 1, 2, 3, 10, 11] [] a142l0b
def a142 : AFunc := ⟨30, [], (.seq (.region false [
⟨some 7, .faddr 0 (.t 1), none, false, []⟩,
⟨some 8, .faddr 2 (.t 7), none, false, []⟩,
⟨some 9, .load 1 false (.t 8), none, false, []⟩,
⟨some 10, .len false (.t 9), none, false, []⟩,
⟨some 11, .mv (.c (.int .i64 0)), none, false, []⟩]) (.block 0 a142l0))⟩
def a143 : AFunc := ⟨30, [.tmp 4, .tmp 5], (.seq (.region false [
⟨some 4, .mv (.c (.int .u64 0)), none, false, []⟩,
⟨some 5, .mv (.c (.int .u64 0)), none, false, []⟩]) (.seq (.cond (.c (.bool false)) (.seq (.region false [
⟨some 11, .mv (.t 0), none, false, []⟩,
⟨some 12, .conv .u32 (.t 11), none, false, []⟩,
⟨some 13, .mv (.t 1), none, false, []⟩,
⟨some 14, .conv .u32 (.t 13), none, false, []⟩,
⟨some 15, .call 148 [(.t 12), (.t 14)], none, false, []⟩,
⟨some 10, .mv (.t 15), none, false, []⟩,
⟨some 16, .ext (.t 10) 0, none, false, []⟩,
⟨some 17, .ext (.t 10) 1, none, false, []⟩,
⟨some 6, .mv (.t 16), none, false, []⟩,
⟨some 7, .mv (.t 17), none, false, []⟩]) (.seq (.region false [
⟨some 18, .mv (.t 6), none, false, []⟩,
⟨some 19, .conv .u64 (.t 18), none, false, []⟩,
⟨some 20, .mv (.t 7), none, false, []⟩,
⟨some 21, .conv .u64 (.t 20), none, false, []⟩,
⟨some 4, .mv (.t 19), none, false, []⟩,
⟨some 5, .mv (.t 21), none, false, []⟩]) .ret)) .skip) (.seq (.region false [
⟨some 23, .mv (.t 0), none, false, []⟩,
⟨some 24, .mv (.t 1), none, false, []⟩,
⟨some 25, .call 149 [(.t 23), (.t 24)], none, false, []⟩,
⟨some 22, .mv (.t 25), none, false, []⟩,
⟨some 26, .ext (.t 22) 0, none, false, []⟩,
⟨some 27, .ext (.t 22) 1, none, false, []⟩,
⟨some 8, .mv (.t 26), none, false, []⟩,
⟨some 9, .mv (.t 27), none, false, []⟩]) (.seq (.region false [
⟨some 28, .mv (.t 8), none, false, []⟩,
⟨some 29, .mv (.t 9), none, false, []⟩,
⟨some 4, .mv (.t 28), none, false, []⟩,
⟨some 5, .mv (.t 29), none, false, []⟩]) .ret))))⟩
def a144l0b : ACode := (.block 1 (.seq (.region false [
⟨some 19, .mv (.t 2), none, false, []⟩,
⟨some 20, .mv (.t 1), none, false, []⟩,
⟨some 21, .bin .sub (.t 19) (.t 20), none, false, []⟩,
⟨some 10, .mv (.t 21), none, false, []⟩]) (.seq (.seq (.region false [
⟨some 22, .mv (.t 10), none, false, []⟩,
⟨some 23, .bin .leq (.t 22) (.c (.int .i64 12)), none, false, []⟩]) (.cond (.t 23) (.seq (.region false [
⟨some 24, .mv (.t 0), none, false, []⟩,
⟨some 25, .mv (.t 1), none, false, []⟩,
⟨some 26, .mv (.t 2), none, false, []⟩,
⟨some 27, .call 150 [(.t 24), (.t 25), (.t 26)], none, false, []⟩]) .ret) .skip)) (.seq (.seq (.region false [
⟨some 28, .mv (.t 3), none, false, []⟩,
⟨some 29, .bin .eql (.t 28) (.c (.int .i64 0)), none, false, []⟩]) (.cond (.t 29) (.seq (.region false [
⟨some 30, .mv (.t 0), none, false, []⟩,
⟨some 31, .mv (.t 1), none, false, []⟩,
⟨some 32, .mv (.t 2), none, false, []⟩,
⟨some 33, .call 151 [(.t 30), (.t 31), (.t 32)], none, false, []⟩]) .ret) .skip)) (.seq (.seq (.region false [
⟨some 34, .mv (.t 8), none, false, []⟩,
⟨some 35, .un .not (.t 34), none, false, []⟩]) (.cond (.t 35) (.seq (.region false [
⟨some 36, .mv (.t 0), none, false, []⟩,
⟨some 37, .mv (.t 1), none, false, []⟩,
⟨some 38, .mv (.t 2), none, false, []⟩,
⟨some 39, .call 152 [(.t 36), (.t 37), (.t 38)], none, false, []⟩]) (.region false [
⟨some 40, .mv (.t 3), none, false, []⟩,
⟨some 41, .bin .sub (.t 40) (.c (.int .i64 1)), none, false, []⟩,
⟨some 3, .mv (.t 41), none, false, []⟩])) .skip)) (.seq (.region false [
⟨some 43, .mv (.t 0), none, false, []⟩,
⟨some 44, .mv (.t 1), none, false, []⟩,
⟨some 45, .mv (.t 2), none, false, []⟩,
⟨some 46, .call 153 [(.t 43), (.t 44), (.t 45)], none, false, []⟩,
⟨some 42, .mv (.t 46), none, false, []⟩,
⟨some 47, .ext (.t 42) 0, none, false, []⟩,
⟨some 48, .ext (.t 42) 1, none, false, []⟩,
⟨some 11, .mv (.t 47), none, false, []⟩,
⟨some 12, .mv (.t 48), none, false, []⟩]) (.seq (.seq (.region false [
⟨some 49, .mv (.t 12), none, false, []⟩,
⟨some 50, .bin .eql (.t 49) (.c (.int .i64 2)), none, false, []⟩]) (.cond (.t 50) (.seq (.region false [
⟨some 51, .mv (.t 0), none, false, []⟩,
⟨some 52, .mv (.t 1), none, false, []⟩,
⟨some 53, .mv (.t 2), none, false, []⟩,
⟨some 54, .call 154 [(.t 51), (.t 52), (.t 53)], none, false, []⟩]) (.seq (.region false [
⟨some 55, .mv (.t 2), none, false, []⟩,
⟨some 56, .bin .sub (.t 55) (.c (.int .i64 1)), none, false, []⟩,
⟨some 57, .mv (.t 11), none, false, []⟩,
⟨some 58, .mv (.t 1), none, false, []⟩,
⟨some 59, .bin .sub (.t 57) (.t 58), none, false, []⟩,
⟨some 60, .bin .sub (.t 56) (.t 59), none, false, []⟩,
⟨some 11, .mv (.t 60), none, false, []⟩]) (.region false [
⟨some 12, .mv (.c (.int .i64 1)), none, false, []⟩]))) .skip)) (.seq (.seq (.region false [
⟨some 61, .mv (.t 8), none, false, []⟩,
⟨some 62, .mv (.t 61), none, false, []⟩,
⟨some 63, .mv (.t 9), some (62, true), false, []⟩,
⟨some 64, .pick (.t 62) (.t 63) (.c (.bool false)), none, false, []⟩,
⟨some 65, .mv (.t 64), none, false, []⟩,
⟨some 66, .mv (.t 12), some (65, true), false, []⟩,
⟨some 67, .bin .eql (.t 66) (.c (.int .i64 1)), some (65, true), false, []⟩,
⟨some 68, .pick (.t 65) (.t 67) (.c (.bool false)), none, false, []⟩]) (.cond (.t 68) (.seq (.region false [
⟨some 69, .mv (.t 0), none, false, []⟩,
⟨some 70, .mv (.t 1), none, false, []⟩,
⟨some 71, .mv (.t 2), none, false, []⟩,
⟨some 72, .call 155 [(.t 69), (.t 70), (.t 71)], none, false, []⟩]) (.cond (.t 72) .ret .skip)) .skip)) (.seq (.seq (.region true [
⟨some 73, .mv (.t 1), none, false, []⟩,
⟨some 74, .bin .gtr (.t 73) (.c (.int .i64 0)), none, false, []⟩,
⟨some 75, .mv (.t 74), none, false, []⟩,
⟨some 76, .mv (.t 0), some (75, true), false, []⟩,
⟨some 77, .mv (.t 1), some (75, true), false, []⟩,
⟨some 78, .bin .sub (.t 77) (.c (.int .i64 1)), some (75, true), false, []⟩,
⟨some 79, .iaddr 1 (.t 76) (.t 78), some (75, true), false, []⟩,
⟨some 80, .load 1 false (.t 79), some (75, true), false, []⟩,
⟨some 81, .mv (.t 0), some (75, true), false, []⟩,
⟨some 82, .mv (.t 11), some (75, true), false, []⟩,
⟨some 83, .iaddr 1 (.t 81) (.t 82), some (75, true), false, []⟩,
⟨some 84, .load 1 false (.t 83), some (75, true), false, []⟩,
⟨some 85, .call 156 [(.t 80), (.t 84)], some (75, true), false, []⟩,
⟨some 86, .un .not (.t 85), some (75, true), false, []⟩,
⟨some 87, .pick (.t 75) (.t 86) (.c (.bool false)), none, false, []⟩]) (.cond (.t 87) (.seq (.region false [
⟨some 88, .mv (.t 0), none, false, []⟩,
⟨some 89, .mv (.t 1), none, false, []⟩,
⟨some 90, .mv (.t 2), none, false, []⟩,
⟨some 91, .mv (.t 11), none, false, []⟩,
⟨some 92, .call 157 [(.t 88), (.t 89), (.t 90), (.t 91)], none, false, []⟩,
⟨some 13, .mv (.t 92), none, false, []⟩]) (.seq (.region false [
⟨some 93, .mv (.t 13), none, false, []⟩,
⟨some 1, .mv (.t 93), none, false, []⟩]) (.exit 1))) .skip)) (.seq (.region false [
⟨some 95, .mv (.t 0), none, false, []⟩,
⟨some 96, .mv (.t 1), none, false, []⟩,
⟨some 97, .mv (.t 2), none, false, []⟩,
⟨some 98, .mv (.t 11), none, false, []⟩,
⟨some 99, .call 158 [(.t 95), (.t 96), (.t 97), (.t 98)], none, false, []⟩,
⟨some 94, .mv (.t 99), none, false, []⟩,
⟨some 100, .ext (.t 94) 0, none, false, []⟩,
⟨some 101, .ext (.t 94) 1, none, false, []⟩,
⟨some 14, .mv (.t 100), none, false, []⟩,
⟨some 15, .mv (.t 101), none, false, []⟩]) (.seq (.region false [
⟨some 102, .mv (.t 15), none, false, []⟩,
⟨some 9, .mv (.t 102), none, false, []⟩]) (.seq (.region false [
⟨some 103, .mv (.t 14), none, false, []⟩,
⟨some 104, .mv (.t 1), none, false, []⟩,
⟨some 105, .bin .sub (.t 103) (.t 104), none, false, []⟩,
⟨some 106, .mv (.t 2), none, false, []⟩,
⟨some 107, .mv (.t 14), none, false, []⟩,
⟨some 108, .bin .sub (.t 106) (.t 107), none, false, []⟩,
⟨some 16, .mv (.t 105), none, false, []⟩,
⟨some 17, .mv (.t 108), none, false, []⟩]) (.seq (.region false [
⟨some 109, .mv (.t 10), none, false, []⟩,
⟨some 110, .bin .quo (.t 109) (.c (.int .i64 8)), none, false, []⟩,
⟨some 18, .mv (.t 110), none, false, []⟩]) (.seq (.region false [
⟨some 111, .mv (.t 16), none, false, []⟩,
⟨some 112, .mv (.t 17), none, false, []⟩,
⟨some 113, .bin .lss (.t 111) (.t 112), none, false, []⟩]) (.cond (.t 113) (.seq (.region false [
⟨some 114, .mv (.t 16), none, false, []⟩,
⟨some 115, .mv (.t 18), none, false, []⟩,
⟨some 116, .bin .geq (.t 114) (.t 115), none, false, []⟩,
⟨some 8, .mv (.t 116), none, false, []⟩]) (.seq (.region false [
⟨some 117, .mv (.t 0), none, false, []⟩,
⟨some 118, .mv (.t 1), none, false, []⟩,
⟨some 119, .mv (.t 14), none, false, []⟩,
⟨some 120, .mv (.t 3), none, false, []⟩,
⟨some 121, .call 144 [(.t 117), (.t 118), (.t 119), (.t 120)], none, false, []⟩]) (.region false [
⟨some 122, .mv (.t 14), none, false, []⟩,
⟨some 123, .bin .add (.t 122) (.c (.int .i64 1)), none, false, []⟩,
⟨some 1, .mv (.t 123), none, false, []⟩]))) (.seq (.region false [
⟨some 124, .mv (.t 17), none, false, []⟩,
⟨some 125, .mv (.t 18), none, false, []⟩,
⟨some 126, .bin .geq (.t 124) (.t 125), none, false, []⟩,
⟨some 8, .mv (.t 126), none, false, []⟩]) (.seq (.region false [
⟨some 127, .mv (.t 0), none, false, []⟩,
⟨some 128, .mv (.t 14), none, false, []⟩,
⟨some 129, .bin .add (.t 128) (.c (.int .i64 1)), none, false, []⟩,
⟨some 130, .mv (.t 2), none, false, []⟩,
⟨some 131, .mv (.t 3), none, false, []⟩,
⟨some 132, .call 144 [(.t 127), (.t 129), (.t 130), (.t 131)], none, false, []⟩]) (.region false [
⟨some 133, .mv (.t 14), none, false, []⟩,
⟨some 2, .mv (.t 133), none, false, []⟩]))))))))))))))))))
def a144l0 : ACode := .loop [0, 1, 2, 3, 8, 9] [] a144l0b
def a144 : AFunc := ⟨134, [], (.seq (.region false [
⟨some 8, .mv (.c (.bool true)), none, false, []⟩]) (.seq (.region false [
⟨some 9, .mv (.c (.bool true)), none, false, []⟩]) (.block 0 a144l0)))⟩
def a145 : AFunc := ⟨8, [.tmp 2], (.seq (.region false [
⟨some 2, .mv (.c (.int .i64 0)), none, false, []⟩]) (.seq (.cond (.c (.bool false)) (.seq (.region false [
⟨some 3, .mv (.t 0), none, false, []⟩,
⟨some 4, .conv .u32 (.t 3), none, false, []⟩,
⟨some 5, .call 159 [(.t 4)], none, false, []⟩,
⟨some 2, .mv (.t 5), none, false, []⟩]) .ret) .skip) (.seq (.region false [
⟨some 6, .mv (.t 0), none, false, []⟩,
⟨some 7, .call 160 [(.t 6)], none, false, []⟩,
⟨some 2, .mv (.t 7), none, false, []⟩]) .ret)))⟩
def a146l0b : ACode := (.seq (.seq (.region false [
⟨some 11, .mv (.t 8), none, false, []⟩,
⟨some 12, .mv (.t 1), none, false, []⟩,
⟨some 13, .bin .leq (.t 11) (.t 12), none, false, []⟩]) (.cond (.t 13) .skip (.exit 0))) (.block 1 (.seq (.region false [
⟨some 14, .mv (.t 0), none, false, []⟩,
⟨some 15, .mv (.t 7), none, false, []⟩,
⟨some 16, .mv (.t 8), none, false, []⟩,
⟨some 17, .mv (.t 2), none, false, []⟩,
⟨some 18, .call 161 [(.t 14), (.t 15), (.t 16), (.t 17)], none, false, []⟩]) (.seq (.region false [
⟨some 19, .mv (.t 8), none, false, []⟩,
⟨some 7, .mv (.t 19), none, false, []⟩]) (.region false [
⟨some 20, .mv (.t 8), none, false, []⟩,
⟨some 21, .mv (.t 6), none, false, []⟩,
⟨some 22, .bin .add (.t 20) (.t 21), none, false, []⟩,
⟨some 8, .mv (.t 22), none, false, []⟩])))))
def a146l0 : ACode := .loop [0, 1, 2, 6, 7, 8] [0, 1, 2, 6, 7] a146l0b
def a146l1b : ACode := (.seq (.seq (.region false [
⟨some 33, .mv (.t 8), none, false, []⟩,
⟨some 34, .mv (.t 1), none, false, []⟩,
⟨some 35, .bin .leq (.t 33) (.t 34), none, false, []⟩]) (.cond (.t 35) .skip (.exit 4))) (.block 5 (.seq (.region false [
⟨some 36, .mv (.t 0), none, false, []⟩,
⟨some 37, .mv (.t 7), none, false, []⟩,
⟨some 38, .mv (.t 7), none, false, []⟩,
⟨some 39, .mv (.t 6), none, false, []⟩,
⟨some 40, .bin .add (.t 38) (.t 39), none, false, []⟩,
⟨some 41, .mv (.t 8), none, false, []⟩,
⟨some 42, .mv (.t 2), none, false, []⟩,
⟨some 43, .call 162 [(.t 36), (.t 37), (.t 40), (.t 41), (.t 42)], none, false, []⟩]) (.seq (.region false [
⟨some 44, .mv (.t 8), none, false, []⟩,
⟨some 7, .mv (.t 44), none, false, []⟩]) (.region false [
⟨some 45, .mv (.t 8), none, false, []⟩,
⟨some 46, .mv (.t 6), none, false, []⟩,
⟨some 47, .bin .mul (.c (.int .i64 2)) (.t 46), none, false, []⟩,
⟨some 48, .bin .add (.t 45) (.t 47), none, false, []⟩,
⟨some 8, .mv (.t 48), none, false, []⟩])))))
def a146l1 : ACode := .loop [0, 1, 2, 6, 7, 8] [0, 1, 2, 6, 7] a146l1b
def a146l2b : ACode := (.seq (.seq (.region false [
⟨some 28, .mv (.t 6), none, false, []⟩,
⟨some 29, .mv (.t 1), none, false, []⟩,
⟨some 30, .bin .lss (.t 28) (.t 29), none, false, []⟩]) (.cond (.t 30) .skip (.exit 2))) (.block 3 (.seq (.region false [
⟨some 31, .mv (.t 6), none, false, []⟩,
⟨some 32, .bin .mul (.c (.int .i64 2)) (.t 31), none, false, []⟩,
⟨some 7, .mv (.c (.int .i64 0)), none, false, []⟩,
⟨some 8, .mv (.t 32), none, false, []⟩]) (.seq (.block 4 a146l1) (.seq (.seq (.region false [
⟨some 49, .mv (.t 7), none, false, []⟩,
⟨some 50, .mv (.t 6), none, false, []⟩,
⟨some 51, .bin .add (.t 49) (.t 50), none, false, []⟩,
⟨some 9, .mv (.t 51), none, false, []⟩]) (.seq (.region false [
⟨some 52, .mv (.t 9), none, false, []⟩,
⟨some 53, .mv (.t 1), none, false, []⟩,
⟨some 54, .bin .lss (.t 52) (.t 53), none, false, []⟩]) (.cond (.t 54) (.region false [
⟨some 55, .mv (.t 0), none, false, []⟩,
⟨some 56, .mv (.t 7), none, false, []⟩,
⟨some 57, .mv (.t 9), none, false, []⟩,
⟨some 58, .mv (.t 1), none, false, []⟩,
⟨some 59, .mv (.t 2), none, false, []⟩,
⟨some 60, .call 162 [(.t 55), (.t 56), (.t 57), (.t 58), (.t 59)], none, false, []⟩]) .skip))) (.region false [
⟨some 61, .mv (.t 6), none, false, []⟩,
⟨some 62, .bin .mul (.t 61) (.c (.int .i64 2)), none, false, []⟩,
⟨some 6, .mv (.t 62), none, false, []⟩]))))))
def a146l2 : ACode := .loop [0, 1, 2, 6] [] a146l2b
def a146 : AFunc := ⟨63, [], (.seq (.region false [
⟨some 6, .mv (.c (.int .i64 20)), none, false, []⟩]) (.seq (.region false [
⟨some 10, .mv (.t 6), none, false, []⟩,
⟨some 7, .mv (.c (.int .i64 0)), none, false, []⟩,
⟨some 8, .mv (.t 10), none, false, []⟩]) (.seq (.block 0 a146l0) (.seq (.region false [
⟨some 23, .mv (.t 0), none, false, []⟩,
⟨some 24, .mv (.t 7), none, false, []⟩,
⟨some 25, .mv (.t 1), none, false, []⟩,
⟨some 26, .mv (.t 2), none, false, []⟩,
⟨some 27, .call 161 [(.t 23), (.t 24), (.t 25), (.t 26)], none, false, []⟩]) (.block 2 a146l2)))))⟩
def a147 : AFunc := ⟨6, [.tmp 2], (.seq (.region false [
⟨some 2, .mv (.c (.bool false)), none, false, []⟩]) (.seq (.region false [
⟨some 3, .mv (.t 0), none, false, []⟩,
⟨some 4, .mv (.t 0), none, false, []⟩,
⟨some 5, .bin .neq (.t 3) (.t 4), none, false, []⟩,
⟨some 2, .mv (.t 5), none, false, []⟩]) .ret))⟩
def a148 : AFunc := ⟨17, [.tmp 4, .tmp 5], (.seq (.region false [
⟨some 4, .mv (.c (.int .u32 0)), none, false, []⟩,
⟨some 5, .mv (.c (.int .u32 0)), none, false, []⟩]) (.seq (.region false [
⟨some 7, .mv (.t 0), none, false, []⟩,
⟨some 8, .conv .u64 (.t 7), none, false, []⟩,
⟨some 9, .mv (.t 1), none, false, []⟩,
⟨some 10, .conv .u64 (.t 9), none, false, []⟩,
⟨some 11, .bin .mul (.t 8) (.t 10), none, false, []⟩,
⟨some 6, .mv (.t 11), none, false, []⟩]) (.seq (.region false [
⟨some 12, .mv (.t 6), none, false, []⟩,
⟨some 13, .bin .shr (.t 12) (.c (.int .u64 32)), none, false, []⟩,
⟨some 14, .conv .u32 (.t 13), none, false, []⟩,
⟨some 15, .mv (.t 6), none, false, []⟩,
⟨some 16, .conv .u32 (.t 15), none, false, []⟩,
⟨some 4, .mv (.t 14), none, false, []⟩,
⟨some 5, .mv (.t 16), none, false, []⟩]) .ret)))⟩
def a149 : AFunc := ⟨51, [.tmp 4, .tmp 5], (.seq (.region false [
⟨some 4, .mv (.c (.int .u64 0)), none, false, []⟩,
⟨some 5, .mv (.c (.int .u64 0)), none, false, []⟩]) (.seq (.region false [
⟨some 14, .mv (.t 0), none, false, []⟩,
⟨some 15, .bin .and (.t 14) (.c (.int .u64 4294967295)), none, false, []⟩,
⟨some 6, .mv (.t 15), none, false, []⟩]) (.seq (.region false [
⟨some 16, .mv (.t 0), none, false, []⟩,
⟨some 17, .bin .shr (.t 16) (.c (.int .u64 32)), none, false, []⟩,
⟨some 7, .mv (.t 17), none, false, []⟩]) (.seq (.region false [
⟨some 18, .mv (.t 1), none, false, []⟩,
⟨some 19, .bin .and (.t 18) (.c (.int .u64 4294967295)), none, false, []⟩,
⟨some 8, .mv (.t 19), none, false, []⟩]) (.seq (.region false [
⟨some 20, .mv (.t 1), none, false, []⟩,
⟨some 21, .bin .shr (.t 20) (.c (.int .u64 32)), none, false, []⟩,
⟨some 9, .mv (.t 21), none, false, []⟩]) (.seq (.region false [
⟨some 22, .mv (.t 6), none, false, []⟩,
⟨some 23, .mv (.t 8), none, false, []⟩,
⟨some 24, .bin .mul (.t 22) (.t 23), none, false, []⟩,
⟨some 10, .mv (.t 24), none, false, []⟩]) (.seq (.region false [
⟨some 25, .mv (.t 7), none, false, []⟩,
⟨some 26, .mv (.t 8), none, false, []⟩,
⟨some 27, .bin .mul (.t 25) (.t 26), none, false, []⟩,
⟨some 28, .mv (.t 10), none, false, []⟩,
⟨some 29, .bin .shr (.t 28) (.c (.int .u64 32)), none, false, []⟩,
⟨some 30, .bin .add (.t 27) (.t 29), none, false, []⟩,
⟨some 11, .mv (.t 30), none, false, []⟩]) (.seq (.region false [
⟨some 31, .mv (.t 11), none, false, []⟩,
⟨some 32, .bin .and (.t 31) (.c (.int .u64 4294967295)), none, false, []⟩,
⟨some 12, .mv (.t 32), none, false, []⟩]) (.seq (.region false [
⟨some 33, .mv (.t 11), none, false, []⟩,
⟨some 34, .bin .shr (.t 33) (.c (.int .u64 32)), none, false, []⟩,
⟨some 13, .mv (.t 34), none, false, []⟩]) (.seq (.region false [
⟨some 35, .mv (.t 12), none, false, []⟩,
⟨some 36, .mv (.t 6), none, false, []⟩,
⟨some 37, .mv (.t 9), none, false, []⟩,
⟨some 38, .bin .mul (.t 36) (.t 37), none, false, []⟩,
⟨some 39, .bin .add (.t 35) (.t 38), none, false, []⟩,
⟨some 12, .mv (.t 39), none, false, []⟩]) (.seq (.region false [
⟨some 40, .mv (.t 7), none, false, []⟩,
⟨some 41, .mv (.t 9), none, false, []⟩,
⟨some 42, .bin .mul (.t 40) (.t 41), none, false, []⟩,
⟨some 43, .mv (.t 13), none, false, []⟩,
⟨some 44, .bin .add (.t 42) (.t 43), none, false, []⟩,
⟨some 45, .mv (.t 12), none, false, []⟩,
⟨some 46, .bin .shr (.t 45) (.c (.int .u64 32)), none, false, []⟩,
⟨some 47, .bin .add (.t 44) (.t 46), none, false, []⟩,
⟨some 4, .mv (.t 47), none, false, []⟩]) (.seq (.region false [
⟨some 48, .mv (.t 0), none, false, []⟩,
⟨some 49, .mv (.t 1), none, false, []⟩,
⟨some 50, .bin .mul (.t 48) (.t 49), none, false, []⟩,
⟨some 5, .mv (.t 50), none, false, []⟩]) .ret))))))))))))⟩
def a150l0b : ACode := (.seq (.seq (.region true [
⟨some 16, .mv (.t 7), none, false, []⟩,
⟨some 17, .mv (.t 1), none, false, []⟩,
⟨some 18, .bin .gtr (.t 16) (.t 17), none, false, []⟩,
⟨some 19, .mv (.t 18), none, false, []⟩,
⟨some 20, .mv (.t 0), some (19, true), false, []⟩,
⟨some 21, .mv (.t 7), some (19, true), false, []⟩,
⟨some 22, .iaddr 1 (.t 20) (.t 21), some (19, true), false, []⟩,
⟨some 23, .load 1 false (.t 22), some (19, true), false, []⟩,
⟨some 24, .mv (.t 0), some (19, true), false, []⟩,
⟨some 25, .mv (.t 7), some (19, true), false, []⟩,
⟨some 26, .bin .sub (.t 25) (.c (.int .i64 1)), some (19, true), false, []⟩,
⟨some 27, .iaddr 1 (.t 24) (.t 26), some (19, true), false, []⟩,
⟨some 28, .load 1 false (.t 27), some (19, true), false, []⟩,
⟨some 29, .call 156 [(.t 23), (.t 28)], some (19, true), false, []⟩,
⟨some 30, .pick (.t 19) (.t 29) (.c (.bool false)), none, false, []⟩]) (.cond (.t 30) .skip (.exit 2))) (.seq (.block 3 (.region true [
⟨some 33, .mv (.t 0), none, false, []⟩,
⟨some 34, .mv (.t 7), none, false, []⟩,
⟨some 35, .mv (.t 0), none, false, []⟩,
⟨some 36, .mv (.t 7), none, false, []⟩,
⟨some 37, .bin .sub (.t 36) (.c (.int .i64 1)), none, false, []⟩,
⟨some 38, .mv (.t 0), none, false, []⟩,
⟨some 39, .mv (.t 7), none, false, []⟩,
⟨some 40, .bin .sub (.t 39) (.c (.int .i64 1)), none, false, []⟩,
⟨some 41, .iaddr 1 (.t 38) (.t 40), none, false, []⟩,
⟨some 42, .load 1 false (.t 41), none, false, []⟩,
⟨some 43, .mv (.t 0), none, false, []⟩,
⟨some 44, .mv (.t 7), none, false, []⟩,
⟨some 45, .iaddr 1 (.t 43) (.t 44), none, false, []⟩,
⟨some 46, .load 1 false (.t 45), none, false, []⟩,
⟨some 47, .iaddr 1 (.t 33) (.t 34), none, false, []⟩,
⟨none, .store 1 (.t 47) (.t 42), none, false, []⟩,
⟨some 48, .iaddr 1 (.t 35) (.t 37), none, false, []⟩,
⟨none, .store 1 (.t 48) (.t 46), none, false, []⟩])) (.region false [
⟨some 31, .mv (.t 7), none, false, []⟩,
⟨some 32, .bin .sub (.t 31) (.c (.int .i64 1)), none, false, []⟩,
⟨some 7, .mv (.t 32), none, false, []⟩])))
def a150l0 : ACode := .loop [0, 1, 2, 6, 7] [0, 1, 2, 6] a150l0b
def a150l1b : ACode := (.seq (.seq (.region false [
⟨some 10, .mv (.t 6), none, false, []⟩,
⟨some 11, .mv (.t 2), none, false, []⟩,
⟨some 12, .bin .lss (.t 10) (.t 11), none, false, []⟩]) (.cond (.t 12) .skip (.exit 0))) (.seq (.block 1 (.seq (.region false [
⟨some 15, .mv (.t 6), none, false, []⟩,
⟨some 7, .mv (.t 15), none, false, []⟩]) (.block 2 a150l0))) (.region false [
⟨some 13, .mv (.t 6), none, false, []⟩,
⟨some 14, .bin .add (.t 13) (.c (.int .i64 1)), none, false, []⟩,
⟨some 6, .mv (.t 14), none, false, []⟩])))
def a150l1 : ACode := .loop [0, 1, 2, 6] [] a150l1b
def a150 : AFunc := ⟨49, [], (.seq (.region false [
⟨some 8, .mv (.t 1), none, false, []⟩,
⟨some 9, .bin .add (.t 8) (.c (.int .i64 1)), none, false, []⟩,
⟨some 6, .mv (.t 9), none, false, []⟩]) (.block 0 a150l1))⟩
def a151l0b : ACode := (.seq (.seq (.region false [
⟨some 18, .mv (.t 9), none, false, []⟩,
⟨some 19, .bin .geq (.t 18) (.c (.int .i64 0)), none, false, []⟩]) (.cond (.t 19) .skip (.exit 0))) (.seq (.block 1 (.region false [
⟨some 22, .mv (.t 0), none, false, []⟩,
⟨some 23, .mv (.t 9), none, false, []⟩,
⟨some 24, .mv (.t 8), none, false, []⟩,
⟨some 25, .mv (.t 6), none, false, []⟩,
⟨some 26, .call 163 [(.t 22), (.t 23), (.t 24), (.t 25)], none, false, []⟩])) (.region false [
⟨some 20, .mv (.t 9), none, false, []⟩,
⟨some 21, .bin .sub (.t 20) (.c (.int .i64 1)), none, false, []⟩,
⟨some 9, .mv (.t 21), none, false, []⟩])))
def a151l0 : ACode := .loop [0, 6, 7, 8, 9] [0, 6, 7, 8] a151l0b
def a151l1b : ACode := (.seq (.seq (.region false [
⟨some 29, .mv (.t 10), none, false, []⟩,
⟨some 30, .bin .geq (.t 29) (.c (.int .i64 0)), none, false, []⟩]) (.cond (.t 30) .skip (.exit 2))) (.seq (.block 3 (.seq (.region true [
⟨some 33, .mv (.t 0), none, false, []⟩,
⟨some 34, .mv (.t 6), none, false, []⟩,
⟨some 35, .mv (.t 0), none, false, []⟩,
⟨some 36, .mv (.t 6), none, false, []⟩,
⟨some 37, .mv (.t 10), none, false, []⟩,
⟨some 38, .bin .add (.t 36) (.t 37), none, false, []⟩,
⟨some 39, .mv (.t 0), none, false, []⟩,
⟨some 40, .mv (.t 6), none, false, []⟩,
⟨some 41, .mv (.t 10), none, false, []⟩,
⟨some 42, .bin .add (.t 40) (.t 41), none, false, []⟩,
⟨some 43, .iaddr 1 (.t 39) (.t 42), none, false, []⟩,
⟨some 44, .load 1 false (.t 43), none, false, []⟩,
⟨some 45, .mv (.t 0), none, false, []⟩,
⟨some 46, .mv (.t 6), none, false, []⟩,
⟨some 47, .iaddr 1 (.t 45) (.t 46), none, false, []⟩,
⟨some 48, .load 1 false (.t 47), none, false, []⟩,
⟨some 49, .iaddr 1 (.t 33) (.t 34), none, false, []⟩,
⟨none, .store 1 (.t 49) (.t 44), none, false, []⟩,
⟨some 50, .iaddr 1 (.t 35) (.t 38), none, false, []⟩,
⟨none, .store 1 (.t 50) (.t 48), none, false, []⟩]) (.region false [
⟨some 51, .mv (.t 0), none, false, []⟩,
⟨some 52, .mv (.t 7), none, false, []⟩,
⟨some 53, .mv (.t 10), none, false, []⟩,
⟨some 54, .mv (.t 6), none, false, []⟩,
⟨some 55, .call 163 [(.t 51), (.t 52), (.t 53), (.t 54)], none, false, []⟩]))) (.region false [
⟨some 31, .mv (.t 10), none, false, []⟩,
⟨some 32, .bin .sub (.t 31) (.c (.int .i64 1)), none, false, []⟩,
⟨some 10, .mv (.t 32), none, false, []⟩])))
def a151l1 : ACode := .loop [0, 6, 7, 10] [] a151l1b
def a151 : AFunc := ⟨56, [], (.seq (.region false [
⟨some 11, .mv (.t 1), none, false, []⟩,
⟨some 6, .mv (.t 11), none, false, []⟩]) (.seq (.region false [
⟨some 7, .mv (.c (.int .i64 0)), none, false, []⟩]) (.seq (.region false [
⟨some 12, .mv (.t 2), none, false, []⟩,
⟨some 13, .mv (.t 1), none, false, []⟩,
⟨some 14, .bin .sub (.t 12) (.t 13), none, false, []⟩,
⟨some 8, .mv (.t 14), none, false, []⟩]) (.seq (.seq (.region false [
⟨some 15, .mv (.t 8), none, false, []⟩,
⟨some 16, .bin .sub (.t 15) (.c (.int .i64 1)), none, false, []⟩,
⟨some 17, .bin .quo (.t 16) (.c (.int .i64 2)), none, false, []⟩,
⟨some 9, .mv (.t 17), none, false, []⟩]) (.block 0 a151l0)) (.seq (.region false [
⟨some 27, .mv (.t 8), none, false, []⟩,
⟨some 28, .bin .sub (.t 27) (.c (.int .i64 1)), none, false, []⟩,
⟨some 10, .mv (.t 28), none, false, []⟩]) (.block 2 a151l1))))))⟩
def a152l0b : ACode := (.seq (.seq (.region false [
⟨some 26, .mv (.t 9), none, false, []⟩,
⟨some 27, .mv (.t 1), none, false, []⟩,
⟨some 28, .mv (.t 6), none, false, []⟩,
⟨some 29, .bin .quo (.t 28) (.c (.int .i64 4)), none, false, []⟩,
⟨some 30, .bin .mul (.t 29) (.c (.int .i64 2)), none, false, []⟩,
⟨some 31, .bin .add (.t 27) (.t 30), none, false, []⟩,
⟨some 32, .bin .add (.t 31) (.c (.int .i64 1)), none, false, []⟩,
⟨some 33, .bin .leq (.t 26) (.t 32), none, false, []⟩]) (.cond (.t 33) .skip (.exit 0))) (.seq (.block 1 (.seq (.region false [
⟨some 36, .call 165 [(.t 7)], none, false, []⟩,
⟨some 37, .mv (.t 8), none, false, []⟩,
⟨some 38, .bin .sub (.t 37) (.c (.int .u64 1)), none, false, []⟩,
⟨some 39, .bin .and (.t 36) (.t 38), none, false, []⟩,
⟨some 40, .conv .i64 (.t 39), none, false, []⟩,
⟨some 10, .mv (.t 40), none, false, []⟩]) (.seq (.seq (.region false [
⟨some 41, .mv (.t 10), none, false, []⟩,
⟨some 42, .mv (.t 6), none, false, []⟩,
⟨some 43, .bin .geq (.t 41) (.t 42), none, false, []⟩]) (.cond (.t 43) (.region false [
⟨some 44, .mv (.t 10), none, false, []⟩,
⟨some 45, .mv (.t 6), none, false, []⟩,
⟨some 46, .bin .sub (.t 44) (.t 45), none, false, []⟩,
⟨some 10, .mv (.t 46), none, false, []⟩]) .skip)) (.region true [
⟨some 47, .mv (.t 0), none, false, []⟩,
⟨some 48, .mv (.t 9), none, false, []⟩,
⟨some 49, .mv (.t 0), none, false, []⟩,
⟨some 50, .mv (.t 1), none, false, []⟩,
⟨some 51, .mv (.t 10), none, false, []⟩,
⟨some 52, .bin .add (.t 50) (.t 51), none, false, []⟩,
⟨some 53, .mv (.t 0), none, false, []⟩,
⟨some 54, .mv (.t 1), none, false, []⟩,
⟨some 55, .mv (.t 10), none, false, []⟩,
⟨some 56, .bin .add (.t 54) (.t 55), none, false, []⟩,
⟨some 57, .iaddr 1 (.t 53) (.t 56), none, false, []⟩,
⟨some 58, .load 1 false (.t 57), none, false, []⟩,
⟨some 59, .mv (.t 0), none, false, []⟩,
⟨some 60, .mv (.t 9), none, false, []⟩,
⟨some 61, .iaddr 1 (.t 59) (.t 60), none, false, []⟩,
⟨some 62, .load 1 false (.t 61), none, false, []⟩,
⟨some 63, .iaddr 1 (.t 47) (.t 48), none, false, []⟩,
⟨none, .store 1 (.t 63) (.t 58), none, false, []⟩,
⟨some 64, .iaddr 1 (.t 49) (.t 52), none, false, []⟩,
⟨none, .store 1 (.t 64) (.t 62), none, false, []⟩])))) (.region false [
⟨some 34, .mv (.t 9), none, false, []⟩,
⟨some 35, .bin .add (.t 34) (.c (.int .i64 1)), none, false, []⟩,
⟨some 9, .mv (.t 35), none, false, []⟩])))
def a152l0 : ACode := .loop [0, 1, 6, 7, 8, 9] [] a152l0b
def a152 : AFunc := ⟨65, [], (.seq (.region false [
⟨some 11, .mv (.t 2), none, false, []⟩,
⟨some 12, .mv (.t 1), none, false, []⟩,
⟨some 13, .bin .sub (.t 11) (.t 12), none, false, []⟩,
⟨some 6, .mv (.t 13), none, false, []⟩]) (.seq (.region false [
⟨some 14, .mv (.t 6), none, false, []⟩,
⟨some 15, .bin .geq (.t 14) (.c (.int .i64 8)), none, false, []⟩]) (.cond (.t 15) (.seq (.region false [
⟨some 16, .mv (.t 6), none, false, []⟩,
⟨some 17, .conv .u64 (.t 16), none, false, []⟩,
⟨some 7, .alloc 205 [.int .u64 0], none, false, []⟩,
⟨none, .store 1 (.t 7) (.t 17), none, false, []⟩]) (.seq (.region false [
⟨some 18, .mv (.t 6), none, false, []⟩,
⟨some 19, .call 164 [(.t 18)], none, false, []⟩,
⟨some 8, .mv (.t 19), none, false, []⟩]) (.seq (.region false [
⟨some 20, .mv (.t 1), none, false, []⟩,
⟨some 21, .mv (.t 6), none, false, []⟩,
⟨some 22, .bin .quo (.t 21) (.c (.int .i64 4)), none, false, []⟩,
⟨some 23, .bin .mul (.t 22) (.c (.int .i64 2)), none, false, []⟩,
⟨some 24, .bin .add (.t 20) (.t 23), none, false, []⟩,
⟨some 25, .bin .sub (.t 24) (.c (.int .i64 1)), none, false, []⟩,
⟨some 9, .mv (.t 25), none, false, []⟩]) (.block 0 a152l0)))) .skip)))⟩
def a153 : AFunc := ⟨57, [.tmp 6, .tmp 7], (.seq (.region false [
⟨some 6, .mv (.c (.int .i64 0)), none, false, []⟩,
⟨some 7, .mv (.c (.int .i64 0)), none, false, []⟩]) (.seq (.region false [
⟨some 13, .mv (.t 2), none, false, []⟩,
⟨some 14, .mv (.t 1), none, false, []⟩,
⟨some 15, .bin .sub (.t 13) (.t 14), none, false, []⟩,
⟨some 8, .mv (.t 15), none, false, []⟩]) (.seq (.region false [
⟨some 9, .alloc 3 [.int .i64 0], none, false, []⟩]) (.seq (.region false [
⟨some 16, .mv (.t 1), none, false, []⟩,
⟨some 17, .mv (.t 8), none, false, []⟩,
⟨some 18, .bin .quo (.t 17) (.c (.int .i64 4)), none, false, []⟩,
⟨some 19, .bin .mul (.t 18) (.c (.int .i64 1)), none, false, []⟩,
⟨some 20, .bin .add (.t 16) (.t 19), none, false, []⟩,
⟨some 10, .mv (.t 20), none, false, []⟩]) (.seq (.region false [
⟨some 21, .mv (.t 1), none, false, []⟩,
⟨some 22, .mv (.t 8), none, false, []⟩,
⟨some 23, .bin .quo (.t 22) (.c (.int .i64 4)), none, false, []⟩,
⟨some 24, .bin .mul (.t 23) (.c (.int .i64 2)), none, false, []⟩,
⟨some 25, .bin .add (.t 21) (.t 24), none, false, []⟩,
⟨some 11, .mv (.t 25), none, false, []⟩]) (.seq (.region false [
⟨some 26, .mv (.t 1), none, false, []⟩,
⟨some 27, .mv (.t 8), none, false, []⟩,
⟨some 28, .bin .quo (.t 27) (.c (.int .i64 4)), none, false, []⟩,
⟨some 29, .bin .mul (.t 28) (.c (.int .i64 3)), none, false, []⟩,
⟨some 30, .bin .add (.t 26) (.t 29), none, false, []⟩,
⟨some 12, .mv (.t 30), none, false, []⟩]) (.seq (.seq (.region false [
⟨some 31, .mv (.t 8), none, false, []⟩,
⟨some 32, .bin .geq (.t 31) (.c (.int .i64 8)), none, false, []⟩]) (.cond (.t 32) (.seq (.seq (.region false [
⟨some 33, .mv (.t 8), none, false, []⟩,
⟨some 34, .bin .geq (.t 33) (.c (.int .i64 50)), none, false, []⟩]) (.cond (.t 34) (.seq (.region false [
⟨some 35, .mv (.t 0), none, false, []⟩,
⟨some 36, .mv (.t 10), none, false, []⟩,
⟨some 37, .call 166 [(.t 35), (.t 36), (.t 9)], none, false, []⟩,
⟨some 10, .mv (.t 37), none, false, []⟩]) (.seq (.region false [
⟨some 38, .mv (.t 0), none, false, []⟩,
⟨some 39, .mv (.t 11), none, false, []⟩,
⟨some 40, .call 166 [(.t 38), (.t 39), (.t 9)], none, false, []⟩,
⟨some 11, .mv (.t 40), none, false, []⟩]) (.region false [
⟨some 41, .mv (.t 0), none, false, []⟩,
⟨some 42, .mv (.t 12), none, false, []⟩,
⟨some 43, .call 166 [(.t 41), (.t 42), (.t 9)], none, false, []⟩,
⟨some 12, .mv (.t 43), none, false, []⟩]))) .skip)) (.region false [
⟨some 44, .mv (.t 0), none, false, []⟩,
⟨some 45, .mv (.t 10), none, false, []⟩,
⟨some 46, .mv (.t 11), none, false, []⟩,
⟨some 47, .mv (.t 12), none, false, []⟩,
⟨some 48, .call 167 [(.t 44), (.t 45), (.t 46), (.t 47), (.t 9)], none, false, []⟩,
⟨some 11, .mv (.t 48), none, false, []⟩])) .skip)) (.seq (.region false [
⟨some 49, .load 1 false (.t 9), none, false, []⟩]) (.block 0 (.seq (.region false [
⟨some 52, .bin .eql (.t 49) (.c (.int .i64 0)), none, false, []⟩,
⟨some 51, .mv (.t 52), none, false, []⟩]) (.cond (.t 51) (.seq (.region false [
⟨some 53, .mv (.t 11), none, false, []⟩,
⟨some 6, .mv (.t 53), none, false, []⟩,
⟨some 7, .mv (.c (.int .i64 1)), none, false, []⟩]) .ret) (.seq (.region false [
⟨some 55, .bin .eql (.t 49) (.c (.int .i64 12)), none, false, []⟩,
⟨some 54, .mv (.t 55), none, false, []⟩]) (.cond (.t 54) (.seq (.region false [
⟨some 56, .mv (.t 11), none, false, []⟩,
⟨some 6, .mv (.t 56), none, false, []⟩,
⟨some 7, .mv (.c (.int .i64 2)), none, false, []⟩]) .ret) (.seq (.region false [
⟨some 50, .mv (.t 11), none, false, []⟩,
⟨some 6, .mv (.t 50), none, false, []⟩,
⟨some 7, .mv (.c (.int .i64 0)), none, false, []⟩]) .ret))))))))))))))⟩
def a154l0b : ACode := (.seq (.seq (.region false [
⟨some 11, .mv (.t 6), none, false, []⟩,
⟨some 12, .mv (.t 7), none, false, []⟩,
⟨some 13, .bin .lss (.t 11) (.t 12), none, false, []⟩]) (.cond (.t 13) .skip (.exit 0))) (.block 1 (.seq (.region true [
⟨some 14, .mv (.t 0), none, false, []⟩,
⟨some 15, .mv (.t 6), none, false, []⟩,
⟨some 16, .mv (.t 0), none, false, []⟩,
⟨some 17, .mv (.t 7), none, false, []⟩,
⟨some 18, .mv (.t 0), none, false, []⟩,
⟨some 19, .mv (.t 7), none, false, []⟩,
⟨some 20, .iaddr 1 (.t 18) (.t 19), none, false, []⟩,
⟨some 21, .load 1 false (.t 20), none, false, []⟩,
⟨some 22, .mv (.t 0), none, false, []⟩,
⟨some 23, .mv (.t 6), none, false, []⟩,
⟨some 24, .iaddr 1 (.t 22) (.t 23), none, false, []⟩,
⟨some 25, .load 1 false (.t 24), none, false, []⟩,
⟨some 26, .iaddr 1 (.t 14) (.t 15), none, false, []⟩,
⟨none, .store 1 (.t 26) (.t 21), none, false, []⟩,
⟨some 27, .iaddr 1 (.t 16) (.t 17), none, false, []⟩,
⟨none, .store 1 (.t 27) (.t 25), none, false, []⟩]) (.seq (.region false [
⟨some 28, .mv (.t 6), none, false, []⟩,
⟨some 29, .bin .add (.t 28) (.c (.int .i64 1)), none, false, []⟩,
⟨some 6, .mv (.t 29), none, false, []⟩]) (.region false [
⟨some 30, .mv (.t 7), none, false, []⟩,
⟨some 31, .bin .sub (.t 30) (.c (.int .i64 1)), none, false, []⟩,
⟨some 7, .mv (.t 31), none, false, []⟩])))))
def a154l0 : ACode := .loop [0, 6, 7] [] a154l0b
def a154 : AFunc := ⟨32, [], (.seq (.region false [
⟨some 8, .mv (.t 1), none, false, []⟩,
⟨some 6, .mv (.t 8), none, false, []⟩]) (.seq (.region false [
⟨some 9, .mv (.t 2), none, false, []⟩,
⟨some 10, .bin .sub (.t 9) (.c (.int .i64 1)), none, false, []⟩,
⟨some 7, .mv (.t 10), none, false, []⟩]) (.block 0 a154l0)))⟩
def a155l0b : ACode := (.seq (.seq (.region true [
⟨some 17, .mv (.t 7), none, false, []⟩,
⟨some 18, .mv (.t 2), none, false, []⟩,
⟨some 19, .bin .lss (.t 17) (.t 18), none, false, []⟩,
⟨some 20, .mv (.t 19), none, false, []⟩,
⟨some 21, .mv (.t 0), some (20, true), false, []⟩,
⟨some 22, .mv (.t 7), some (20, true), false, []⟩,
⟨some 23, .iaddr 1 (.t 21) (.t 22), some (20, true), false, []⟩,
⟨some 24, .load 1 false (.t 23), some (20, true), false, []⟩,
⟨some 25, .mv (.t 0), some (20, true), false, []⟩,
⟨some 26, .mv (.t 7), some (20, true), false, []⟩,
⟨some 27, .bin .sub (.t 26) (.c (.int .i64 1)), some (20, true), false, []⟩,
⟨some 28, .iaddr 1 (.t 25) (.t 27), some (20, true), false, []⟩,
⟨some 29, .load 1 false (.t 28), some (20, true), false, []⟩,
⟨some 30, .call 156 [(.t 24), (.t 29)], some (20, true), false, []⟩,
⟨some 31, .un .not (.t 30), some (20, true), false, []⟩,
⟨some 32, .pick (.t 20) (.t 31) (.c (.bool false)), none, false, []⟩]) (.cond (.t 32) .skip (.exit 2))) (.block 3 (.region false [
⟨some 33, .mv (.t 7), none, false, []⟩,
⟨some 34, .bin .add (.t 33) (.c (.int .i64 1)), none, false, []⟩,
⟨some 7, .mv (.t 34), none, false, []⟩])))
def a155l0 : ACode := .loop [0, 1, 2, 7, 8] [0, 1, 2, 6, 7, 8] a155l0b
def a155l1b : ACode := (.seq (.seq (.region false [
⟨some 64, .mv (.t 9), none, false, []⟩,
⟨some 65, .bin .geq (.t 64) (.c (.int .i64 1)), none, false, []⟩]) (.cond (.t 65) .skip (.exit 4))) (.seq (.block 5 (.seq (.seq (.region true [
⟨some 68, .mv (.t 0), none, false, []⟩,
⟨some 69, .mv (.t 9), none, false, []⟩,
⟨some 70, .iaddr 1 (.t 68) (.t 69), none, false, []⟩,
⟨some 71, .load 1 false (.t 70), none, false, []⟩,
⟨some 72, .mv (.t 0), none, false, []⟩,
⟨some 73, .mv (.t 9), none, false, []⟩,
⟨some 74, .bin .sub (.t 73) (.c (.int .i64 1)), none, false, []⟩,
⟨some 75, .iaddr 1 (.t 72) (.t 74), none, false, []⟩,
⟨some 76, .load 1 false (.t 75), none, false, []⟩,
⟨some 77, .call 156 [(.t 71), (.t 76)], none, false, []⟩,
⟨some 78, .un .not (.t 77), none, false, []⟩]) (.cond (.t 78) (.exit 4) .skip)) (.region true [
⟨some 79, .mv (.t 0), none, false, []⟩,
⟨some 80, .mv (.t 9), none, false, []⟩,
⟨some 81, .mv (.t 0), none, false, []⟩,
⟨some 82, .mv (.t 9), none, false, []⟩,
⟨some 83, .bin .sub (.t 82) (.c (.int .i64 1)), none, false, []⟩,
⟨some 84, .mv (.t 0), none, false, []⟩,
⟨some 85, .mv (.t 9), none, false, []⟩,
⟨some 86, .bin .sub (.t 85) (.c (.int .i64 1)), none, false, []⟩,
⟨some 87, .iaddr 1 (.t 84) (.t 86), none, false, []⟩,
⟨some 88, .load 1 false (.t 87), none, false, []⟩,
⟨some 89, .mv (.t 0), none, false, []⟩,
⟨some 90, .mv (.t 9), none, false, []⟩,
⟨some 91, .iaddr 1 (.t 89) (.t 90), none, false, []⟩,
⟨some 92, .load 1 false (.t 91), none, false, []⟩,
⟨some 93, .iaddr 1 (.t 79) (.t 80), none, false, []⟩,
⟨none, .store 1 (.t 93) (.t 88), none, false, []⟩,
⟨some 94, .iaddr 1 (.t 81) (.t 83), none, false, []⟩,
⟨none, .store 1 (.t 94) (.t 92), none, false, []⟩]))) (.region false [
⟨some 66, .mv (.t 9), none, false, []⟩,
⟨some 67, .bin .sub (.t 66) (.c (.int .i64 1)), none, false, []⟩,
⟨some 9, .mv (.t 67), none, false, []⟩])))
def a155l1 : ACode := .loop [0, 1, 2, 7, 8, 9] [0, 1, 2, 6, 7, 8] a155l1b
def a155l2b : ACode := (.seq (.seq (.region false [
⟨some 101, .mv (.t 10), none, false, []⟩,
⟨some 102, .mv (.t 2), none, false, []⟩,
⟨some 103, .bin .lss (.t 101) (.t 102), none, false, []⟩]) (.cond (.t 103) .skip (.exit 6))) (.seq (.block 7 (.seq (.seq (.region true [
⟨some 106, .mv (.t 0), none, false, []⟩,
⟨some 107, .mv (.t 10), none, false, []⟩,
⟨some 108, .iaddr 1 (.t 106) (.t 107), none, false, []⟩,
⟨some 109, .load 1 false (.t 108), none, false, []⟩,
⟨some 110, .mv (.t 0), none, false, []⟩,
⟨some 111, .mv (.t 10), none, false, []⟩,
⟨some 112, .bin .sub (.t 111) (.c (.int .i64 1)), none, false, []⟩,
⟨some 113, .iaddr 1 (.t 110) (.t 112), none, false, []⟩,
⟨some 114, .load 1 false (.t 113), none, false, []⟩,
⟨some 115, .call 156 [(.t 109), (.t 114)], none, false, []⟩,
⟨some 116, .un .not (.t 115), none, false, []⟩]) (.cond (.t 116) (.exit 6) .skip)) (.region true [
⟨some 117, .mv (.t 0), none, false, []⟩,
⟨some 118, .mv (.t 10), none, false, []⟩,
⟨some 119, .mv (.t 0), none, false, []⟩,
⟨some 120, .mv (.t 10), none, false, []⟩,
⟨some 121, .bin .sub (.t 120) (.c (.int .i64 1)), none, false, []⟩,
⟨some 122, .mv (.t 0), none, false, []⟩,
⟨some 123, .mv (.t 10), none, false, []⟩,
⟨some 124, .bin .sub (.t 123) (.c (.int .i64 1)), none, false, []⟩,
⟨some 125, .iaddr 1 (.t 122) (.t 124), none, false, []⟩,
⟨some 126, .load 1 false (.t 125), none, false, []⟩,
⟨some 127, .mv (.t 0), none, false, []⟩,
⟨some 128, .mv (.t 10), none, false, []⟩,
⟨some 129, .iaddr 1 (.t 127) (.t 128), none, false, []⟩,
⟨some 130, .load 1 false (.t 129), none, false, []⟩,
⟨some 131, .iaddr 1 (.t 117) (.t 118), none, false, []⟩,
⟨none, .store 1 (.t 131) (.t 126), none, false, []⟩,
⟨some 132, .iaddr 1 (.t 119) (.t 121), none, false, []⟩,
⟨none, .store 1 (.t 132) (.t 130), none, false, []⟩]))) (.region false [
⟨some 104, .mv (.t 10), none, false, []⟩,
⟨some 105, .bin .add (.t 104) (.c (.int .i64 1)), none, false, []⟩,
⟨some 10, .mv (.t 105), none, false, []⟩])))
def a155l2 : ACode := .loop [0, 1, 2, 7, 8, 10] [0, 1, 2, 6, 7, 8] a155l2b
def a155l3b : ACode := (.seq (.seq (.region false [
⟨some 13, .mv (.t 8), none, false, []⟩,
⟨some 14, .bin .lss (.t 13) (.c (.int .i64 5)), none, false, []⟩]) (.cond (.t 14) .skip (.exit 0))) (.seq (.block 1 (.seq (.block 2 a155l0) (.seq (.seq (.region false [
⟨some 35, .mv (.t 7), none, false, []⟩,
⟨some 36, .mv (.t 2), none, false, []⟩,
⟨some 37, .bin .eql (.t 35) (.t 36), none, false, []⟩]) (.cond (.t 37) (.seq (.region false [
⟨some 6, .mv (.c (.bool true)), none, false, []⟩]) .ret) .skip)) (.seq (.seq (.region false [
⟨some 38, .mv (.t 2), none, false, []⟩,
⟨some 39, .mv (.t 1), none, false, []⟩,
⟨some 40, .bin .sub (.t 38) (.t 39), none, false, []⟩,
⟨some 41, .bin .lss (.t 40) (.c (.int .i64 50)), none, false, []⟩]) (.cond (.t 41) (.seq (.region false [
⟨some 6, .mv (.c (.bool false)), none, false, []⟩]) .ret) .skip)) (.seq (.region true [
⟨some 42, .mv (.t 0), none, false, []⟩,
⟨some 43, .mv (.t 7), none, false, []⟩,
⟨some 44, .mv (.t 0), none, false, []⟩,
⟨some 45, .mv (.t 7), none, false, []⟩,
⟨some 46, .bin .sub (.t 45) (.c (.int .i64 1)), none, false, []⟩,
⟨some 47, .mv (.t 0), none, false, []⟩,
⟨some 48, .mv (.t 7), none, false, []⟩,
⟨some 49, .bin .sub (.t 48) (.c (.int .i64 1)), none, false, []⟩,
⟨some 50, .iaddr 1 (.t 47) (.t 49), none, false, []⟩,
⟨some 51, .load 1 false (.t 50), none, false, []⟩,
⟨some 52, .mv (.t 0), none, false, []⟩,
⟨some 53, .mv (.t 7), none, false, []⟩,
⟨some 54, .iaddr 1 (.t 52) (.t 53), none, false, []⟩,
⟨some 55, .load 1 false (.t 54), none, false, []⟩,
⟨some 56, .iaddr 1 (.t 42) (.t 43), none, false, []⟩,
⟨none, .store 1 (.t 56) (.t 51), none, false, []⟩,
⟨some 57, .iaddr 1 (.t 44) (.t 46), none, false, []⟩,
⟨none, .store 1 (.t 57) (.t 55), none, false, []⟩]) (.seq (.seq (.region false [
⟨some 58, .mv (.t 7), none, false, []⟩,
⟨some 59, .mv (.t 1), none, false, []⟩,
⟨some 60, .bin .sub (.t 58) (.t 59), none, false, []⟩,
⟨some 61, .bin .geq (.t 60) (.c (.int .i64 2)), none, false, []⟩]) (.cond (.t 61) (.seq (.region false [
⟨some 62, .mv (.t 7), none, false, []⟩,
⟨some 63, .bin .sub (.t 62) (.c (.int .i64 1)), none, false, []⟩,
⟨some 9, .mv (.t 63), none, false, []⟩]) (.block 4 a155l1)) .skip)) (.seq (.region false [
⟨some 95, .mv (.t 2), none, false, []⟩,
⟨some 96, .mv (.t 7), none, false, []⟩,
⟨some 97, .bin .sub (.t 95) (.t 96), none, false, []⟩,
⟨some 98, .bin .geq (.t 97) (.c (.int .i64 2)), none, false, []⟩]) (.cond (.t 98) (.seq (.region false [
⟨some 99, .mv (.t 7), none, false, []⟩,
⟨some 100, .bin .add (.t 99) (.c (.int .i64 1)), none, false, []⟩,
⟨some 10, .mv (.t 100), none, false, []⟩]) (.block 6 a155l2)) .skip)))))))) (.region false [
⟨some 15, .mv (.t 8), none, false, []⟩,
⟨some 16, .bin .add (.t 15) (.c (.int .i64 1)), none, false, []⟩,
⟨some 8, .mv (.t 16), none, false, []⟩])))
def a155l3 : ACode := .loop [0, 1, 2, 7, 8] [6] a155l3b
def a155 : AFunc := ⟨133, [.tmp 6], (.seq (.region false [
⟨some 6, .mv (.c (.bool false)), none, false, []⟩]) (.seq (.region false [
⟨some 11, .mv (.t 1), none, false, []⟩,
⟨some 12, .bin .add (.t 11) (.c (.int .i64 1)), none, false, []⟩,
⟨some 7, .mv (.t 12), none, false, []⟩]) (.seq (.seq (.region false [
⟨some 8, .mv (.c (.int .i64 0)), none, false, []⟩]) (.block 0 a155l3)) (.seq (.region false [
⟨some 6, .mv (.c (.bool false)), none, false, []⟩]) .ret))))⟩
def a156 : AFunc := ⟨17, [.tmp 4], (.seq (.region false [
⟨some 4, .mv (.c (.bool false)), none, false, []⟩]) (.seq (.region false [
⟨some 5, .mv (.t 0), none, false, []⟩,
⟨some 6, .call 147 [(.t 5)], none, false, []⟩,
⟨some 7, .mv (.t 6), none, false, []⟩,
⟨some 8, .mv (.t 1), some (7, true), false, []⟩,
⟨some 9, .call 147 [(.t 8)], some (7, true), false, []⟩,
⟨some 10, .un .not (.t 9), some (7, true), false, []⟩,
⟨some 11, .pick (.t 7) (.t 10) (.c (.bool false)), none, false, []⟩,
⟨some 12, .mv (.t 11), none, false, []⟩,
⟨some 13, .mv (.t 0), some (12, false), false, []⟩,
⟨some 14, .mv (.t 1), some (12, false), false, []⟩,
⟨some 15, .bin .lss (.t 13) (.t 14), some (12, false), false, []⟩,
⟨some 16, .pick (.t 12) (.c (.bool true)) (.t 15), none, false, []⟩,
⟨some 4, .mv (.t 16), none, false, []⟩]) .ret))⟩
def a157l0b : ACode := (.seq (.seq (.region true [
⟨some 29, .mv (.t 9), none, false, []⟩,
⟨some 30, .mv (.t 10), none, false, []⟩,
⟨some 31, .bin .leq (.t 29) (.t 30), none, false, []⟩,
⟨some 32, .mv (.t 31), none, false, []⟩,
⟨some 33, .mv (.t 0), some (32, true), false, []⟩,
⟨some 34, .mv (.t 1), some (32, true), false, []⟩,
⟨some 35, .iaddr 1 (.t 33) (.t 34), some (32, true), false, []⟩,
⟨some 36, .load 1 false (.t 35), some (32, true), false, []⟩,
⟨some 37, .mv (.t 0), some (32, true), false, []⟩,
⟨some 38, .mv (.t 9), some (32, true), false, []⟩,
⟨some 39, .iaddr 1 (.t 37) (.t 38), some (32, true), false, []⟩,
⟨some 40, .load 1 false (.t 39), some (32, true), false, []⟩,
⟨some 41, .call 156 [(.t 36), (.t 40)], some (32, true), false, []⟩,
⟨some 42, .un .not (.t 41), some (32, true), false, []⟩,
⟨some 43, .pick (.t 32) (.t 42) (.c (.bool false)), none, false, []⟩]) (.cond (.t 43) .skip (.exit 2))) (.block 3 (.region false [
⟨some 44, .mv (.t 9), none, false, []⟩,
⟨some 45, .bin .add (.t 44) (.c (.int .i64 1)), none, false, []⟩,
⟨some 9, .mv (.t 45), none, false, []⟩])))
def a157l0 : ACode := .loop [0, 1, 9, 10] [0, 1, 8, 9, 10] a157l0b
def a157l1b : ACode := (.seq (.seq (.region true [
⟨some 46, .mv (.t 9), none, false, []⟩,
⟨some 47, .mv (.t 10), none, false, []⟩,
⟨some 48, .bin .leq (.t 46) (.t 47), none, false, []⟩,
⟨some 49, .mv (.t 48), none, false, []⟩,
⟨some 50, .mv (.t 0), some (49, true), false, []⟩,
⟨some 51, .mv (.t 1), some (49, true), false, []⟩,
⟨some 52, .iaddr 1 (.t 50) (.t 51), some (49, true), false, []⟩,
⟨some 53, .load 1 false (.t 52), some (49, true), false, []⟩,
⟨some 54, .mv (.t 0), some (49, true), false, []⟩,
⟨some 55, .mv (.t 10), some (49, true), false, []⟩,
⟨some 56, .iaddr 1 (.t 54) (.t 55), some (49, true), false, []⟩,
⟨some 57, .load 1 false (.t 56), some (49, true), false, []⟩,
⟨some 58, .call 156 [(.t 53), (.t 57)], some (49, true), false, []⟩,
⟨some 59, .pick (.t 49) (.t 58) (.c (.bool false)), none, false, []⟩]) (.cond (.t 59) .skip (.exit 4))) (.block 5 (.region false [
⟨some 60, .mv (.t 10), none, false, []⟩,
⟨some 61, .bin .sub (.t 60) (.c (.int .i64 1)), none, false, []⟩,
⟨some 10, .mv (.t 61), none, false, []⟩])))
def a157l1 : ACode := .loop [0, 1, 9, 10] [0, 1, 8, 9, 10] a157l1b
def a157l2b : ACode := (.block 1 (.seq (.block 2 a157l0) (.seq (.block 4 a157l1) (.seq (.seq (.region false [
⟨some 62, .mv (.t 9), none, false, []⟩,
⟨some 63, .mv (.t 10), none, false, []⟩,
⟨some 64, .bin .gtr (.t 62) (.t 63), none, false, []⟩]) (.cond (.t 64) (.exit 0) .skip)) (.seq (.region true [
⟨some 65, .mv (.t 0), none, false, []⟩,
⟨some 66, .mv (.t 9), none, false, []⟩,
⟨some 67, .mv (.t 0), none, false, []⟩,
⟨some 68, .mv (.t 10), none, false, []⟩,
⟨some 69, .mv (.t 0), none, false, []⟩,
⟨some 70, .mv (.t 10), none, false, []⟩,
⟨some 71, .iaddr 1 (.t 69) (.t 70), none, false, []⟩,
⟨some 72, .load 1 false (.t 71), none, false, []⟩,
⟨some 73, .mv (.t 0), none, false, []⟩,
⟨some 74, .mv (.t 9), none, false, []⟩,
⟨some 75, .iaddr 1 (.t 73) (.t 74), none, false, []⟩,
⟨some 76, .load 1 false (.t 75), none, false, []⟩,
⟨some 77, .iaddr 1 (.t 65) (.t 66), none, false, []⟩,
⟨none, .store 1 (.t 77) (.t 72), none, false, []⟩,
⟨some 78, .iaddr 1 (.t 67) (.t 68), none, false, []⟩,
⟨none, .store 1 (.t 78) (.t 76), none, false, []⟩]) (.seq (.region false [
⟨some 79, .mv (.t 9), none, false, []⟩,
⟨some 80, .bin .add (.t 79) (.c (.int .i64 1)), none, false, []⟩,
⟨some 9, .mv (.t 80), none, false, []⟩]) (.region false [
⟨some 81, .mv (.t 10), none, false, []⟩,
⟨some 82, .bin .sub (.t 81) (.c (.int .i64 1)), none, false, []⟩,
⟨some 10, .mv (.t 82), none, false, []⟩])))))))
def a157l2 : ACode := .loop [0, 1, 9, 10] [8, 9] a157l2b
def a157 : AFunc := ⟨84, [.tmp 8], (.seq (.region false [
⟨some 8, .mv (.c (.int .i64 0)), none, false, []⟩]) (.seq (.region true [
⟨some 11, .mv (.t 0), none, false, []⟩,
⟨some 12, .mv (.t 1), none, false, []⟩,
⟨some 13, .mv (.t 0), none, false, []⟩,
⟨some 14, .mv (.t 3), none, false, []⟩,
⟨some 15, .mv (.t 0), none, false, []⟩,
⟨some 16, .mv (.t 3), none, false, []⟩,
⟨some 17, .iaddr 1 (.t 15) (.t 16), none, false, []⟩,
⟨some 18, .load 1 false (.t 17), none, false, []⟩,
⟨some 19, .mv (.t 0), none, false, []⟩,
⟨some 20, .mv (.t 1), none, false, []⟩,
⟨some 21, .iaddr 1 (.t 19) (.t 20), none, false, []⟩,
⟨some 22, .load 1 false (.t 21), none, false, []⟩,
⟨some 23, .iaddr 1 (.t 11) (.t 12), none, false, []⟩,
⟨none, .store 1 (.t 23) (.t 18), none, false, []⟩,
⟨some 24, .iaddr 1 (.t 13) (.t 14), none, false, []⟩,
⟨none, .store 1 (.t 24) (.t 22), none, false, []⟩]) (.seq (.region false [
⟨some 25, .mv (.t 1), none, false, []⟩,
⟨some 26, .bin .add (.t 25) (.c (.int .i64 1)), none, false, []⟩,
⟨some 27, .mv (.t 2), none, false, []⟩,
⟨some 28, .bin .sub (.t 27) (.c (.int .i64 1)), none, false, []⟩,
⟨some 9, .mv (.t 26), none, false, []⟩,
⟨some 10, .mv (.t 28), none, false, []⟩]) (.seq (.block 0 a157l2) (.seq (.region false [
⟨some 83, .mv (.t 9), none, false, []⟩,
⟨some 8, .mv (.t 83), none, false, []⟩]) .ret)))))⟩
def a158l0b : ACode := (.seq (.seq (.region true [
⟨some 30, .mv (.t 10), none, false, []⟩,
⟨some 31, .mv (.t 11), none, false, []⟩,
⟨some 32, .bin .leq (.t 30) (.t 31), none, false, []⟩,
⟨some 33, .mv (.t 32), none, false, []⟩,
⟨some 34, .mv (.t 0), some (33, true), false, []⟩,
⟨some 35, .mv (.t 10), some (33, true), false, []⟩,
⟨some 36, .iaddr 1 (.t 34) (.t 35), some (33, true), false, []⟩,
⟨some 37, .load 1 false (.t 36), some (33, true), false, []⟩,
⟨some 38, .mv (.t 0), some (33, true), false, []⟩,
⟨some 39, .mv (.t 1), some (33, true), false, []⟩,
⟨some 40, .iaddr 1 (.t 38) (.t 39), some (33, true), false, []⟩,
⟨some 41, .load 1 false (.t 40), some (33, true), false, []⟩,
⟨some 42, .call 156 [(.t 37), (.t 41)], some (33, true), false, []⟩,
⟨some 43, .pick (.t 33) (.t 42) (.c (.bool false)), none, false, []⟩]) (.cond (.t 43) .skip (.exit 0))) (.block 1 (.region false [
⟨some 44, .mv (.t 10), none, false, []⟩,
⟨some 45, .bin .add (.t 44) (.c (.int .i64 1)), none, false, []⟩,
⟨some 10, .mv (.t 45), none, false, []⟩])))
def a158l0 : ACode := .loop [0, 1, 10, 11] [0, 1, 8, 9, 10, 11] a158l0b
def a158l1b : ACode := (.seq (.seq (.region true [
⟨some 46, .mv (.t 10), none, false, []⟩,
⟨some 47, .mv (.t 11), none, false, []⟩,
⟨some 48, .bin .leq (.t 46) (.t 47), none, false, []⟩,
⟨some 49, .mv (.t 48), none, false, []⟩,
⟨some 50, .mv (.t 0), some (49, true), false, []⟩,
⟨some 51, .mv (.t 11), some (49, true), false, []⟩,
⟨some 52, .iaddr 1 (.t 50) (.t 51), some (49, true), false, []⟩,
⟨some 53, .load 1 false (.t 52), some (49, true), false, []⟩,
⟨some 54, .mv (.t 0), some (49, true), false, []⟩,
⟨some 55, .mv (.t 1), some (49, true), false, []⟩,
⟨some 56, .iaddr 1 (.t 54) (.t 55), some (49, true), false, []⟩,
⟨some 57, .load 1 false (.t 56), some (49, true), false, []⟩,
⟨some 58, .call 156 [(.t 53), (.t 57)], some (49, true), false, []⟩,
⟨some 59, .un .not (.t 58), some (49, true), false, []⟩,
⟨some 60, .pick (.t 49) (.t 59) (.c (.bool false)), none, false, []⟩]) (.cond (.t 60) .skip (.exit 2))) (.block 3 (.region false [
⟨some 61, .mv (.t 11), none, false, []⟩,
⟨some 62, .bin .sub (.t 61) (.c (.int .i64 1)), none, false, []⟩,
⟨some 11, .mv (.t 62), none, false, []⟩])))
def a158l1 : ACode := .loop [0, 1, 10, 11] [0, 1, 8, 9, 10, 11] a158l1b
def a158l2b : ACode := (.seq (.seq (.region true [
⟨some 99, .mv (.t 10), none, false, []⟩,
⟨some 100, .mv (.t 11), none, false, []⟩,
⟨some 101, .bin .leq (.t 99) (.t 100), none, false, []⟩,
⟨some 102, .mv (.t 101), none, false, []⟩,
⟨some 103, .mv (.t 0), some (102, true), false, []⟩,
⟨some 104, .mv (.t 10), some (102, true), false, []⟩,
⟨some 105, .iaddr 1 (.t 103) (.t 104), some (102, true), false, []⟩,
⟨some 106, .load 1 false (.t 105), some (102, true), false, []⟩,
⟨some 107, .mv (.t 0), some (102, true), false, []⟩,
⟨some 108, .mv (.t 1), some (102, true), false, []⟩,
⟨some 109, .iaddr 1 (.t 107) (.t 108), some (102, true), false, []⟩,
⟨some 110, .load 1 false (.t 109), some (102, true), false, []⟩,
⟨some 111, .call 156 [(.t 106), (.t 110)], some (102, true), false, []⟩,
⟨some 112, .pick (.t 102) (.t 111) (.c (.bool false)), none, false, []⟩]) (.cond (.t 112) .skip (.exit 6))) (.block 7 (.region false [
⟨some 113, .mv (.t 10), none, false, []⟩,
⟨some 114, .bin .add (.t 113) (.c (.int .i64 1)), none, false, []⟩,
⟨some 10, .mv (.t 114), none, false, []⟩])))
def a158l2 : ACode := .loop [0, 1, 10, 11] [0, 1, 8, 9, 10, 11] a158l2b
def a158l3b : ACode := (.seq (.seq (.region true [
⟨some 115, .mv (.t 10), none, false, []⟩,
⟨some 116, .mv (.t 11), none, false, []⟩,
⟨some 117, .bin .leq (.t 115) (.t 116), none, false, []⟩,
⟨some 118, .mv (.t 117), none, false, []⟩,
⟨some 119, .mv (.t 0), some (118, true), false, []⟩,
⟨some 120, .mv (.t 11), some (118, true), false, []⟩,
⟨some 121, .iaddr 1 (.t 119) (.t 120), some (118, true), false, []⟩,
⟨some 122, .load 1 false (.t 121), some (118, true), false, []⟩,
⟨some 123, .mv (.t 0), some (118, true), false, []⟩,
⟨some 124, .mv (.t 1), some (118, true), false, []⟩,
⟨some 125, .iaddr 1 (.t 123) (.t 124), some (118, true), false, []⟩,
⟨some 126, .load 1 false (.t 125), some (118, true), false, []⟩,
⟨some 127, .call 156 [(.t 122), (.t 126)], some (118, true), false, []⟩,
⟨some 128, .un .not (.t 127), some (118, true), false, []⟩,
⟨some 129, .pick (.t 118) (.t 128) (.c (.bool false)), none, false, []⟩]) (.cond (.t 129) .skip (.exit 8))) (.block 9 (.region false [
⟨some 130, .mv (.t 11), none, false, []⟩,
⟨some 131, .bin .sub (.t 130) (.c (.int .i64 1)), none, false, []⟩,
⟨some 11, .mv (.t 131), none, false, []⟩])))
def a158l3 : ACode := .loop [0, 1, 10, 11] [0, 1, 8, 9, 10, 11] a158l3b
def a158l4b : ACode := (.block 5 (.seq (.block 6 a158l2) (.seq (.block 8 a158l3) (.seq (.seq (.region false [
⟨some 132, .mv (.t 10), none, false, []⟩,
⟨some 133, .mv (.t 11), none, false, []⟩,
⟨some 134, .bin .gtr (.t 132) (.t 133), none, false, []⟩]) (.cond (.t 134) (.exit 4) .skip)) (.seq (.region true [
⟨some 135, .mv (.t 0), none, false, []⟩,
⟨some 136, .mv (.t 10), none, false, []⟩,
⟨some 137, .mv (.t 0), none, false, []⟩,
⟨some 138, .mv (.t 11), none, false, []⟩,
⟨some 139, .mv (.t 0), none, false, []⟩,
⟨some 140, .mv (.t 11), none, false, []⟩,
⟨some 141, .iaddr 1 (.t 139) (.t 140), none, false, []⟩,
⟨some 142, .load 1 false (.t 141), none, false, []⟩,
⟨some 143, .mv (.t 0), none, false, []⟩,
⟨some 144, .mv (.t 10), none, false, []⟩,
⟨some 145, .iaddr 1 (.t 143) (.t 144), none, false, []⟩,
⟨some 146, .load 1 false (.t 145), none, false, []⟩,
⟨some 147, .iaddr 1 (.t 135) (.t 136), none, false, []⟩,
⟨none, .store 1 (.t 147) (.t 142), none, false, []⟩,
⟨some 148, .iaddr 1 (.t 137) (.t 138), none, false, []⟩,
⟨none, .store 1 (.t 148) (.t 146), none, false, []⟩]) (.seq (.region false [
⟨some 149, .mv (.t 10), none, false, []⟩,
⟨some 150, .bin .add (.t 149) (.c (.int .i64 1)), none, false, []⟩,
⟨some 10, .mv (.t 150), none, false, []⟩]) (.region false [
⟨some 151, .mv (.t 11), none, false, []⟩,
⟨some 152, .bin .sub (.t 151) (.c (.int .i64 1)), none, false, []⟩,
⟨some 11, .mv (.t 152), none, false, []⟩])))))))
def a158l4 : ACode := .loop [0, 1, 10, 11] [0, 1, 8, 9, 11] a158l4b
def a158 : AFunc := ⟨168, [.tmp 8, .tmp 9], (.seq (.region false [
⟨some 8, .mv (.c (.int .i64 0)), none, false, []⟩,
⟨some 9, .mv (.c (.bool false)), none, false, []⟩]) (.seq (.region true [
⟨some 12, .mv (.t 0), none, false, []⟩,
⟨some 13, .mv (.t 1), none, false, []⟩,
⟨some 14, .mv (.t 0), none, false, []⟩,
⟨some 15, .mv (.t 3), none, false, []⟩,
⟨some 16, .mv (.t 0), none, false, []⟩,
⟨some 17, .mv (.t 3), none, false, []⟩,
⟨some 18, .iaddr 1 (.t 16) (.t 17), none, false, []⟩,
⟨some 19, .load 1 false (.t 18), none, false, []⟩,
⟨some 20, .mv (.t 0), none, false, []⟩,
⟨some 21, .mv (.t 1), none, false, []⟩,
⟨some 22, .iaddr 1 (.t 20) (.t 21), none, false, []⟩,
⟨some 23, .load 1 false (.t 22), none, false, []⟩,
⟨some 24, .iaddr 1 (.t 12) (.t 13), none, false, []⟩,
⟨none, .store 1 (.t 24) (.t 19), none, false, []⟩,
⟨some 25, .iaddr 1 (.t 14) (.t 15), none, false, []⟩,
⟨none, .store 1 (.t 25) (.t 23), none, false, []⟩]) (.seq (.region false [
⟨some 26, .mv (.t 1), none, false, []⟩,
⟨some 27, .bin .add (.t 26) (.c (.int .i64 1)), none, false, []⟩,
⟨some 28, .mv (.t 2), none, false, []⟩,
⟨some 29, .bin .sub (.t 28) (.c (.int .i64 1)), none, false, []⟩,
⟨some 10, .mv (.t 27), none, false, []⟩,
⟨some 11, .mv (.t 29), none, false, []⟩]) (.seq (.block 0 a158l0) (.seq (.block 2 a158l1) (.seq (.seq (.region false [
⟨some 63, .mv (.t 10), none, false, []⟩,
⟨some 64, .mv (.t 11), none, false, []⟩,
⟨some 65, .bin .gtr (.t 63) (.t 64), none, false, []⟩]) (.cond (.t 65) (.seq (.region true [
⟨some 66, .mv (.t 0), none, false, []⟩,
⟨some 67, .mv (.t 11), none, false, []⟩,
⟨some 68, .mv (.t 0), none, false, []⟩,
⟨some 69, .mv (.t 1), none, false, []⟩,
⟨some 70, .mv (.t 0), none, false, []⟩,
⟨some 71, .mv (.t 1), none, false, []⟩,
⟨some 72, .iaddr 1 (.t 70) (.t 71), none, false, []⟩,
⟨some 73, .load 1 false (.t 72), none, false, []⟩,
⟨some 74, .mv (.t 0), none, false, []⟩,
⟨some 75, .mv (.t 11), none, false, []⟩,
⟨some 76, .iaddr 1 (.t 74) (.t 75), none, false, []⟩,
⟨some 77, .load 1 false (.t 76), none, false, []⟩,
⟨some 78, .iaddr 1 (.t 66) (.t 67), none, false, []⟩,
⟨none, .store 1 (.t 78) (.t 73), none, false, []⟩,
⟨some 79, .iaddr 1 (.t 68) (.t 69), none, false, []⟩,
⟨none, .store 1 (.t 79) (.t 77), none, false, []⟩]) (.seq (.region false [
⟨some 80, .mv (.t 11), none, false, []⟩,
⟨some 8, .mv (.t 80), none, false, []⟩,
⟨some 9, .mv (.c (.bool true)), none, false, []⟩]) .ret)) .skip)) (.seq (.region true [
⟨some 81, .mv (.t 0), none, false, []⟩,
⟨some 82, .mv (.t 10), none, false, []⟩,
⟨some 83, .mv (.t 0), none, false, []⟩,
⟨some 84, .mv (.t 11), none, false, []⟩,
⟨some 85, .mv (.t 0), none, false, []⟩,
⟨some 86, .mv (.t 11), none, false, []⟩,
⟨some 87, .iaddr 1 (.t 85) (.t 86), none, false, []⟩,
⟨some 88, .load 1 false (.t 87), none, false, []⟩,
⟨some 89, .mv (.t 0), none, false, []⟩,
⟨some 90, .mv (.t 10), none, false, []⟩,
⟨some 91, .iaddr 1 (.t 89) (.t 90), none, false, []⟩,
⟨some 92, .load 1 false (.t 91), none, false, []⟩,
⟨some 93, .iaddr 1 (.t 81) (.t 82), none, false, []⟩,
⟨none, .store 1 (.t 93) (.t 88), none, false, []⟩,
⟨some 94, .iaddr 1 (.t 83) (.t 84), none, false, []⟩,
⟨none, .store 1 (.t 94) (.t 92), none, false, []⟩]) (.seq (.region false [
⟨some 95, .mv (.t 10), none, false, []⟩,
⟨some 96, .bin .add (.t 95) (.c (.int .i64 1)), none, false, []⟩,
⟨some 10, .mv (.t 96), none, false, []⟩]) (.seq (.region false [
⟨some 97, .mv (.t 11), none, false, []⟩,
⟨some 98, .bin .sub (.t 97) (.c (.int .i64 1)), none, false, []⟩,
⟨some 11, .mv (.t 98), none, false, []⟩]) (.seq (.block 4 a158l4) (.seq (.region true [
⟨some 153, .mv (.t 0), none, false, []⟩,
⟨some 154, .mv (.t 11), none, false, []⟩,
⟨some 155, .mv (.t 0), none, false, []⟩,
⟨some 156, .mv (.t 1), none, false, []⟩,
⟨some 157, .mv (.t 0), none, false, []⟩,
⟨some 158, .mv (.t 1), none, false, []⟩,
⟨some 159, .iaddr 1 (.t 157) (.t 158), none, false, []⟩,
⟨some 160, .load 1 false (.t 159), none, false, []⟩,
⟨some 161, .mv (.t 0), none, false, []⟩,
⟨some 162, .mv (.t 11), none, false, []⟩,
⟨some 163, .iaddr 1 (.t 161) (.t 162), none, false, []⟩,
⟨some 164, .load 1 false (.t 163), none, false, []⟩,
⟨some 165, .iaddr 1 (.t 153) (.t 154), none, false, []⟩,
⟨none, .store 1 (.t 165) (.t 160), none, false, []⟩,
⟨some 166, .iaddr 1 (.t 155) (.t 156), none, false, []⟩,
⟨none, .store 1 (.t 166) (.t 164), none, false, []⟩]) (.seq (.region false [
⟨some 167, .mv (.t 11), none, false, []⟩,
⟨some 8, .mv (.t 167), none, false, []⟩,
⟨some 9, .mv (.c (.bool false)), none, false, []⟩]) .ret))))))))))))⟩
def a159 : AFunc := ⟨19, [.tmp 2], (.seq (.region false [
⟨some 2, .mv (.c (.int .i64 0)), none, false, []⟩]) (.seq (.seq (.region false [
⟨some 3, .mv (.t 0), none, false, []⟩,
⟨some 4, .bin .geq (.t 3) (.c (.int .u32 65536)), none, false, []⟩]) (.cond (.t 4) (.seq (.region false [
⟨some 5, .mv (.t 0), none, false, []⟩,
⟨some 6, .bin .shr (.t 5) (.c (.int .u64 16)), none, false, []⟩,
⟨some 0, .mv (.t 6), none, false, []⟩]) (.region false [
⟨some 2, .mv (.c (.int .i64 16)), none, false, []⟩])) .skip)) (.seq (.seq (.region false [
⟨some 7, .mv (.t 0), none, false, []⟩,
⟨some 8, .bin .geq (.t 7) (.c (.int .u32 256)), none, false, []⟩]) (.cond (.t 8) (.seq (.region false [
⟨some 9, .mv (.t 0), none, false, []⟩,
⟨some 10, .bin .shr (.t 9) (.c (.int .u64 8)), none, false, []⟩,
⟨some 0, .mv (.t 10), none, false, []⟩]) (.region false [
⟨some 11, .mv (.t 2), none, false, []⟩,
⟨some 12, .bin .add (.t 11) (.c (.int .i64 8)), none, false, []⟩,
⟨some 2, .mv (.t 12), none, false, []⟩])) .skip)) (.seq (.region false [
⟨some 13, .mv (.t 2), none, false, []⟩,
⟨some 14, .mv (.t 0), none, false, []⟩,
⟨some 15, .conv .u8 (.t 14), none, false, []⟩,
⟨some 16, .sindex (.c (.str ⟨#[0, 1, 2, 2, 3, 3, 3, 3, 4, 4, 4, 4, 4, 4, 4, 4, 5, 5, 5, 5, 5, 5, 5, 5, 5, 5, 5, 5, 5, 5, 5, 5, 6, 6, 6, 6, 6, 6, 6, 6, 6, 6, 6, 6, 6, 6, 6, 6, 6, 6, 6, 6, 6, 6, 6, 6, 6, 6, 6, 6, 6, 6, 6, 6, 7, 7, 7, 7, 7, 7, 7, 7, 7, 7, 7, 7, 7, 7, 7, 7, 7, 7, 7, 7, 7, 7, 7, 7, 7, 7, 7, 7, 7, 7, 7, 7, 7, 7, 7, 7, 7, 7, 7, 7, 7, 7, 7, 7, 7, 7, 7, 7, 7, 7, 7, 7, 7, 7, 7, 7, 7, 7, 7, 7, 7, 7, 7, 7, 8, 8, 8, 8, 8, 8, 8, 8, 8, 8, 8, 8, 8, 8, 8, 8, 8, 8, 8, 8, 8, 8, 8, 8, 8, 8, 8, 8, 8, 8, 8, 8, 8, 8, 8, 8, 8, 8, 8, 8, 8, 8, 8, 8, 8, 8, 8, 8, 8, 8, 8, 8, 8, 8, 8, 8, 8, 8, 8, 8, 8, 8, 8, 8, 8, 8, 8, 8, 8, 8, 8, 8, 8, 8, 8, 8, 8, 8, 8, 8, 8, 8, 8, 8, 8, 8, 8, 8, 8, 8, 8, 8, 8, 8, 8, 8, 8, 8, 8, 8, 8, 8, 8, 8, 8, 8, 8, 8, 8, 8, 8, 8, 8, 8, 8, 8, 8, 8, 8, 8, 8, 8, 8, 8, 8, 8, 8, 8]⟩)) (.t 15), none, false, []⟩,
⟨some 17, .conv .i64 (.t 16), none, false, []⟩,
⟨some 18, .bin .add (.t 13) (.t 17), none, false, []⟩,
⟨some 2, .mv (.t 18), none, false, []⟩]) .ret))))⟩
def a160 : AFunc := ⟨25, [.tmp 2], (.seq (.region false [
⟨some 2, .mv (.c (.int .i64 0)), none, false, []⟩]) (.seq (.seq (.region false [
⟨some 3, .mv (.t 0), none, false, []⟩,
⟨some 4, .bin .geq (.t 3) (.c (.int .u64 4294967296)), none, false, []⟩]) (.cond (.t 4) (.seq (.region false [
⟨some 5, .mv (.t 0), none, false, []⟩,
⟨some 6, .bin .shr (.t 5) (.c (.int .u64 32)), none, false, []⟩,
⟨some 0, .mv (.t 6), none, false, []⟩]) (.region false [
⟨some 2, .mv (.c (.int .i64 32)), none, false, []⟩])) .skip)) (.seq (.seq (.region false [
⟨some 7, .mv (.t 0), none, false, []⟩,
⟨some 8, .bin .geq (.t 7) (.c (.int .u64 65536)), none, false, []⟩]) (.cond (.t 8) (.seq (.region false [
⟨some 9, .mv (.t 0), none, false, []⟩,
⟨some 10, .bin .shr (.t 9) (.c (.int .u64 16)), none, false, []⟩,
⟨some 0, .mv (.t 10), none, false, []⟩]) (.region false [
⟨some 11, .mv (.t 2), none, false, []⟩,
⟨some 12, .bin .add (.t 11) (.c (.int .i64 16)), none, false, []⟩,
⟨some 2, .mv (.t 12), none, false, []⟩])) .skip)) (.seq (.seq (.region false [
⟨some 13, .mv (.t 0), none, false, []⟩,
⟨some 14, .bin .geq (.t 13) (.c (.int .u64 256)), none, false, []⟩]) (.cond (.t 14) (.seq (.region false [
⟨some 15, .mv (.t 0), none, false, []⟩,
⟨some 16, .bin .shr (.t 15) (.c (.int .u64 8)), none, false, []⟩,
⟨some 0, .mv (.t 16), none, false, []⟩]) (.region false [
⟨some 17, .mv (.t 2), none, false, []⟩,
⟨some 18, .bin .add (.t 17) (.c (.int .i64 8)), none, false, []⟩,
⟨some 2, .mv (.t 18), none, false, []⟩])) .skip)) (.seq (.region false [
⟨some 19, .mv (.t 2), none, false, []⟩,
⟨some 20, .mv (.t 0), none, false, []⟩,
⟨some 21, .conv .u8 (.t 20), none, false, []⟩,
⟨some 22, .sindex (.c (.str ⟨#[0, 1, 2, 2, 3, 3, 3, 3, 4, 4, 4, 4, 4, 4, 4, 4, 5, 5, 5, 5, 5, 5, 5, 5, 5, 5, 5, 5, 5, 5, 5, 5, 6, 6, 6, 6, 6, 6, 6, 6, 6, 6, 6, 6, 6, 6, 6, 6, 6, 6, 6, 6, 6, 6, 6, 6, 6, 6, 6, 6, 6, 6, 6, 6, 7, 7, 7, 7, 7, 7, 7, 7, 7, 7, 7, 7, 7, 7, 7, 7, 7, 7, 7, 7, 7, 7, 7, 7, 7, 7, 7, 7, 7, 7, 7, 7, 7, 7, 7, 7, 7, 7, 7, 7, 7, 7, 7, 7, 7, 7, 7, 7, 7, 7, 7, 7, 7, 7, 7, 7, 7, 7, 7, 7, 7, 7, 7, 7, 8, 8, 8, 8, 8, 8, 8, 8, 8, 8, 8, 8, 8, 8, 8, 8, 8, 8, 8, 8, 8, 8, 8, 8, 8, 8, 8, 8, 8, 8, 8, 8, 8, 8, 8, 8, 8, 8, 8, 8, 8, 8, 8, 8, 8, 8, 8, 8, 8, 8, 8, 8, 8, 8, 8, 8, 8, 8, 8, 8, 8, 8, 8, 8, 8, 8, 8, 8, 8, 8, 8, 8, 8, 8, 8, 8, 8, 8, 8, 8, 8, 8, 8, 8, 8, 8, 8, 8, 8, 8, 8, 8, 8, 8, 8, 8, 8, 8, 8, 8, 8, 8, 8, 8, 8, 8, 8, 8, 8, 8, 8, 8, 8, 8, 8, 8, 8, 8, 8, 8, 8, 8, 8, 8, 8, 8, 8, 8]⟩)) (.t 21), none, false, []⟩,
⟨some 23, .conv .i64 (.t 22), none, false, []⟩,
⟨some 24, .bin .add (.t 19) (.t 23), none, false, []⟩,
⟨some 2, .mv (.t 24), none, false, []⟩]) .ret)))))⟩
def a161l0b : ACode := (.seq (.seq (.region true [
⟨some 18, .mv (.t 9), none, false, []⟩,
⟨some 19, .mv (.t 1), none, false, []⟩,
⟨some 20, .bin .gtr (.t 18) (.t 19), none, false, []⟩,
⟨some 21, .mv (.t 20), none, false, []⟩,
⟨some 22, .mv (.t 3), some (21, true), false, []⟩,
⟨some 23, .mv (.t 0), some (21, true), false, []⟩,
⟨some 24, .mv (.t 9), some (21, true), false, []⟩,
⟨some 25, .iaddr 1 (.t 23) (.t 24), some (21, true), false, []⟩,
⟨some 26, .load 1 false (.t 25), some (21, true), false, []⟩,
⟨some 27, .mv (.t 0), some (21, true), false, []⟩,
⟨some 28, .mv (.t 9), some (21, true), false, []⟩,
⟨some 29, .bin .sub (.t 28) (.c (.int .i64 1)), some (21, true), false, []⟩,
⟨some 30, .iaddr 1 (.t 27) (.t 29), some (21, true), false, []⟩,
⟨some 31, .load 1 false (.t 30), some (21, true), false, []⟩,
⟨some 32, .callv (.t 22) [(.t 26), (.t 31)], some (21, true), false, []⟩,
⟨some 33, .bin .lss (.t 32) (.c (.int .i64 0)), some (21, true), false, []⟩,
⟨some 34, .pick (.t 21) (.t 33) (.c (.bool false)), none, false, []⟩]) (.cond (.t 34) .skip (.exit 2))) (.seq (.block 3 (.region true [
⟨some 37, .mv (.t 0), none, false, []⟩,
⟨some 38, .mv (.t 9), none, false, []⟩,
⟨some 39, .mv (.t 0), none, false, []⟩,
⟨some 40, .mv (.t 9), none, false, []⟩,
⟨some 41, .bin .sub (.t 40) (.c (.int .i64 1)), none, false, []⟩,
⟨some 42, .mv (.t 0), none, false, []⟩,
⟨some 43, .mv (.t 9), none, false, []⟩,
⟨some 44, .bin .sub (.t 43) (.c (.int .i64 1)), none, false, []⟩,
⟨some 45, .iaddr 1 (.t 42) (.t 44), none, false, []⟩,
⟨some 46, .load 1 false (.t 45), none, false, []⟩,
⟨some 47, .mv (.t 0), none, false, []⟩,
⟨some 48, .mv (.t 9), none, false, []⟩,
⟨some 49, .iaddr 1 (.t 47) (.t 48), none, false, []⟩,
⟨some 50, .load 1 false (.t 49), none, false, []⟩,
⟨some 51, .iaddr 1 (.t 37) (.t 38), none, false, []⟩,
⟨none, .store 1 (.t 51) (.t 46), none, false, []⟩,
⟨some 52, .iaddr 1 (.t 39) (.t 41), none, false, []⟩,
⟨none, .store 1 (.t 52) (.t 50), none, false, []⟩])) (.region false [
⟨some 35, .mv (.t 9), none, false, []⟩,
⟨some 36, .bin .sub (.t 35) (.c (.int .i64 1)), none, false, []⟩,
⟨some 9, .mv (.t 36), none, false, []⟩])))
def a161l0 : ACode := .loop [0, 1, 2, 3, 8, 9] [0, 1, 2, 3, 8] a161l0b
def a161l1b : ACode := (.seq (.seq (.region false [
⟨some 12, .mv (.t 8), none, false, []⟩,
⟨some 13, .mv (.t 2), none, false, []⟩,
⟨some 14, .bin .lss (.t 12) (.t 13), none, false, []⟩]) (.cond (.t 14) .skip (.exit 0))) (.seq (.block 1 (.seq (.region false [
⟨some 17, .mv (.t 8), none, false, []⟩,
⟨some 9, .mv (.t 17), none, false, []⟩]) (.block 2 a161l0))) (.region false [
⟨some 15, .mv (.t 8), none, false, []⟩,
⟨some 16, .bin .add (.t 15) (.c (.int .i64 1)), none, false, []⟩,
⟨some 8, .mv (.t 16), none, false, []⟩])))
def a161l1 : ACode := .loop [0, 1, 2, 3, 8] [] a161l1b
def a161 : AFunc := ⟨53, [], (.seq (.region false [
⟨some 10, .mv (.t 1), none, false, []⟩,
⟨some 11, .bin .add (.t 10) (.c (.int .i64 1)), none, false, []⟩,
⟨some 8, .mv (.t 11), none, false, []⟩]) (.block 0 a161l1))⟩
def a162l0b : ACode := (.seq (.seq (.region false [
⟨some 31, .mv (.t 10), none, false, []⟩,
⟨some 32, .mv (.t 11), none, false, []⟩,
⟨some 33, .bin .lss (.t 31) (.t 32), none, false, []⟩]) (.cond (.t 33) .skip (.exit 0))) (.block 1 (.seq (.region false [
⟨some 34, .mv (.t 10), none, false, []⟩,
⟨some 35, .mv (.t 11), none, false, []⟩,
⟨some 36, .bin .add (.t 34) (.t 35), none, false, []⟩,
⟨some 37, .conv .u64 (.t 36), none, false, []⟩,
⟨some 38, .bin .shr (.t 37) (.c (.int .u64 1)), none, false, []⟩,
⟨some 39, .conv .i64 (.t 38), none, false, []⟩,
⟨some 12, .mv (.t 39), none, false, []⟩]) (.seq (.region true [
⟨some 40, .mv (.t 4), none, false, []⟩,
⟨some 41, .mv (.t 0), none, false, []⟩,
⟨some 42, .mv (.t 12), none, false, []⟩,
⟨some 43, .iaddr 1 (.t 41) (.t 42), none, false, []⟩,
⟨some 44, .load 1 false (.t 43), none, false, []⟩,
⟨some 45, .mv (.t 0), none, false, []⟩,
⟨some 46, .mv (.t 1), none, false, []⟩,
⟨some 47, .iaddr 1 (.t 45) (.t 46), none, false, []⟩,
⟨some 48, .load 1 false (.t 47), none, false, []⟩,
⟨some 49, .callv (.t 40) [(.t 44), (.t 48)], none, false, []⟩,
⟨some 50, .bin .lss (.t 49) (.c (.int .i64 0)), none, false, []⟩]) (.cond (.t 50) (.region false [
⟨some 51, .mv (.t 12), none, false, []⟩,
⟨some 52, .bin .add (.t 51) (.c (.int .i64 1)), none, false, []⟩,
⟨some 10, .mv (.t 52), none, false, []⟩]) (.region false [
⟨some 53, .mv (.t 12), none, false, []⟩,
⟨some 11, .mv (.t 53), none, false, []⟩]))))))
def a162l0 : ACode := .loop [0, 1, 4, 10, 11] [0, 1, 10] a162l0b
def a162l1b : ACode := (.seq (.seq (.region false [
⟨some 55, .mv (.t 13), none, false, []⟩,
⟨some 56, .mv (.t 10), none, false, []⟩,
⟨some 57, .bin .sub (.t 56) (.c (.int .i64 1)), none, false, []⟩,
⟨some 58, .bin .lss (.t 55) (.t 57), none, false, []⟩]) (.cond (.t 58) .skip (.exit 2))) (.seq (.block 3 (.region true [
⟨some 61, .mv (.t 0), none, false, []⟩,
⟨some 62, .mv (.t 13), none, false, []⟩,
⟨some 63, .mv (.t 0), none, false, []⟩,
⟨some 64, .mv (.t 13), none, false, []⟩,
⟨some 65, .bin .add (.t 64) (.c (.int .i64 1)), none, false, []⟩,
⟨some 66, .mv (.t 0), none, false, []⟩,
⟨some 67, .mv (.t 13), none, false, []⟩,
⟨some 68, .bin .add (.t 67) (.c (.int .i64 1)), none, false, []⟩,
⟨some 69, .iaddr 1 (.t 66) (.t 68), none, false, []⟩,
⟨some 70, .load 1 false (.t 69), none, false, []⟩,
⟨some 71, .mv (.t 0), none, false, []⟩,
⟨some 72, .mv (.t 13), none, false, []⟩,
⟨some 73, .iaddr 1 (.t 71) (.t 72), none, false, []⟩,
⟨some 74, .load 1 false (.t 73), none, false, []⟩,
⟨some 75, .iaddr 1 (.t 61) (.t 62), none, false, []⟩,
⟨none, .store 1 (.t 75) (.t 70), none, false, []⟩,
⟨some 76, .iaddr 1 (.t 63) (.t 65), none, false, []⟩,
⟨none, .store 1 (.t 76) (.t 74), none, false, []⟩])) (.region false [
⟨some 59, .mv (.t 13), none, false, []⟩,
⟨some 60, .bin .add (.t 59) (.c (.int .i64 1)), none, false, []⟩,
⟨some 13, .mv (.t 60), none, false, []⟩])))
def a162l1 : ACode := .loop [0, 10, 13] [] a162l1b
def a162l2b : ACode := (.seq (.seq (.region false [
⟨some 83, .mv (.t 14), none, false, []⟩,
⟨some 84, .mv (.t 15), none, false, []⟩,
⟨some 85, .bin .lss (.t 83) (.t 84), none, false, []⟩]) (.cond (.t 85) .skip (.exit 4))) (.block 5 (.seq (.region false [
⟨some 86, .mv (.t 14), none, false, []⟩,
⟨some 87, .mv (.t 15), none, false, []⟩,
⟨some 88, .bin .add (.t 86) (.t 87), none, false, []⟩,
⟨some 89, .conv .u64 (.t 88), none, false, []⟩,
⟨some 90, .bin .shr (.t 89) (.c (.int .u64 1)), none, false, []⟩,
⟨some 91, .conv .i64 (.t 90), none, false, []⟩,
⟨some 16, .mv (.t 91), none, false, []⟩]) (.seq (.region true [
⟨some 92, .mv (.t 4), none, false, []⟩,
⟨some 93, .mv (.t 0), none, false, []⟩,
⟨some 94, .mv (.t 2), none, false, []⟩,
⟨some 95, .iaddr 1 (.t 93) (.t 94), none, false, []⟩,
⟨some 96, .load 1 false (.t 95), none, false, []⟩,
⟨some 97, .mv (.t 0), none, false, []⟩,
⟨some 98, .mv (.t 16), none, false, []⟩,
⟨some 99, .iaddr 1 (.t 97) (.t 98), none, false, []⟩,
⟨some 100, .load 1 false (.t 99), none, false, []⟩,
⟨some 101, .callv (.t 92) [(.t 96), (.t 100)], none, false, []⟩,
⟨some 102, .bin .lss (.t 101) (.c (.int .i64 0)), none, false, []⟩,
⟨some 103, .un .not (.t 102), none, false, []⟩]) (.cond (.t 103) (.region false [
⟨some 104, .mv (.t 16), none, false, []⟩,
⟨some 105, .bin .add (.t 104) (.c (.int .i64 1)), none, false, []⟩,
⟨some 14, .mv (.t 105), none, false, []⟩]) (.region false [
⟨some 106, .mv (.t 16), none, false, []⟩,
⟨some 15, .mv (.t 106), none, false, []⟩]))))))
def a162l2 : ACode := .loop [0, 2, 4, 14, 15] [0, 2, 14] a162l2b
def a162l3b : ACode := (.seq (.seq (.region false [
⟨some 108, .mv (.t 17), none, false, []⟩,
⟨some 109, .mv (.t 14), none, false, []⟩,
⟨some 110, .bin .gtr (.t 108) (.t 109), none, false, []⟩]) (.cond (.t 110) .skip (.exit 6))) (.seq (.block 7 (.region true [
⟨some 113, .mv (.t 0), none, false, []⟩,
⟨some 114, .mv (.t 17), none, false, []⟩,
⟨some 115, .mv (.t 0), none, false, []⟩,
⟨some 116, .mv (.t 17), none, false, []⟩,
⟨some 117, .bin .sub (.t 116) (.c (.int .i64 1)), none, false, []⟩,
⟨some 118, .mv (.t 0), none, false, []⟩,
⟨some 119, .mv (.t 17), none, false, []⟩,
⟨some 120, .bin .sub (.t 119) (.c (.int .i64 1)), none, false, []⟩,
⟨some 121, .iaddr 1 (.t 118) (.t 120), none, false, []⟩,
⟨some 122, .load 1 false (.t 121), none, false, []⟩,
⟨some 123, .mv (.t 0), none, false, []⟩,
⟨some 124, .mv (.t 17), none, false, []⟩,
⟨some 125, .iaddr 1 (.t 123) (.t 124), none, false, []⟩,
⟨some 126, .load 1 false (.t 125), none, false, []⟩,
⟨some 127, .iaddr 1 (.t 113) (.t 114), none, false, []⟩,
⟨none, .store 1 (.t 127) (.t 122), none, false, []⟩,
⟨some 128, .iaddr 1 (.t 115) (.t 117), none, false, []⟩,
⟨none, .store 1 (.t 128) (.t 126), none, false, []⟩])) (.region false [
⟨some 111, .mv (.t 17), none, false, []⟩,
⟨some 112, .bin .sub (.t 111) (.c (.int .i64 1)), none, false, []⟩,
⟨some 17, .mv (.t 112), none, false, []⟩])))
def a162l3 : ACode := .loop [0, 14, 17] [] a162l3b
def a162l4b : ACode := (.seq (.seq (.region false [
⟨some 149, .mv (.t 20), none, false, []⟩,
⟨some 150, .mv (.t 21), none, false, []⟩,
⟨some 151, .bin .lss (.t 149) (.t 150), none, false, []⟩]) (.cond (.t 151) .skip (.exit 8))) (.block 9 (.seq (.region false [
⟨some 152, .mv (.t 20), none, false, []⟩,
⟨some 153, .mv (.t 21), none, false, []⟩,
⟨some 154, .bin .add (.t 152) (.t 153), none, false, []⟩,
⟨some 155, .conv .u64 (.t 154), none, false, []⟩,
⟨some 156, .bin .shr (.t 155) (.c (.int .u64 1)), none, false, []⟩,
⟨some 157, .conv .i64 (.t 156), none, false, []⟩,
⟨some 23, .mv (.t 157), none, false, []⟩]) (.seq (.region true [
⟨some 158, .mv (.t 4), none, false, []⟩,
⟨some 159, .mv (.t 0), none, false, []⟩,
⟨some 160, .mv (.t 22), none, false, []⟩,
⟨some 161, .mv (.t 23), none, false, []⟩,
⟨some 162, .bin .sub (.t 160) (.t 161), none, false, []⟩,
⟨some 163, .iaddr 1 (.t 159) (.t 162), none, false, []⟩,
⟨some 164, .load 1 false (.t 163), none, false, []⟩,
⟨some 165, .mv (.t 0), none, false, []⟩,
⟨some 166, .mv (.t 23), none, false, []⟩,
⟨some 167, .iaddr 1 (.t 165) (.t 166), none, false, []⟩,
⟨some 168, .load 1 false (.t 167), none, false, []⟩,
⟨some 169, .callv (.t 158) [(.t 164), (.t 168)], none, false, []⟩,
⟨some 170, .bin .lss (.t 169) (.c (.int .i64 0)), none, false, []⟩,
⟨some 171, .un .not (.t 170), none, false, []⟩]) (.cond (.t 171) (.region false [
⟨some 172, .mv (.t 23), none, false, []⟩,
⟨some 173, .bin .add (.t 172) (.c (.int .i64 1)), none, false, []⟩,
⟨some 20, .mv (.t 173), none, false, []⟩]) (.region false [
⟨some 174, .mv (.t 23), none, false, []⟩,
⟨some 21, .mv (.t 174), none, false, []⟩]))))))
def a162l4 : ACode := .loop [0, 1, 2, 3, 4, 18, 19, 20, 21, 22] [0, 1, 2, 3, 4, 18, 19, 20] a162l4b
def a162 : AFunc := ⟨220, [], (.seq (.seq (.region false [
⟨some 25, .mv (.t 2), none, false, []⟩,
⟨some 26, .mv (.t 1), none, false, []⟩,
⟨some 27, .bin .sub (.t 25) (.t 26), none, false, []⟩,
⟨some 28, .bin .eql (.t 27) (.c (.int .i64 1)), none, false, []⟩]) (.cond (.t 28) (.seq (.region false [
⟨some 29, .mv (.t 2), none, false, []⟩,
⟨some 10, .mv (.t 29), none, false, []⟩]) (.seq (.region false [
⟨some 30, .mv (.t 3), none, false, []⟩,
⟨some 11, .mv (.t 30), none, false, []⟩]) (.seq (.block 0 a162l0) (.seq (.seq (.region false [
⟨some 54, .mv (.t 1), none, false, []⟩,
⟨some 13, .mv (.t 54), none, false, []⟩]) (.block 2 a162l1)) .ret)))) .skip)) (.seq (.seq (.region false [
⟨some 77, .mv (.t 3), none, false, []⟩,
⟨some 78, .mv (.t 2), none, false, []⟩,
⟨some 79, .bin .sub (.t 77) (.t 78), none, false, []⟩,
⟨some 80, .bin .eql (.t 79) (.c (.int .i64 1)), none, false, []⟩]) (.cond (.t 80) (.seq (.region false [
⟨some 81, .mv (.t 1), none, false, []⟩,
⟨some 14, .mv (.t 81), none, false, []⟩]) (.seq (.region false [
⟨some 82, .mv (.t 2), none, false, []⟩,
⟨some 15, .mv (.t 82), none, false, []⟩]) (.seq (.block 4 a162l2) (.seq (.seq (.region false [
⟨some 107, .mv (.t 2), none, false, []⟩,
⟨some 17, .mv (.t 107), none, false, []⟩]) (.block 6 a162l3)) .ret)))) .skip)) (.seq (.region false [
⟨some 129, .mv (.t 1), none, false, []⟩,
⟨some 130, .mv (.t 3), none, false, []⟩,
⟨some 131, .bin .add (.t 129) (.t 130), none, false, []⟩,
⟨some 132, .conv .u64 (.t 131), none, false, []⟩,
⟨some 133, .bin .shr (.t 132) (.c (.int .u64 1)), none, false, []⟩,
⟨some 134, .conv .i64 (.t 133), none, false, []⟩,
⟨some 18, .mv (.t 134), none, false, []⟩]) (.seq (.region false [
⟨some 135, .mv (.t 18), none, false, []⟩,
⟨some 136, .mv (.t 2), none, false, []⟩,
⟨some 137, .bin .add (.t 135) (.t 136), none, false, []⟩,
⟨some 19, .mv (.t 137), none, false, []⟩]) (.seq (.region false [
⟨some 20, .mv (.c (.int .i64 0)), none, false, []⟩,
⟨some 21, .mv (.c (.int .i64 0)), none, false, []⟩]) (.seq (.seq (.region false [
⟨some 138, .mv (.t 2), none, false, []⟩,
⟨some 139, .mv (.t 18), none, false, []⟩,
⟨some 140, .bin .gtr (.t 138) (.t 139), none, false, []⟩]) (.cond (.t 140) (.seq (.region false [
⟨some 141, .mv (.t 19), none, false, []⟩,
⟨some 142, .mv (.t 3), none, false, []⟩,
⟨some 143, .bin .sub (.t 141) (.t 142), none, false, []⟩,
⟨some 20, .mv (.t 143), none, false, []⟩]) (.region false [
⟨some 144, .mv (.t 18), none, false, []⟩,
⟨some 21, .mv (.t 144), none, false, []⟩])) (.seq (.region false [
⟨some 145, .mv (.t 1), none, false, []⟩,
⟨some 20, .mv (.t 145), none, false, []⟩]) (.region false [
⟨some 146, .mv (.t 2), none, false, []⟩,
⟨some 21, .mv (.t 146), none, false, []⟩])))) (.seq (.region false [
⟨some 147, .mv (.t 19), none, false, []⟩,
⟨some 148, .bin .sub (.t 147) (.c (.int .i64 1)), none, false, []⟩,
⟨some 22, .mv (.t 148), none, false, []⟩]) (.seq (.block 8 a162l4) (.seq (.region false [
⟨some 175, .mv (.t 19), none, false, []⟩,
⟨some 176, .mv (.t 20), none, false, []⟩,
⟨some 177, .bin .sub (.t 175) (.t 176), none, false, []⟩,
⟨some 24, .mv (.t 177), none, false, []⟩]) (.seq (.seq (.region false [
⟨some 178, .mv (.t 20), none, false, []⟩,
⟨some 179, .mv (.t 2), none, false, []⟩,
⟨some 180, .bin .lss (.t 178) (.t 179), none, false, []⟩,
⟨some 181, .mv (.t 180), none, false, []⟩,
⟨some 182, .mv (.t 2), some (181, true), false, []⟩,
⟨some 183, .mv (.t 24), some (181, true), false, []⟩,
⟨some 184, .bin .lss (.t 182) (.t 183), some (181, true), false, []⟩,
⟨some 185, .pick (.t 181) (.t 184) (.c (.bool false)), none, false, []⟩]) (.cond (.t 185) (.region false [
⟨some 186, .mv (.t 0), none, false, []⟩,
⟨some 187, .mv (.t 20), none, false, []⟩,
⟨some 188, .mv (.t 2), none, false, []⟩,
⟨some 189, .mv (.t 24), none, false, []⟩,
⟨some 190, .mv (.t 4), none, false, []⟩,
⟨some 191, .call 168 [(.t 186), (.t 187), (.t 188), (.t 189), (.t 190)], none, false, []⟩]) .skip)) (.seq (.seq (.region false [
⟨some 192, .mv (.t 1), none, false, []⟩,
⟨some 193, .mv (.t 20), none, false, []⟩,
⟨some 194, .bin .lss (.t 192) (.t 193), none, false, []⟩,
⟨some 195, .mv (.t 194), none, false, []⟩,
⟨some 196, .mv (.t 20), some (195, true), false, []⟩,
⟨some 197, .mv (.t 18), some (195, true), false, []⟩,
⟨some 198, .bin .lss (.t 196) (.t 197), some (195, true), false, []⟩,
⟨some 199, .pick (.t 195) (.t 198) (.c (.bool false)), none, false, []⟩]) (.cond (.t 199) (.region false [
⟨some 200, .mv (.t 0), none, false, []⟩,
⟨some 201, .mv (.t 1), none, false, []⟩,
⟨some 202, .mv (.t 20), none, false, []⟩,
⟨some 203, .mv (.t 18), none, false, []⟩,
⟨some 204, .mv (.t 4), none, false, []⟩,
⟨some 205, .call 162 [(.t 200), (.t 201), (.t 202), (.t 203), (.t 204)], none, false, []⟩]) .skip)) (.seq (.region false [
⟨some 206, .mv (.t 18), none, false, []⟩,
⟨some 207, .mv (.t 24), none, false, []⟩,
⟨some 208, .bin .lss (.t 206) (.t 207), none, false, []⟩,
⟨some 209, .mv (.t 208), none, false, []⟩,
⟨some 210, .mv (.t 24), some (209, true), false, []⟩,
⟨some 211, .mv (.t 3), some (209, true), false, []⟩,
⟨some 212, .bin .lss (.t 210) (.t 211), some (209, true), false, []⟩,
⟨some 213, .pick (.t 209) (.t 212) (.c (.bool false)), none, false, []⟩]) (.cond (.t 213) (.region false [
⟨some 214, .mv (.t 0), none, false, []⟩,
⟨some 215, .mv (.t 18), none, false, []⟩,
⟨some 216, .mv (.t 24), none, false, []⟩,
⟨some 217, .mv (.t 3), none, false, []⟩,
⟨some 218, .mv (.t 4), none, false, []⟩,
⟨some 219, .call 162 [(.t 214), (.t 215), (.t 216), (.t 217), (.t 218)], none, false, []⟩]) .skip)))))))))))))⟩
def a163l0b : ACode := (.block 1 (.seq (.region false [
⟨some 11, .mv (.t 8), none, false, []⟩,
⟨some 12, .bin .mul (.c (.int .i64 2)) (.t 11), none, false, []⟩,
⟨some 13, .bin .add (.t 12) (.c (.int .i64 1)), none, false, []⟩,
⟨some 9, .mv (.t 13), none, false, []⟩]) (.seq (.seq (.region false [
⟨some 14, .mv (.t 9), none, false, []⟩,
⟨some 15, .mv (.t 2), none, false, []⟩,
⟨some 16, .bin .geq (.t 14) (.t 15), none, false, []⟩]) (.cond (.t 16) (.exit 0) .skip)) (.seq (.seq (.region true [
⟨some 17, .mv (.t 9), none, false, []⟩,
⟨some 18, .bin .add (.t 17) (.c (.int .i64 1)), none, false, []⟩,
⟨some 19, .mv (.t 2), none, false, []⟩,
⟨some 20, .bin .lss (.t 18) (.t 19), none, false, []⟩,
⟨some 21, .mv (.t 20), none, false, []⟩,
⟨some 22, .mv (.t 0), some (21, true), false, []⟩,
⟨some 23, .mv (.t 3), some (21, true), false, []⟩,
⟨some 24, .mv (.t 9), some (21, true), false, []⟩,
⟨some 25, .bin .add (.t 23) (.t 24), some (21, true), false, []⟩,
⟨some 26, .iaddr 1 (.t 22) (.t 25), some (21, true), false, []⟩,
⟨some 27, .load 1 false (.t 26), some (21, true), false, []⟩,
⟨some 28, .mv (.t 0), some (21, true), false, []⟩,
⟨some 29, .mv (.t 3), some (21, true), false, []⟩,
⟨some 30, .mv (.t 9), some (21, true), false, []⟩,
⟨some 31, .bin .add (.t 29) (.t 30), some (21, true), false, []⟩,
⟨some 32, .bin .add (.t 31) (.c (.int .i64 1)), some (21, true), false, []⟩,
⟨some 33, .iaddr 1 (.t 28) (.t 32), some (21, true), false, []⟩,
⟨some 34, .load 1 false (.t 33), some (21, true), false, []⟩,
⟨some 35, .call 156 [(.t 27), (.t 34)], some (21, true), false, []⟩,
⟨some 36, .pick (.t 21) (.t 35) (.c (.bool false)), none, false, []⟩]) (.cond (.t 36) (.region false [
⟨some 37, .mv (.t 9), none, false, []⟩,
⟨some 38, .bin .add (.t 37) (.c (.int .i64 1)), none, false, []⟩,
⟨some 9, .mv (.t 38), none, false, []⟩]) .skip)) (.seq (.seq (.region true [
⟨some 39, .mv (.t 0), none, false, []⟩,
⟨some 40, .mv (.t 3), none, false, []⟩,
⟨some 41, .mv (.t 8), none, false, []⟩,
⟨some 42, .bin .add (.t 40) (.t 41), none, false, []⟩,
⟨some 43, .iaddr 1 (.t 39) (.t 42), none, false, []⟩,
⟨some 44, .load 1 false (.t 43), none, false, []⟩,
⟨some 45, .mv (.t 0), none, false, []⟩,
⟨some 46, .mv (.t 3), none, false, []⟩,
⟨some 47, .mv (.t 9), none, false, []⟩,
⟨some 48, .bin .add (.t 46) (.t 47), none, false, []⟩,
⟨some 49, .iaddr 1 (.t 45) (.t 48), none, false, []⟩,
⟨some 50, .load 1 false (.t 49), none, false, []⟩,
⟨some 51, .call 156 [(.t 44), (.t 50)], none, false, []⟩,
⟨some 52, .un .not (.t 51), none, false, []⟩]) (.cond (.t 52) .ret .skip)) (.seq (.region true [
⟨some 53, .mv (.t 0), none, false, []⟩,
⟨some 54, .mv (.t 3), none, false, []⟩,
⟨some 55, .mv (.t 8), none, false, []⟩,
⟨some 56, .bin .add (.t 54) (.t 55), none, false, []⟩,
⟨some 57, .mv (.t 0), none, false, []⟩,
⟨some 58, .mv (.t 3), none, false, []⟩,
⟨some 59, .mv (.t 9), none, false, []⟩,
⟨some 60, .bin .add (.t 58) (.t 59), none, false, []⟩,
⟨some 61, .mv (.t 0), none, false, []⟩,
⟨some 62, .mv (.t 3), none, false, []⟩,
⟨some 63, .mv (.t 9), none, false, []⟩,
⟨some 64, .bin .add (.t 62) (.t 63), none, false, []⟩,
⟨some 65, .iaddr 1 (.t 61) (.t 64), none, false, []⟩,
⟨some 66, .load 1 false (.t 65), none, false, []⟩,
⟨some 67, .mv (.t 0), none, false, []⟩,
⟨some 68, .mv (.t 3), none, false, []⟩,
⟨some 69, .mv (.t 8), none, false, []⟩,
⟨some 70, .bin .add (.t 68) (.t 69), none, false, []⟩,
⟨some 71, .iaddr 1 (.t 67) (.t 70), none, false, []⟩,
⟨some 72, .load 1 false (.t 71), none, false, []⟩,
⟨some 73, .iaddr 1 (.t 53) (.t 56), none, false, []⟩,
⟨none, .store 1 (.t 73) (.t 66), none, false, []⟩,
⟨some 74, .iaddr 1 (.t 57) (.t 60), none, false, []⟩,
⟨none, .store 1 (.t 74) (.t 72), none, false, []⟩]) (.region false [
⟨some 75, .mv (.t 9), none, false, []⟩,
⟨some 8, .mv (.t 75), none, false, []⟩])))))))
def a163l0 : ACode := .loop [0, 2, 3, 8] [] a163l0b
def a163 : AFunc := ⟨76, [], (.seq (.region false [
⟨some 10, .mv (.t 1), none, false, []⟩,
⟨some 8, .mv (.t 10), none, false, []⟩]) (.block 0 a163l0))⟩
def a164 : AFunc := ⟨7, [.tmp 2], (.seq (.region false [
⟨some 2, .mv (.c (.int .u64 0)), none, false, []⟩]) (.seq (.region false [
⟨some 3, .mv (.t 0), none, false, []⟩,
⟨some 4, .conv .u64 (.t 3), none, false, []⟩,
⟨some 5, .call 145 [(.t 4)], none, false, []⟩,
⟨some 6, .bin .shl (.c (.int .u64 1)) (.t 5), none, false, []⟩,
⟨some 2, .mv (.t 6), none, false, []⟩]) .ret))⟩
def a165 : AFunc := ⟨33, [.tmp 2], (.seq (.region false [
⟨some 2, .mv (.c (.int .u64 0)), none, false, []⟩]) (.seq (.region true [
⟨some 3, .mv (.t 0), none, false, []⟩,
⟨some 4, .nilck (.t 3), none, false, []⟩,
⟨some 5, .load 1 false (.t 4), none, false, []⟩,
⟨some 6, .mv (.t 0), none, false, []⟩,
⟨some 7, .nilck (.t 6), none, false, []⟩,
⟨some 8, .load 1 false (.t 7), none, false, []⟩,
⟨some 9, .bin .shl (.t 8) (.c (.int .u64 13)), none, false, []⟩,
⟨some 10, .bin .xor (.t 5) (.t 9), none, false, []⟩,
⟨some 11, .nilck (.t 3), none, false, []⟩,
⟨none, .store 1 (.t 11) (.t 10), none, false, []⟩]) (.seq (.region true [
⟨some 12, .mv (.t 0), none, false, []⟩,
⟨some 13, .nilck (.t 12), none, false, []⟩,
⟨some 14, .load 1 false (.t 13), none, false, []⟩,
⟨some 15, .mv (.t 0), none, false, []⟩,
⟨some 16, .nilck (.t 15), none, false, []⟩,
⟨some 17, .load 1 false (.t 16), none, false, []⟩,
⟨some 18, .bin .shr (.t 17) (.c (.int .u64 7)), none, false, []⟩,
⟨some 19, .bin .xor (.t 14) (.t 18), none, false, []⟩,
⟨some 20, .nilck (.t 12), none, false, []⟩,
⟨none, .store 1 (.t 20) (.t 19), none, false, []⟩]) (.seq (.region true [
⟨some 21, .mv (.t 0), none, false, []⟩,
⟨some 22, .nilck (.t 21), none, false, []⟩,
⟨some 23, .load 1 false (.t 22), none, false, []⟩,
⟨some 24, .mv (.t 0), none, false, []⟩,
⟨some 25, .nilck (.t 24), none, false, []⟩,
⟨some 26, .load 1 false (.t 25), none, false, []⟩,
⟨some 27, .bin .shl (.t 26) (.c (.int .u64 17)), none, false, []⟩,
⟨some 28, .bin .xor (.t 23) (.t 27), none, false, []⟩,
⟨some 29, .nilck (.t 21), none, false, []⟩,
⟨none, .store 1 (.t 29) (.t 28), none, false, []⟩]) (.seq (.region false [
⟨some 30, .mv (.t 0), none, false, []⟩,
⟨some 31, .nilck (.t 30), none, false, []⟩,
⟨some 32, .load 1 false (.t 31), none, false, []⟩,
⟨some 2, .mv (.t 32), none, false, []⟩]) .ret)))))⟩
def a166 : AFunc := ⟨15, [.tmp 6], (.seq (.region false [
⟨some 6, .mv (.c (.int .i64 0)), none, false, []⟩]) (.seq (.region false [
⟨some 7, .mv (.t 0), none, false, []⟩,
⟨some 8, .mv (.t 1), none, false, []⟩,
⟨some 9, .bin .sub (.t 8) (.c (.int .i64 1)), none, false, []⟩,
⟨some 10, .mv (.t 1), none, false, []⟩,
⟨some 11, .mv (.t 1), none, false, []⟩,
⟨some 12, .bin .add (.t 11) (.c (.int .i64 1)), none, false, []⟩,
⟨some 13, .mv (.t 2), none, false, []⟩,
⟨some 14, .call 167 [(.t 7), (.t 9), (.t 10), (.t 12), (.t 13)], none, false, []⟩,
⟨some 6, .mv (.t 14), none, false, []⟩]) .ret))⟩
def a167 : AFunc := ⟨36, [.tmp 10], (.seq (.region false [
⟨some 10, .mv (.c (.int .i64 0)), none, false, []⟩]) (.seq (.region false [
⟨some 12, .mv (.t 0), none, false, []⟩,
⟨some 13, .mv (.t 1), none, false, []⟩,
⟨some 14, .mv (.t 2), none, false, []⟩,
⟨some 15, .mv (.t 4), none, false, []⟩,
⟨some 16, .call 169 [(.t 12), (.t 13), (.t 14), (.t 15)], none, false, []⟩,
⟨some 11, .mv (.t 16), none, false, []⟩,
⟨some 17, .ext (.t 11) 0, none, false, []⟩,
⟨some 18, .ext (.t 11) 1, none, false, []⟩,
⟨some 1, .mv (.t 17), none, false, []⟩,
⟨some 2, .mv (.t 18), none, false, []⟩]) (.seq (.region false [
⟨some 20, .mv (.t 0), none, false, []⟩,
⟨some 21, .mv (.t 2), none, false, []⟩,
⟨some 22, .mv (.t 3), none, false, []⟩,
⟨some 23, .mv (.t 4), none, false, []⟩,
⟨some 24, .call 169 [(.t 20), (.t 21), (.t 22), (.t 23)], none, false, []⟩,
⟨some 19, .mv (.t 24), none, false, []⟩,
⟨some 25, .ext (.t 19) 0, none, false, []⟩,
⟨some 26, .ext (.t 19) 1, none, false, []⟩,
⟨some 2, .mv (.t 25), none, false, []⟩,
⟨some 3, .mv (.t 26), none, false, []⟩]) (.seq (.region false [
⟨some 28, .mv (.t 0), none, false, []⟩,
⟨some 29, .mv (.t 1), none, false, []⟩,
⟨some 30, .mv (.t 2), none, false, []⟩,
⟨some 31, .mv (.t 4), none, false, []⟩,
⟨some 32, .call 169 [(.t 28), (.t 29), (.t 30), (.t 31)], none, false, []⟩,
⟨some 27, .mv (.t 32), none, false, []⟩,
⟨some 33, .ext (.t 27) 0, none, false, []⟩,
⟨some 34, .ext (.t 27) 1, none, false, []⟩,
⟨some 1, .mv (.t 33), none, false, []⟩,
⟨some 2, .mv (.t 34), none, false, []⟩]) (.seq (.region false [
⟨some 35, .mv (.t 2), none, false, []⟩,
⟨some 10, .mv (.t 35), none, false, []⟩]) .ret)))))⟩
def a168l0b : ACode := (.seq (.seq (.region false [
⟨some 18, .mv (.t 10), none, false, []⟩,
⟨some 19, .mv (.t 11), none, false, []⟩,
⟨some 20, .bin .neq (.t 18) (.t 19), none, false, []⟩]) (.cond (.t 20) .skip (.exit 0))) (.block 1 (.seq (.region false [
⟨some 21, .mv (.t 10), none, false, []⟩,
⟨some 22, .mv (.t 11), none, false, []⟩,
⟨some 23, .bin .gtr (.t 21) (.t 22), none, false, []⟩]) (.cond (.t 23) (.seq (.region false [
⟨some 24, .mv (.t 0), none, false, []⟩,
⟨some 25, .mv (.t 2), none, false, []⟩,
⟨some 26, .mv (.t 10), none, false, []⟩,
⟨some 27, .bin .sub (.t 25) (.t 26), none, false, []⟩,
⟨some 28, .mv (.t 2), none, false, []⟩,
⟨some 29, .mv (.t 11), none, false, []⟩,
⟨some 30, .mv (.t 4), none, false, []⟩,
⟨some 31, .call 170 [(.t 24), (.t 27), (.t 28), (.t 29), (.t 30)], none, false, []⟩]) (.region false [
⟨some 32, .mv (.t 10), none, false, []⟩,
⟨some 33, .mv (.t 11), none, false, []⟩,
⟨some 34, .bin .sub (.t 32) (.t 33), none, false, []⟩,
⟨some 10, .mv (.t 34), none, false, []⟩])) (.seq (.region false [
⟨some 35, .mv (.t 0), none, false, []⟩,
⟨some 36, .mv (.t 2), none, false, []⟩,
⟨some 37, .mv (.t 10), none, false, []⟩,
⟨some 38, .bin .sub (.t 36) (.t 37), none, false, []⟩,
⟨some 39, .mv (.t 2), none, false, []⟩,
⟨some 40, .mv (.t 11), none, false, []⟩,
⟨some 41, .bin .add (.t 39) (.t 40), none, false, []⟩,
⟨some 42, .mv (.t 10), none, false, []⟩,
⟨some 43, .bin .sub (.t 41) (.t 42), none, false, []⟩,
⟨some 44, .mv (.t 10), none, false, []⟩,
⟨some 45, .mv (.t 4), none, false, []⟩,
⟨some 46, .call 170 [(.t 35), (.t 38), (.t 43), (.t 44), (.t 45)], none, false, []⟩]) (.region false [
⟨some 47, .mv (.t 11), none, false, []⟩,
⟨some 48, .mv (.t 10), none, false, []⟩,
⟨some 49, .bin .sub (.t 47) (.t 48), none, false, []⟩,
⟨some 11, .mv (.t 49), none, false, []⟩]))))))
def a168l0 : ACode := .loop [0, 2, 4, 10, 11] [0, 2, 4, 10] a168l0b
def a168 : AFunc := ⟨58, [], (.seq (.region false [
⟨some 12, .mv (.t 2), none, false, []⟩,
⟨some 13, .mv (.t 1), none, false, []⟩,
⟨some 14, .bin .sub (.t 12) (.t 13), none, false, []⟩,
⟨some 10, .mv (.t 14), none, false, []⟩]) (.seq (.region false [
⟨some 15, .mv (.t 3), none, false, []⟩,
⟨some 16, .mv (.t 2), none, false, []⟩,
⟨some 17, .bin .sub (.t 15) (.t 16), none, false, []⟩,
⟨some 11, .mv (.t 17), none, false, []⟩]) (.seq (.block 0 a168l0) (.region false [
⟨some 50, .mv (.t 0), none, false, []⟩,
⟨some 51, .mv (.t 2), none, false, []⟩,
⟨some 52, .mv (.t 10), none, false, []⟩,
⟨some 53, .bin .sub (.t 51) (.t 52), none, false, []⟩,
⟨some 54, .mv (.t 2), none, false, []⟩,
⟨some 55, .mv (.t 10), none, false, []⟩,
⟨some 56, .mv (.t 4), none, false, []⟩,
⟨some 57, .call 170 [(.t 50), (.t 53), (.t 54), (.t 55), (.t 56)], none, false, []⟩]))))⟩
def a169 : AFunc := ⟨28, [.tmp 8, .tmp 9], (.seq (.region false [
⟨some 8, .mv (.c (.int .i64 0)), none, false, []⟩,
⟨some 9, .mv (.c (.int .i64 0)), none, false, []⟩]) (.seq (.seq (.region true [
⟨some 10, .mv (.t 0), none, false, []⟩,
⟨some 11, .mv (.t 2), none, false, []⟩,
⟨some 12, .iaddr 1 (.t 10) (.t 11), none, false, []⟩,
⟨some 13, .load 1 false (.t 12), none, false, []⟩,
⟨some 14, .mv (.t 0), none, false, []⟩,
⟨some 15, .mv (.t 1), none, false, []⟩,
⟨some 16, .iaddr 1 (.t 14) (.t 15), none, false, []⟩,
⟨some 17, .load 1 false (.t 16), none, false, []⟩,
⟨some 18, .call 156 [(.t 13), (.t 17)], none, false, []⟩]) (.cond (.t 18) (.seq (.region false [
⟨some 19, .mv (.t 3), none, false, []⟩,
⟨some 20, .nilck (.t 19), none, false, []⟩,
⟨some 21, .load 1 false (.t 20), none, false, []⟩,
⟨some 22, .bin .add (.t 21) (.c (.int .i64 1)), none, false, []⟩,
⟨some 23, .nilck (.t 19), none, false, []⟩,
⟨none, .store 1 (.t 23) (.t 22), none, false, []⟩]) (.seq (.region false [
⟨some 24, .mv (.t 2), none, false, []⟩,
⟨some 25, .mv (.t 1), none, false, []⟩,
⟨some 8, .mv (.t 24), none, false, []⟩,
⟨some 9, .mv (.t 25), none, false, []⟩]) .ret)) .skip)) (.seq (.region false [
⟨some 26, .mv (.t 1), none, false, []⟩,
⟨some 27, .mv (.t 2), none, false, []⟩,
⟨some 8, .mv (.t 26), none, false, []⟩,
⟨some 9, .mv (.t 27), none, false, []⟩]) .ret)))⟩
def a170l0b : ACode := (.seq (.seq (.region false [
⟨some 11, .mv (.t 10), none, false, []⟩,
⟨some 12, .mv (.t 3), none, false, []⟩,
⟨some 13, .bin .lss (.t 11) (.t 12), none, false, []⟩]) (.cond (.t 13) .skip (.exit 0))) (.seq (.block 1 (.region true [
⟨some 16, .mv (.t 0), none, false, []⟩,
⟨some 17, .mv (.t 1), none, false, []⟩,
⟨some 18, .mv (.t 10), none, false, []⟩,
⟨some 19, .bin .add (.t 17) (.t 18), none, false, []⟩,
⟨some 20, .mv (.t 0), none, false, []⟩,
⟨some 21, .mv (.t 2), none, false, []⟩,
⟨some 22, .mv (.t 10), none, false, []⟩,
⟨some 23, .bin .add (.t 21) (.t 22), none, false, []⟩,
⟨some 24, .mv (.t 0), none, false, []⟩,
⟨some 25, .mv (.t 2), none, false, []⟩,
⟨some 26, .mv (.t 10), none, false, []⟩,
⟨some 27, .bin .add (.t 25) (.t 26), none, false, []⟩,
⟨some 28, .iaddr 1 (.t 24) (.t 27), none, false, []⟩,
⟨some 29, .load 1 false (.t 28), none, false, []⟩,
⟨some 30, .mv (.t 0), none, false, []⟩,
⟨some 31, .mv (.t 1), none, false, []⟩,
⟨some 32, .mv (.t 10), none, false, []⟩,
⟨some 33, .bin .add (.t 31) (.t 32), none, false, []⟩,
⟨some 34, .iaddr 1 (.t 30) (.t 33), none, false, []⟩,
⟨some 35, .load 1 false (.t 34), none, false, []⟩,
⟨some 36, .iaddr 1 (.t 16) (.t 19), none, false, []⟩,
⟨none, .store 1 (.t 36) (.t 29), none, false, []⟩,
⟨some 37, .iaddr 1 (.t 20) (.t 23), none, false, []⟩,
⟨none, .store 1 (.t 37) (.t 35), none, false, []⟩])) (.region false [
⟨some 14, .mv (.t 10), none, false, []⟩,
⟨some 15, .bin .add (.t 14) (.c (.int .i64 1)), none, false, []⟩,
⟨some 10, .mv (.t 15), none, false, []⟩])))
def a170l0 : ACode := .loop [0, 1, 2, 3, 10] [] a170l0b
def a170 : AFunc := ⟨38, [], (.seq (.region false [
⟨some 10, .mv (.c (.int .i64 0)), none, false, []⟩]) (.block 0 a170l0))⟩
def tab : Nat → Option AFunc
  | 3 => some a3
  | 12 => some a12
  | 13 => some a13
  | 14 => some a14
  | 15 => some a15
  | 16 => some a16
  | 17 => some a17
  | 18 => some a18
  | 19 => some a19
  | 20 => some a20
  | 21 => some a21
  | 22 => some a22
  | 23 => some a23
  | 24 => some a24
  | 26 => some a26
  | 27 => some a27
  | 29 => some a29
  | 30 => some a30
  | 31 => some a31
  | 34 => some a34
  | 35 => some a35
  | 36 => some a36
  | 37 => some a37
  | 40 => some a40
  | 50 => some a50
  | 51 => some a51
  | 54 => some a54
  | 64 => some a64
  | 65 => some a65
  | 66 => some a66
  | 67 => some a67
  | 68 => some a68
  | 69 => some a69
  | 70 => some a70
  | 71 => some a71
  | 72 => some a72
  | 73 => some a73
  | 74 => some a74
  | 75 => some a75
  | 76 => some a76
  | 77 => some a77
  | 78 => some a78
  | 79 => some a79
  | 80 => some a80
  | 81 => some a81
  | 82 => some a82
  | 85 => some a85
  | 86 => some a86
  | 87 => some a87
  | 89 => some a89
  | 90 => some a90
  | 91 => some a91
  | 92 => some a92
  | 93 => some a93
  | 94 => some a94
  | 99 => some a99
  | 103 => some a103
  | 104 => some a104
  | 105 => some a105
  | 107 => some a107
  | 108 => some a108
  | 109 => some a109
  | 110 => some a110
  | 111 => some a111
  | 114 => some a114
  | 115 => some a115
  | 118 => some a118
  | 119 => some a119
  | 120 => some a120
  | 121 => some a121
  | 122 => some a122
  | 123 => some a123
  | 124 => some a124
  | 125 => some a125
  | 126 => some a126
  | 128 => some a128
  | 129 => some a129
  | 130 => some a130
  | 131 => some a131
  | 132 => some a132
  | 135 => some a135
  | 137 => some a137
  | 138 => some a138
  | 140 => some a140
  | 141 => some a141
  | 142 => some a142
  | 143 => some a143
  | 144 => some a144
  | 145 => some a145
  | 146 => some a146
  | 147 => some a147
  | 148 => some a148
  | 149 => some a149
  | 150 => some a150
  | 151 => some a151
  | 152 => some a152
  | 153 => some a153
  | 154 => some a154
  | 155 => some a155
  | 156 => some a156
  | 157 => some a157
  | 158 => some a158
  | 159 => some a159
  | 160 => some a160
  | 161 => some a161
  | 162 => some a162
  | 163 => some a163
  | 164 => some a164
  | 165 => some a165
  | 166 => some a166
  | 167 => some a167
  | 168 => some a168
  | 169 => some a169
  | 170 => some a170
  | _ => none
end Go.AI
