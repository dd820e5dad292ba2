/-
  The functions, as the interpreter reads them.
-/
import Derived.Test.YtfglifekecijjaaEAiDef
namespace Go.AI
def a6l0b : ACode := (.seq (.seq (.region false [
⟨some 100, .mv (.t 11), none, false, []⟩,
⟨some 101, .faddr 1 (.t 2), none, false, []⟩,
⟨some 102, .load 1 false (.t 101), none, false, []⟩,
⟨some 103, .len false (.t 102), none, false, []⟩,
⟨some 104, .bin .lss (.t 100) (.t 103), none, false, []⟩]) (.cond (.t 104) .skip (.exit 0))) (.seq (.block 1 (.seq (.region true [
⟨some 107, .faddr 1 (.t 2), none, false, []⟩,
⟨some 108, .load 1 false (.t 107), none, true, []⟩,
⟨some 109, .mv (.t 11), none, false, []⟩,
⟨some 110, .iaddr 6 (.t 108) (.t 109), none, false, []⟩,
⟨some 111, .load 6 true (.t 110), none, true, []⟩,
⟨some 112, .faddr 0 (.t 8), none, false, []⟩,
⟨some 113, .load 1 false (.t 112), none, true, []⟩,
⟨some 114, .mv (.t 11), none, false, []⟩,
⟨some 115, .iaddr 1 (.t 113) (.t 114), none, false, []⟩,
⟨some 116, .load 1 false (.t 115), none, true, []⟩,
⟨some 12, .alloc 58 [.str ByteArray.empty, .int .i64 0, .int .i64 0, .int .i64 0, .bool false, .bool false], none, true, []⟩,
⟨none, .store 6 (.t 12) (.t 111), none, true, [6, 9]⟩,
⟨some 13, .mv (.t 116), none, false, []⟩]) (.seq (.seq (.region false [
⟨some 117, .mv (.t 13), none, false, []⟩,
⟨some 118, .call 20 [(.t 117), (.c (.int .i64 (-1000000))), (.c (.int .i64 1000000))], none, false, []⟩,
⟨some 119, .un .not (.t 118), none, false, []⟩,
⟨some 120, .mv (.t 119), none, false, []⟩,
⟨some 121, .faddr 5 (.t 12), some (120, false), false, []⟩,
⟨some 122, .load 1 false (.t 121), some (120, false), false, []⟩,
⟨some 123, .un .not (.t 122), some (120, false), false, []⟩,
⟨some 124, .mv (.t 123), some (120, false), false, []⟩,
⟨some 125, .mv (.t 13), some (124, true), false, []⟩,
⟨some 126, .bin .neq (.t 125) (.c (.int .i64 0)), some (124, true), false, []⟩,
⟨some 127, .pick (.t 124) (.t 126) (.c (.bool false)), some (120, false), false, []⟩,
⟨some 128, .pick (.t 120) (.c (.bool true)) (.t 127), none, false, []⟩,
⟨some 129, .mv (.t 128), none, false, []⟩,
⟨some 130, .mv (.t 11), some (129, false), false, []⟩,
⟨some 131, .mv (.t 5), some (129, false), false, []⟩,
⟨some 132, .bin .eql (.t 130) (.t 131), some (129, false), false, []⟩,
⟨some 133, .mv (.t 132), some (129, false), false, []⟩,
⟨some 134, .mv (.t 13), some (133, true), false, []⟩,
⟨some 135, .mv (.t 7), some (133, true), false, []⟩,
⟨some 136, .bin .neq (.t 134) (.t 135), some (133, true), false, []⟩,
⟨some 137, .pick (.t 133) (.t 136) (.c (.bool false)), some (129, false), false, []⟩,
⟨some 138, .pick (.t 129) (.c (.bool true)) (.t 137), none, false, []⟩]) (.cond (.t 138) (.seq (.region false [
⟨some 4, .mv (.c (.bool false)), none, false, []⟩]) .ret) .skip)) (.seq (.region true [
⟨some 139, .mv (.t 10), none, false, []⟩,
⟨some 140, .faddr 1 (.t 12), none, false, []⟩,
⟨some 141, .load 1 false (.t 140), none, false, []⟩,
⟨some 142, .mv (.t 10), none, false, []⟩,
⟨some 143, .faddr 2 (.t 12), none, false, []⟩,
⟨some 144, .load 1 false (.t 143), none, true, []⟩,
⟨some 145, .mv (.t 10), none, false, []⟩,
⟨some 146, .faddr 1 (.t 12), none, false, []⟩,
⟨some 147, .load 1 false (.t 146), none, false, []⟩,
⟨some 148, .iaddr 1 (.t 145) (.t 147), none, false, []⟩,
⟨some 149, .load 1 false (.t 148), none, false, []⟩,
⟨some 150, .mv (.t 13), none, false, []⟩,
⟨some 151, .bin .sub (.t 149) (.t 150), none, false, []⟩,
⟨some 152, .mv (.t 10), none, false, []⟩,
⟨some 153, .faddr 2 (.t 12), none, false, []⟩,
⟨some 154, .load 1 false (.t 153), none, false, []⟩,
⟨some 155, .iaddr 1 (.t 152) (.t 154), none, false, []⟩,
⟨some 156, .load 1 false (.t 155), none, false, []⟩,
⟨some 157, .mv (.t 13), none, false, []⟩,
⟨some 158, .bin .add (.t 156) (.t 157), none, false, []⟩,
⟨some 159, .iaddr 1 (.t 139) (.t 141), none, false, []⟩,
⟨none, .store 1 (.t 159) (.t 151), none, true, [5]⟩,
⟨some 160, .iaddr 1 (.t 142) (.t 144), none, false, []⟩,
⟨none, .store 1 (.t 160) (.t 158), none, false, []⟩]) (.seq (.seq (.region false [
⟨some 161, .faddr 1 (.t 8), none, false, []⟩,
⟨some 162, .load 1 false (.t 161), none, false, []⟩,
⟨some 163, .faddr 1 (.t 12), none, false, []⟩,
⟨some 164, .load 1 false (.t 163), none, false, []⟩,
⟨some 165, .iaddr 1 (.t 162) (.t 164), none, false, []⟩,
⟨some 166, .load 1 false (.t 165), none, false, []⟩,
⟨some 167, .call 20 [(.t 166), (.c (.int .i64 (-1152921504606846976))), (.c (.int .i64 1152921504606846976))], none, false, []⟩,
⟨some 168, .un .not (.t 167), none, false, []⟩,
⟨some 169, .mv (.t 168), none, false, []⟩,
⟨some 170, .faddr 1 (.t 8), some (169, false), false, []⟩,
⟨some 171, .load 1 false (.t 170), some (169, false), false, []⟩,
⟨some 172, .faddr 2 (.t 12), some (169, false), false, []⟩,
⟨some 173, .load 1 false (.t 172), some (169, false), false, []⟩,
⟨some 174, .iaddr 1 (.t 171) (.t 173), some (169, false), false, []⟩,
⟨some 175, .load 1 false (.t 174), some (169, false), false, []⟩,
⟨some 176, .call 20 [(.t 175), (.c (.int .i64 (-1152921504606846976))), (.c (.int .i64 1152921504606846976))], some (169, false), false, []⟩,
⟨some 177, .un .not (.t 176), some (169, false), false, []⟩,
⟨some 178, .pick (.t 169) (.c (.bool true)) (.t 177), none, false, []⟩]) (.cond (.t 178) (.seq (.region false [
⟨some 4, .mv (.c (.bool false)), none, false, []⟩]) .ret) .skip)) (.seq (.region true [
⟨some 179, .faddr 1 (.t 8), none, false, []⟩,
⟨some 180, .load 1 false (.t 179), none, false, []⟩,
⟨some 181, .faddr 1 (.t 12), none, false, []⟩,
⟨some 182, .load 1 false (.t 181), none, false, []⟩,
⟨some 183, .iaddr 1 (.t 180) (.t 182), none, false, []⟩,
⟨some 184, .load 1 false (.t 183), none, false, []⟩,
⟨some 185, .faddr 1 (.t 8), none, false, []⟩,
⟨some 186, .load 1 false (.t 185), none, false, []⟩,
⟨some 187, .faddr 2 (.t 12), none, false, []⟩,
⟨some 188, .load 1 false (.t 187), none, false, []⟩,
⟨some 189, .iaddr 1 (.t 186) (.t 188), none, false, []⟩,
⟨some 190, .load 1 false (.t 189), none, false, []⟩,
⟨some 191, .bin .sub (.t 184) (.t 190), none, false, []⟩,
⟨some 14, .mv (.t 191), none, false, []⟩]) (.seq (.region true [
⟨some 192, .faddr 5 (.t 12), none, false, []⟩,
⟨some 193, .load 1 false (.t 192), none, false, []⟩,
⟨some 194, .mv (.t 193), none, false, []⟩,
⟨some 195, .mv (.t 11), some (194, true), false, []⟩,
⟨some 196, .mv (.t 5), some (194, true), false, []⟩,
⟨some 197, .bin .neq (.t 195) (.t 196), some (194, true), false, []⟩,
⟨some 198, .pick (.t 194) (.t 197) (.c (.bool false)), none, false, []⟩,
⟨some 199, .mv (.t 198), none, false, []⟩,
⟨some 200, .mv (.t 14), some (199, true), false, []⟩,
⟨some 201, .faddr 3 (.t 12), some (199, true), false, []⟩,
⟨some 202, .load 1 false (.t 201), some (199, true), true, []⟩,
⟨some 203, .mv (.t 13), some (199, true), false, []⟩,
⟨some 204, .bin .mul (.t 202) (.t 203), some (199, true), false, []⟩,
⟨some 205, .mv (.t 13), some (199, true), false, []⟩,
⟨some 206, .call 41 [(.t 205)], some (199, true), true, []⟩,
⟨some 207, .bin .mul (.t 204) (.t 206), some (199, true), false, []⟩,
⟨some 208, .bin .neq (.t 200) (.t 207), some (199, true), false, []⟩,
⟨some 209, .pick (.t 199) (.t 208) (.c (.bool false)), none, false, []⟩]) (.cond (.t 209) (.seq (.region false [
⟨some 4, .mv (.c (.bool false)), none, false, []⟩]) .ret) .skip)))))))) (.region false [
⟨some 105, .mv (.t 11), none, false, []⟩,
⟨some 106, .bin .add (.t 105) (.c (.int .i64 1)), none, false, []⟩,
⟨some 11, .mv (.t 106), none, false, []⟩])))
def a6l0 : ACode := .loop [2, 3, 5, 7, 8, 10, 11] [2, 3, 4, 5, 7, 8, 10] a6l0b
def a6l1b : ACode := (.seq (.seq (.region false [
⟨some 210, .mv (.t 15), none, false, []⟩,
⟨some 211, .faddr 0 (.t 2), none, false, []⟩,
⟨some 212, .load 1 false (.t 211), none, false, []⟩,
⟨some 213, .len false (.t 212), none, false, []⟩,
⟨some 214, .bin .lss (.t 210) (.t 213), none, false, []⟩]) (.cond (.t 214) .skip (.exit 2))) (.seq (.block 3 (.seq (.region false [
⟨some 217, .faddr 0 (.t 2), none, false, []⟩,
⟨some 218, .load 1 false (.t 217), none, false, []⟩,
⟨some 219, .mv (.t 15), none, false, []⟩,
⟨some 220, .iaddr 4 (.t 218) (.t 219), none, false, []⟩,
⟨some 221, .load 4 true (.t 220), none, false, []⟩,
⟨some 16, .alloc 64 [.str ByteArray.empty, .bool false, .int .i64 0, .int .i64 0], none, false, []⟩,
⟨none, .store 4 (.t 16) (.t 221), none, false, []⟩]) (.seq (.region true [
⟨some 222, .faddr 1 (.t 16), none, false, []⟩,
⟨some 223, .load 1 false (.t 222), none, false, []⟩,
⟨some 224, .un .not (.t 223), none, false, []⟩,
⟨some 225, .mv (.t 224), none, false, []⟩,
⟨some 226, .mv (.t 10), some (225, true), false, []⟩,
⟨some 227, .mv (.t 15), some (225, true), false, []⟩,
⟨some 228, .iaddr 1 (.t 226) (.t 227), some (225, true), false, []⟩,
⟨some 229, .load 1 false (.t 228), some (225, true), false, []⟩,
⟨some 230, .faddr 3 (.t 16), some (225, true), false, []⟩,
⟨some 231, .load 1 false (.t 230), some (225, true), false, []⟩,
⟨some 232, .bin .neq (.t 229) (.t 231), some (225, true), false, []⟩,
⟨some 233, .pick (.t 225) (.t 232) (.c (.bool false)), none, false, []⟩,
⟨some 234, .mv (.t 233), none, false, []⟩,
⟨some 235, .faddr 1 (.t 16), some (234, false), false, []⟩,
⟨some 236, .load 1 false (.t 235), some (234, false), false, []⟩,
⟨some 237, .mv (.t 236), some (234, false), false, []⟩,
⟨some 238, .faddr 1 (.t 8), some (237, true), false, []⟩,
⟨some 239, .load 1 false (.t 238), some (237, true), false, []⟩,
⟨some 240, .mv (.t 15), some (237, true), false, []⟩,
⟨some 241, .iaddr 1 (.t 239) (.t 240), some (237, true), false, []⟩,
⟨some 242, .load 1 false (.t 241), some (237, true), false, []⟩,
⟨some 243, .faddr 2 (.t 16), some (237, true), false, []⟩,
⟨some 244, .load 1 false (.t 243), some (237, true), false, []⟩,
⟨some 245, .bin .mul (.c (.int .i64 1000)) (.t 244), some (237, true), false, []⟩,
⟨some 246, .bin .neq (.t 242) (.t 245), some (237, true), false, []⟩,
⟨some 247, .pick (.t 237) (.t 246) (.c (.bool false)), some (234, false), false, []⟩,
⟨some 248, .pick (.t 234) (.c (.bool true)) (.t 247), none, false, []⟩]) (.cond (.t 248) (.seq (.region false [
⟨some 4, .mv (.c (.bool false)), none, false, []⟩]) .ret) .skip)))) (.region false [
⟨some 215, .mv (.t 15), none, false, []⟩,
⟨some 216, .bin .add (.t 215) (.c (.int .i64 1)), none, false, []⟩,
⟨some 15, .mv (.t 216), none, false, []⟩])))
def a6l1 : ACode := .loop [2, 3, 5, 7, 8, 10, 15] [2, 3, 4, 5, 7, 8] a6l1b
def a6 : AFunc := ⟨314, [.tmp 4], (.seq (.region false [
⟨some 2, .box 25 (.t 0), none, false, []⟩,
⟨some 3, .box 40 (.t 1), none, false, []⟩,
⟨some 4, .mv (.c (.bool false)), none, false, []⟩]) (.seq (.seq (.region false [
⟨some 22, .call 14 [], none, false, []⟩,
⟨some 23, .un .not (.t 22), none, false, []⟩]) (.cond (.t 23) (.seq (.region false [
⟨some 4, .mv (.c (.bool false)), none, false, []⟩]) .ret) .skip)) (.seq (.seq (.region false [
⟨some 24, .load 2 true (.t 2), none, false, []⟩,
⟨some 25, .call 15 [(.t 24)], none, false, []⟩,
⟨some 26, .un .not (.t 25), none, false, []⟩,
⟨some 27, .mv (.t 26), none, false, []⟩,
⟨some 28, .load 2 true (.t 2), some (27, false), false, []⟩,
⟨some 29, .call 38 [(.t 28)], some (27, false), false, []⟩,
⟨some 30, .bin .neq (.t 29) (.c (.int .i64 0)), some (27, false), false, []⟩,
⟨some 31, .pick (.t 27) (.c (.bool true)) (.t 30), none, false, []⟩,
⟨some 32, .mv (.t 31), none, false, []⟩,
⟨some 33, .iarr 1 2 (.t 3) (.c (.int .i64 0)), some (32, false), false, []⟩,
⟨some 34, .load 1 false (.t 33), some (32, false), false, []⟩,
⟨some 35, .call 21 [(.t 34)], some (32, false), false, []⟩,
⟨some 36, .bin .neq (.t 35) (.c (.int .i64 0)), some (32, false), false, []⟩,
⟨some 37, .pick (.t 32) (.c (.bool true)) (.t 36), none, false, []⟩,
⟨some 38, .mv (.t 37), none, false, []⟩,
⟨some 39, .iarr 1 2 (.t 3) (.c (.int .i64 1)), some (38, false), false, []⟩,
⟨some 40, .load 1 false (.t 39), some (38, false), false, []⟩,
⟨some 41, .call 21 [(.t 40)], some (38, false), false, []⟩,
⟨some 42, .bin .neq (.t 41) (.c (.int .i64 0)), some (38, false), false, []⟩,
⟨some 43, .pick (.t 38) (.c (.bool true)) (.t 42), none, false, []⟩,
⟨some 44, .mv (.t 43), none, false, []⟩,
⟨some 45, .iarr 1 2 (.t 3) (.c (.int .i64 0)), some (44, false), false, []⟩,
⟨some 46, .load 1 false (.t 45), some (44, false), false, []⟩,
⟨some 47, .iarr 1 2 (.t 3) (.c (.int .i64 1)), some (44, false), false, []⟩,
⟨some 48, .load 1 false (.t 47), some (44, false), false, []⟩,
⟨some 49, .bin .gtr (.t 46) (.t 48), some (44, false), false, []⟩,
⟨some 50, .pick (.t 44) (.c (.bool true)) (.t 49), none, false, []⟩]) (.cond (.t 50) (.seq (.region false [
⟨some 4, .mv (.c (.bool true)), none, false, []⟩]) .ret) .skip)) (.seq (.region false [
⟨some 52, .load 2 true (.t 2), none, false, []⟩,
⟨some 53, .call 17 [(.t 52)], none, false, []⟩,
⟨some 54, .call 39 [(.t 53)], none, false, []⟩,
⟨some 51, .mv (.t 54), none, false, []⟩,
⟨some 55, .ext (.t 51) 0, none, false, []⟩,
⟨some 56, .ext (.t 51) 1, none, false, []⟩,
⟨some 5, .mv (.t 55), none, false, []⟩,
⟨some 6, .mv (.t 56), none, false, []⟩]) (.seq (.region false [
⟨some 57, .iarr 1 2 (.t 3) (.c (.int .i64 0)), none, false, []⟩,
⟨some 58, .load 1 false (.t 57), none, false, []⟩,
⟨some 7, .mv (.t 58), none, false, []⟩]) (.seq (.seq (.region false [
⟨some 59, .mv (.t 6), none, false, []⟩,
⟨some 60, .bin .neq (.t 59) (.c (.int .i64 0)), none, false, []⟩]) (.cond (.t 60) (.region false [
⟨some 5, .mv (.c (.int .i64 (-1))), none, false, []⟩,
⟨some 7, .mv (.c (.int .i64 0)), none, false, []⟩]) .skip)) (.seq (.region false [
⟨some 62, .load 2 true (.t 2), none, false, []⟩,
⟨some 63, .call 17 [(.t 62)], none, false, []⟩,
⟨some 64, .mv (.t 7), none, false, []⟩,
⟨some 65, .call 40 [(.t 63), (.t 64)], none, false, []⟩,
⟨some 61, .mv (.t 65), none, false, []⟩,
⟨some 66, .ext (.t 61) 0, none, false, []⟩,
⟨some 67, .ext (.t 61) 1, none, false, []⟩,
⟨some 8, .nalloc [1, 1] 60 [.nilSlice, .nilSlice], none, false, []⟩,
⟨none, .store 2 (.t 8) (.t 66), none, false, []⟩,
⟨some 9, .mv (.t 67), none, false, []⟩]) (.seq (.seq (.region false [
⟨some 68, .mv (.t 6), none, false, []⟩,
⟨some 69, .bin .neq (.t 68) (.c (.int .i64 0)), none, false, []⟩,
⟨some 70, .mv (.t 69), none, false, []⟩,
⟨some 71, .mv (.t 6), some (70, true), false, []⟩,
⟨some 72, .bin .neq (.t 71) (.c (.int .i64 12)), some (70, true), false, []⟩,
⟨some 73, .pick (.t 70) (.t 72) (.c (.bool false)), none, false, []⟩,
⟨some 74, .mv (.t 73), none, false, []⟩,
⟨some 75, .mv (.t 9), some (74, false), false, []⟩,
⟨some 76, .bin .neq (.t 75) (.c (.int .i64 0)), some (74, false), false, []⟩,
⟨some 77, .pick (.t 74) (.c (.bool true)) (.t 76), none, false, []⟩,
⟨some 78, .mv (.t 77), none, false, []⟩,
⟨some 79, .faddr 0 (.t 8), some (78, false), false, []⟩,
⟨some 80, .load 1 false (.t 79), some (78, false), false, []⟩,
⟨some 81, .len false (.t 80), some (78, false), false, []⟩,
⟨some 82, .faddr 1 (.t 2), some (78, false), false, []⟩,
⟨some 83, .load 1 false (.t 82), some (78, false), false, []⟩,
⟨some 84, .len false (.t 83), some (78, false), false, []⟩,
⟨some 85, .bin .neq (.t 81) (.t 84), some (78, false), false, []⟩,
⟨some 86, .pick (.t 78) (.c (.bool true)) (.t 85), none, false, []⟩,
⟨some 87, .mv (.t 86), none, false, []⟩,
⟨some 88, .faddr 1 (.t 8), some (87, false), false, []⟩,
⟨some 89, .load 1 false (.t 88), some (87, false), false, []⟩,
⟨some 90, .len false (.t 89), some (87, false), false, []⟩,
⟨some 91, .faddr 0 (.t 2), some (87, false), false, []⟩,
⟨some 92, .load 1 false (.t 91), some (87, false), false, []⟩,
⟨some 93, .len false (.t 92), some (87, false), false, []⟩,
⟨some 94, .bin .neq (.t 90) (.t 93), some (87, false), false, []⟩,
⟨some 95, .pick (.t 87) (.c (.bool true)) (.t 94), none, false, []⟩]) (.cond (.t 95) (.seq (.region false [
⟨some 4, .mv (.c (.bool false)), none, false, []⟩]) .ret) .skip)) (.seq (.region false [
⟨some 96, .faddr 0 (.t 2), none, false, []⟩,
⟨some 97, .load 1 false (.t 96), none, false, []⟩,
⟨some 98, .len false (.t 97), none, false, []⟩,
⟨some 99, .mkslice 3 1 8 [.int .i64 0] (.t 98) (.t 98), none, false, []⟩,
⟨some 10, .mv (.t 99), none, false, []⟩]) (.seq (.seq (.region false [
⟨some 11, .mv (.c (.int .i64 0)), none, false, []⟩]) (.block 0 a6l0)) (.seq (.seq (.region false [
⟨some 15, .mv (.c (.int .i64 0)), none, false, []⟩]) (.block 2 a6l1)) (.seq (.seq (.region false [
⟨some 249, .mv (.t 5), none, false, []⟩,
⟨some 250, .bin .lss (.t 249) (.c (.int .i64 0)), none, false, []⟩]) (.cond (.t 250) (.seq (.region false [
⟨some 4, .mv (.c (.bool true)), none, false, []⟩]) .ret) .skip)) (.seq (.region false [
⟨some 252, .load 2 true (.t 2), none, false, []⟩,
⟨some 253, .call 17 [(.t 252)], none, false, []⟩,
⟨some 254, .mv (.t 7), none, false, []⟩,
⟨some 255, .call 42 [(.t 253), (.t 254)], none, false, []⟩,
⟨some 251, .mv (.t 255), none, false, []⟩,
⟨some 256, .ext (.t 251) 0, none, false, []⟩,
⟨some 257, .ext (.t 251) 1, none, false, []⟩,
⟨some 17, .mv (.t 256), none, false, []⟩,
⟨some 18, .mv (.t 257), none, false, []⟩]) (.seq (.region true [
⟨some 259, .load 2 true (.t 2), none, false, []⟩,
⟨some 260, .call 17 [(.t 259)], none, true, []⟩,
⟨some 261, .iarr 1 2 (.t 3) (.c (.int .i64 1)), none, false, []⟩,
⟨some 262, .load 1 false (.t 261), none, true, [1]⟩,
⟨some 263, .call 42 [(.t 260), (.t 262)], none, false, []⟩,
⟨some 258, .mv (.t 263), none, false, []⟩,
⟨some 264, .ext (.t 258) 0, none, false, []⟩,
⟨some 265, .ext (.t 258) 1, none, false, []⟩,
⟨some 19, .mv (.t 264), none, false, []⟩,
⟨some 20, .mv (.t 265), none, false, []⟩]) (.seq (.seq (.region false [
⟨some 266, .mv (.t 18), none, false, []⟩,
⟨some 267, .bin .neq (.t 266) (.c (.int .i64 0)), none, false, []⟩,
⟨some 268, .mv (.t 267), none, false, []⟩,
⟨some 269, .mv (.t 20), some (268, false), false, []⟩,
⟨some 270, .bin .neq (.t 269) (.c (.int .i64 0)), some (268, false), false, []⟩,
⟨some 271, .pick (.t 268) (.c (.bool true)) (.t 270), none, false, []⟩,
⟨some 272, .mv (.t 271), none, false, []⟩,
⟨some 273, .mv (.t 17), some (272, false), false, []⟩,
⟨some 274, .mv (.t 19), some (272, false), false, []⟩,
⟨some 275, .bin .gtr (.t 273) (.t 274), some (272, false), false, []⟩,
⟨some 276, .pick (.t 272) (.c (.bool true)) (.t 275), none, false, []⟩,
⟨some 277, .mv (.t 276), none, false, []⟩,
⟨some 278, .mv (.t 5), some (277, false), false, []⟩,
⟨some 279, .faddr 1 (.t 2), some (277, false), false, []⟩,
⟨some 280, .load 1 false (.t 279), some (277, false), false, []⟩,
⟨some 281, .len false (.t 280), some (277, false), false, []⟩,
⟨some 282, .bin .sub (.t 281) (.c (.int .i64 1)), some (277, false), false, []⟩,
⟨some 283, .call 20 [(.t 278), (.c (.int .i64 0)), (.t 282)], some (277, false), false, []⟩,
⟨some 284, .un .not (.t 283), some (277, false), false, []⟩,
⟨some 285, .pick (.t 277) (.c (.bool true)) (.t 284), none, false, []⟩]) (.cond (.t 285) (.seq (.region false [
⟨some 4, .mv (.c (.bool false)), none, false, []⟩]) .ret) .skip)) (.seq (.region false [
⟨some 286, .faddr 1 (.t 2), none, false, []⟩,
⟨some 287, .load 1 false (.t 286), none, false, []⟩,
⟨some 288, .mv (.t 5), none, false, []⟩,
⟨some 289, .iaddr 6 (.t 287) (.t 288), none, false, []⟩,
⟨some 290, .load 6 true (.t 289), none, false, []⟩,
⟨some 21, .alloc 58 [.str ByteArray.empty, .int .i64 0, .int .i64 0, .int .i64 0, .bool false, .bool false], none, false, []⟩,
⟨none, .store 6 (.t 21) (.t 290), none, false, []⟩]) (.seq (.region true [
⟨some 291, .mv (.t 17), none, false, []⟩,
⟨some 292, .faddr 3 (.t 21), none, false, []⟩,
⟨some 293, .load 1 false (.t 292), none, true, []⟩,
⟨some 294, .mv (.t 7), none, false, []⟩,
⟨some 295, .bin .mul (.t 293) (.t 294), none, false, []⟩,
⟨some 296, .mv (.t 7), none, false, []⟩,
⟨some 297, .call 41 [(.t 296)], none, true, []⟩,
⟨some 298, .bin .mul (.t 295) (.t 297), none, false, []⟩,
⟨some 299, .faddr 1 (.t 8), none, false, []⟩,
⟨some 300, .load 1 false (.t 299), none, true, [6]⟩,
⟨some 301, .faddr 1 (.t 21), none, false, []⟩,
⟨some 302, .load 1 false (.t 301), none, true, [6]⟩,
⟨some 303, .iaddr 1 (.t 300) (.t 302), none, false, []⟩,
⟨some 304, .load 1 false (.t 303), none, true, [6]⟩,
⟨some 305, .faddr 1 (.t 8), none, false, []⟩,
⟨some 306, .load 1 false (.t 305), none, true, [6]⟩,
⟨some 307, .faddr 2 (.t 21), none, false, []⟩,
⟨some 308, .load 1 false (.t 307), none, true, [6]⟩,
⟨some 309, .iaddr 1 (.t 306) (.t 308), none, false, []⟩,
⟨some 310, .load 1 false (.t 309), none, true, [6]⟩,
⟨some 311, .bin .sub (.t 304) (.t 310), none, false, []⟩,
⟨some 312, .bin .sub (.t 298) (.t 311), none, false, []⟩,
⟨some 313, .bin .eql (.t 291) (.t 312), none, false, []⟩,
⟨some 4, .mv (.t 313), none, false, []⟩]) .ret)))))))))))))))))⟩
def a14 : AFunc := ⟨79, [.tmp 0], (.seq (.region false [
⟨some 0, .mv (.c (.bool false)), none, false, []⟩]) (.seq (.region false [
⟨some 12, .call 69 [], none, false, []⟩,
⟨some 13, .call 48 [(.t 12)], none, false, []⟩,
⟨some 11, .mv (.t 13), none, false, []⟩,
⟨some 14, .ext (.t 11) 0, none, false, []⟩,
⟨some 15, .ext (.t 11) 1, none, false, []⟩,
⟨some 1, .alloc 43 [.int .i64 0, .int .i64 0], none, false, []⟩,
⟨none, .store 2 (.t 1) (.t 14), none, false, []⟩,
⟨some 2, .mv (.t 15), none, false, []⟩]) (.seq (.region false [
⟨some 17, .call 69 [], none, false, []⟩,
⟨some 18, .call 42 [(.t 17), (.c (.int .i64 17))], none, false, []⟩,
⟨some 16, .mv (.t 18), none, false, []⟩,
⟨some 19, .ext (.t 16) 0, none, false, []⟩,
⟨some 20, .ext (.t 16) 1, none, false, []⟩,
⟨some 3, .mv (.t 19), none, false, []⟩,
⟨some 4, .mv (.t 20), none, false, []⟩]) (.seq (.region false [
⟨some 22, .bslice 3 1 2 [.int .i64 0] [(0, (.c (.int .i64 100))), (1, (.c (.int .i64 400)))], none, false, []⟩,
⟨some 23, .call 28 [(.t 22), (.c (.int .i64 30))], none, false, []⟩,
⟨some 21, .mv (.t 23), none, false, []⟩,
⟨some 24, .ext (.t 21) 0, none, false, []⟩,
⟨some 25, .ext (.t 21) 1, none, false, []⟩,
⟨some 5, .alloc 43 [.int .i64 0, .int .i64 0], none, false, []⟩,
⟨none, .store 2 (.t 5) (.t 24), none, false, []⟩,
⟨some 6, .mv (.t 25), none, false, []⟩]) (.seq (.region false [
⟨some 27, .call 70 [], none, false, []⟩,
⟨some 28, .call 31 [(.t 27), (.c (.int .i64 0))], none, false, []⟩,
⟨some 26, .mv (.t 28), none, false, []⟩,
⟨some 29, .ext (.t 26) 0, none, false, []⟩,
⟨some 30, .ext (.t 26) 1, none, false, []⟩,
⟨some 7, .mv (.t 29), none, false, []⟩,
⟨some 8, .mv (.t 30), none, false, []⟩]) (.seq (.region false [
⟨some 32, .call 69 [], none, false, []⟩,
⟨some 33, .build [.int .i64 0, .int .i64 0] [(1, 1, (.c (.int .i64 2)))], none, false, []⟩,
⟨some 34, .call 55 [(.t 32), (.t 33)], none, false, []⟩,
⟨some 31, .mv (.t 34), none, false, []⟩,
⟨some 35, .ext (.t 31) 0, none, false, []⟩,
⟨some 36, .ext (.t 31) 1, none, false, []⟩,
⟨some 9, .mv (.t 35), none, false, []⟩,
⟨some 10, .mv (.t 36), none, false, []⟩]) (.seq (.region false [
⟨some 37, .mv (.t 2), none, false, []⟩,
⟨some 38, .bin .eql (.t 37) (.c (.int .i64 0)), none, false, []⟩,
⟨some 39, .mv (.t 38), none, false, []⟩,
⟨some 40, .load 2 true (.t 1), some (39, true), false, []⟩,
⟨some 41, .build [.int .i64 0, .int .i64 0] [(0, 1, (.c (.int .i64 17))), (1, 1, (.c (.int .i64 18)))], some (39, true), false, []⟩,
⟨some 42, .eq false [1, 1] (.t 40) (.t 41), some (39, true), false, []⟩,
⟨some 43, .pick (.t 39) (.t 42) (.c (.bool false)), none, false, []⟩,
⟨some 44, .mv (.t 43), none, false, []⟩,
⟨some 45, .mv (.t 4), some (44, true), false, []⟩,
⟨some 46, .bin .eql (.t 45) (.c (.int .i64 0)), some (44, true), false, []⟩,
⟨some 47, .pick (.t 44) (.t 46) (.c (.bool false)), none, false, []⟩,
⟨some 48, .mv (.t 47), none, false, []⟩,
⟨some 49, .mv (.t 3), some (48, true), false, []⟩,
⟨some 50, .bin .eql (.t 49) (.c (.int .i64 (-2200))), some (48, true), false, []⟩,
⟨some 51, .pick (.t 48) (.t 50) (.c (.bool false)), none, false, []⟩,
⟨some 52, .mv (.t 51), none, false, []⟩,
⟨some 53, .mv (.t 6), some (52, true), false, []⟩,
⟨some 54, .bin .eql (.t 53) (.c (.int .i64 0)), some (52, true), false, []⟩,
⟨some 55, .pick (.t 52) (.t 54) (.c (.bool false)), none, false, []⟩,
⟨some 56, .mv (.t 55), none, false, []⟩,
⟨some 57, .load 2 true (.t 5), some (56, true), false, []⟩,
⟨some 58, .build [.int .i64 0, .int .i64 0] [(0, 1, (.c (.int .i64 36101))), (1, 1, (.c (.int .i64 40000)))], some (56, true), false, []⟩,
⟨some 59, .eq false [1, 1] (.t 57) (.t 58), some (56, true), false, []⟩,
⟨some 60, .pick (.t 56) (.t 59) (.c (.bool false)), none, false, []⟩,
⟨some 61, .mv (.t 60), none, false, []⟩,
⟨some 62, .mv (.t 8), some (61, true), false, []⟩,
⟨some 63, .bin .eql (.t 62) (.c (.int .i64 0)), some (61, true), false, []⟩,
⟨some 64, .pick (.t 61) (.t 63) (.c (.bool false)), none, false, []⟩,
⟨some 65, .mv (.t 64), none, false, []⟩,
⟨some 66, .mv (.t 7), some (65, true), false, []⟩,
⟨some 67, .bslice 3 1 2 [.int .i64 0] [(0, (.c (.int .i64 0))), (1, (.c (.int .i64 1)))], some (65, true), false, []⟩,
⟨some 68, .call 34 [(.t 66), (.t 67)], some (65, true), false, []⟩,
⟨some 69, .pick (.t 65) (.t 68) (.c (.bool false)), none, false, []⟩,
⟨some 70, .mv (.t 69), none, false, []⟩,
⟨some 71, .mv (.t 10), some (70, true), false, []⟩,
⟨some 72, .bin .eql (.t 71) (.c (.int .i64 0)), some (70, true), false, []⟩,
⟨some 73, .pick (.t 70) (.t 72) (.c (.bool false)), none, false, []⟩,
⟨some 74, .mv (.t 73), none, false, []⟩,
⟨some 75, .mv (.t 9), some (74, true), false, []⟩,
⟨some 76, .bslice 3 1 1 [.int .i64 0] [(0, (.c (.int .i64 1)))], some (74, true), false, []⟩,
⟨some 77, .call 34 [(.t 75), (.t 76)], some (74, true), false, []⟩,
⟨some 78, .pick (.t 74) (.t 77) (.c (.bool false)), none, false, []⟩,
⟨some 0, .mv (.t 78), none, false, []⟩]) .ret)))))))⟩
def a15l0b : ACode := (.seq (.seq (.region false [
⟨some 15, .mv (.t 3), none, false, []⟩,
⟨some 16, .faddr 0 (.t 1), none, false, []⟩,
⟨some 17, .load 1 false (.t 16), none, false, []⟩,
⟨some 18, .len false (.t 17), none, false, []⟩,
⟨some 19, .bin .lss (.t 15) (.t 18), none, false, []⟩]) (.cond (.t 19) .skip (.exit 0))) (.seq (.block 1 (.seq (.region false [
⟨some 22, .faddr 0 (.t 1), none, false, []⟩,
⟨some 23, .load 1 false (.t 22), none, false, []⟩,
⟨some 24, .mv (.t 3), none, false, []⟩,
⟨some 25, .iaddr 4 (.t 23) (.t 24), none, false, []⟩,
⟨some 26, .faddr 0 (.t 25), none, false, []⟩,
⟨some 27, .load 1 false (.t 26), none, false, []⟩,
⟨some 28, .len true (.t 27), none, false, []⟩,
⟨some 29, .bin .gtr (.t 28) (.c (.int .i64 20)), none, false, []⟩]) (.cond (.t 29) (.seq (.region false [
⟨some 2, .mv (.c (.bool false)), none, false, []⟩]) .ret) .skip))) (.region false [
⟨some 20, .mv (.t 3), none, false, []⟩,
⟨some 21, .bin .add (.t 20) (.c (.int .i64 1)), none, false, []⟩,
⟨some 3, .mv (.t 21), none, false, []⟩])))
def a15l0 : ACode := .loop [1, 3] [1, 2] a15l0b
def a15l1b : ACode := (.seq (.seq (.region false [
⟨some 30, .mv (.t 4), none, false, []⟩,
⟨some 31, .faddr 1 (.t 1), none, false, []⟩,
⟨some 32, .load 1 false (.t 31), none, false, []⟩,
⟨some 33, .len false (.t 32), none, false, []⟩,
⟨some 34, .bin .lss (.t 30) (.t 33), none, false, []⟩]) (.cond (.t 34) .skip (.exit 2))) (.seq (.block 3 (.seq (.region false [
⟨some 37, .faddr 1 (.t 1), none, false, []⟩,
⟨some 38, .load 1 false (.t 37), none, false, []⟩,
⟨some 39, .mv (.t 4), none, false, []⟩,
⟨some 40, .iaddr 6 (.t 38) (.t 39), none, false, []⟩,
⟨some 41, .faddr 0 (.t 40), none, false, []⟩,
⟨some 42, .load 1 false (.t 41), none, false, []⟩,
⟨some 43, .len true (.t 42), none, false, []⟩,
⟨some 44, .bin .gtr (.t 43) (.c (.int .i64 20)), none, false, []⟩]) (.cond (.t 44) (.seq (.region false [
⟨some 2, .mv (.c (.bool false)), none, false, []⟩]) .ret) .skip))) (.region false [
⟨some 35, .mv (.t 4), none, false, []⟩,
⟨some 36, .bin .add (.t 35) (.c (.int .i64 1)), none, false, []⟩,
⟨some 4, .mv (.t 36), none, false, []⟩])))
def a15l1 : ACode := .loop [1, 4] [2] a15l1b
def a15 : AFunc := ⟨45, [.tmp 2], (.seq (.region false [
⟨some 1, .box 25 (.t 0), none, false, []⟩,
⟨some 2, .mv (.c (.bool false)), none, false, []⟩]) (.seq (.seq (.region false [
⟨some 5, .faddr 0 (.t 1), none, false, []⟩,
⟨some 6, .load 1 false (.t 5), none, false, []⟩,
⟨some 7, .len false (.t 6), none, false, []⟩,
⟨some 8, .bin .gtr (.t 7) (.c (.int .i64 12)), none, false, []⟩,
⟨some 9, .mv (.t 8), none, false, []⟩,
⟨some 10, .faddr 1 (.t 1), some (9, false), false, []⟩,
⟨some 11, .load 1 false (.t 10), some (9, false), false, []⟩,
⟨some 12, .len false (.t 11), some (9, false), false, []⟩,
⟨some 13, .bin .gtr (.t 12) (.c (.int .i64 16)), some (9, false), false, []⟩,
⟨some 14, .pick (.t 9) (.c (.bool true)) (.t 13), none, false, []⟩]) (.cond (.t 14) (.seq (.region false [
⟨some 2, .mv (.c (.bool false)), none, false, []⟩]) .ret) .skip)) (.seq (.seq (.region false [
⟨some 3, .mv (.c (.int .i64 0)), none, false, []⟩]) (.block 0 a15l0)) (.seq (.seq (.region false [
⟨some 4, .mv (.c (.int .i64 0)), none, false, []⟩]) (.block 2 a15l1)) (.seq (.region false [
⟨some 2, .mv (.c (.bool true)), none, false, []⟩]) .ret)))))⟩
def a16l0b : ACode := (.seq (.region false [
⟨some 52, .bin .lss (.t 51) (.t 50), none, false, []⟩]) (.seq (.cond (.t 52) .skip (.exit 0)) (.seq (.block 1 (.seq (.region false [
⟨some 53, .mv (.t 51), none, false, []⟩,
⟨some 54, .iaddr 4 (.t 49) (.t 51), none, false, []⟩,
⟨some 55, .load 4 true (.t 54), none, false, []⟩,
⟨some 9, .alloc 64 [.str ByteArray.empty, .bool false, .int .i64 0, .int .i64 0], none, false, []⟩,
⟨some 8, .mv (.t 53), none, false, []⟩,
⟨none, .store 4 (.t 9) (.t 55), none, false, []⟩]) (.seq (.region true [
⟨some 56, .faddr 2 (.t 9), none, false, []⟩,
⟨some 57, .load 1 false (.t 56), none, true, []⟩,
⟨some 58, .faddr 3 (.t 9), none, false, []⟩,
⟨some 59, .load 1 false (.t 58), none, false, []⟩,
⟨some 60, .call 73 [(.t 59), (.c (.int .i64 10000))], none, true, []⟩,
⟨some 10, .mv (.t 57), none, false, []⟩,
⟨some 11, .mv (.t 60), none, false, []⟩]) (.seq (.seq (.region false [
⟨some 61, .faddr 1 (.t 9), none, false, []⟩,
⟨some 62, .load 1 false (.t 61), none, false, []⟩]) (.cond (.t 62) (.region true [
⟨some 63, .faddr 3 (.t 9), none, false, []⟩,
⟨some 64, .load 1 false (.t 63), none, true, []⟩,
⟨some 65, .faddr 2 (.t 9), none, false, []⟩,
⟨some 66, .load 1 false (.t 65), none, false, []⟩,
⟨some 67, .call 74 [(.t 66), (.c (.int .i64 0)), (.c (.int .i64 1000000))], none, true, []⟩,
⟨some 10, .mv (.t 64), none, false, []⟩,
⟨some 11, .mv (.t 67), none, false, []⟩]) .skip)) (.seq (.seq (.region true [
⟨some 68, .faddr 0 (.t 9), none, false, []⟩,
⟨some 69, .load 1 false (.t 68), none, false, []⟩,
⟨some 70, .call 75 [(.t 69)], none, true, []⟩,
⟨some 71, .call 72 [(.t 70), (.c (.int .i64 4))], none, true, []⟩,
⟨some 72, .mv (.t 7), none, false, []⟩,
⟨some 73, .faddr 0 (.t 9), none, false, []⟩,
⟨some 74, .load 1 false (.t 73), none, true, [2, 3]⟩,
⟨some 75, .look true (.bool false) (.t 72) (.t 74) false, none, true, [2, 3]⟩,
⟨some 76, .un .not (.t 75), none, false, []⟩,
⟨some 77, .call 72 [(.t 76), (.c (.int .i64 5))], none, false, []⟩,
⟨some 78, .mv (.t 11), none, false, []⟩,
⟨some 79, .call 72 [(.t 78), (.c (.int .i64 2))], none, false, []⟩,
⟨some 80, .mv (.t 10), none, false, []⟩,
⟨some 81, .bin .eql (.t 80) (.c (.int .i64 0)), none, false, []⟩,
⟨some 82, .call 72 [(.t 81), (.c (.int .i64 3))], none, false, []⟩,
⟨some 83, .bslice 28 1 4 [.int .i64 0] [(0, (.t 71)), (1, (.t 77)), (2, (.t 79)), (3, (.t 82))], none, false, []⟩,
⟨some 84, .call 71 [(.t 83)], none, false, []⟩,
⟨some 12, .mv (.t 84), none, false, []⟩]) (.seq (.region false [
⟨some 85, .mv (.t 12), none, false, []⟩,
⟨some 86, .bin .neq (.t 85) (.c (.int .i64 0)), none, false, []⟩]) (.cond (.t 86) (.seq (.region false [
⟨some 87, .mv (.t 8), none, false, []⟩,
⟨some 88, .mv (.t 12), none, false, []⟩,
⟨some 2, .mv (.t 87), none, false, []⟩,
⟨some 3, .mv (.t 88), none, false, []⟩]) .ret) .skip))) (.region false [
⟨some 89, .mv (.t 7), none, false, []⟩,
⟨some 90, .faddr 0 (.t 9), none, false, []⟩,
⟨some 91, .load 1 false (.t 90), none, false, []⟩,
⟨none, .mupd true (.t 89) (.t 91) (.c (.bool true)), none, false, []⟩])))))) (.region false [
⟨some 92, .bin .add (.t 51) (.c (.int .i64 1)), none, false, []⟩,
⟨some 51, .mv (.t 92), none, false, []⟩]))))
def a16l0 : ACode := .loop [1, 7, 49, 50, 51] [1, 2, 3] a16l0b
def a16l1b : ACode := (.seq (.region false [
⟨some 99, .bin .lss (.t 98) (.t 97), none, false, []⟩]) (.seq (.cond (.t 99) .skip (.exit 2)) (.seq (.block 3 (.seq (.region false [
⟨some 100, .mv (.t 98), none, false, []⟩,
⟨some 101, .iaddr 6 (.t 96) (.t 98), none, false, []⟩,
⟨some 102, .load 6 true (.t 101), none, false, []⟩,
⟨some 16, .alloc 58 [.str ByteArray.empty, .int .i64 0, .int .i64 0, .int .i64 0, .bool false, .bool false], none, false, []⟩,
⟨some 15, .mv (.t 100), none, false, []⟩,
⟨none, .store 6 (.t 16) (.t 102), none, false, []⟩]) (.seq (.region true [
⟨some 103, .faddr 0 (.t 16), none, false, []⟩,
⟨some 104, .load 1 false (.t 103), none, false, []⟩,
⟨some 105, .call 75 [(.t 104)], none, true, []⟩,
⟨some 106, .call 72 [(.t 105), (.c (.int .i64 4))], none, true, []⟩,
⟨some 107, .mv (.t 14), none, false, []⟩,
⟨some 108, .faddr 0 (.t 16), none, false, []⟩,
⟨some 109, .load 1 false (.t 108), none, true, [2, 3]⟩,
⟨some 110, .look true (.bool false) (.t 107) (.t 109) false, none, true, [2, 3]⟩,
⟨some 111, .un .not (.t 110), none, false, []⟩,
⟨some 112, .call 72 [(.t 111), (.c (.int .i64 5))], none, true, []⟩,
⟨some 113, .mv (.t 13), none, false, []⟩,
⟨some 114, .faddr 1 (.t 16), none, false, []⟩,
⟨some 115, .load 1 false (.t 114), none, true, [2, 3, 9]⟩,
⟨some 116, .callv (.t 113) [(.t 115)], none, true, []⟩,
⟨some 117, .mv (.t 116), none, false, []⟩,
⟨some 118, .mv (.t 13), some (117, true), false, []⟩,
⟨some 119, .faddr 2 (.t 16), some (117, true), false, []⟩,
⟨some 120, .load 1 false (.t 119), some (117, true), false, []⟩,
⟨some 121, .callv (.t 118) [(.t 120)], some (117, true), true, []⟩,
⟨some 122, .pick (.t 117) (.t 121) (.c (.bool false)), none, false, []⟩,
⟨some 123, .call 72 [(.t 122), (.c (.int .i64 6))], none, true, []⟩,
⟨some 124, .faddr 1 (.t 16), none, false, []⟩,
⟨some 125, .load 1 false (.t 124), none, true, [2, 3, 9, 13, 18, 20]⟩,
⟨some 126, .faddr 2 (.t 16), none, false, []⟩,
⟨some 127, .load 1 false (.t 126), none, true, [2, 3, 9, 13, 18, 20]⟩,
⟨some 128, .bin .neq (.t 125) (.t 127), none, false, []⟩,
⟨some 129, .call 72 [(.t 128), (.c (.int .i64 13))], none, true, []⟩,
⟨some 130, .faddr 3 (.t 16), none, false, []⟩,
⟨some 131, .load 1 false (.t 130), none, true, [2, 3, 9, 13, 18, 20, 26]⟩,
⟨some 132, .call 74 [(.t 131), (.c (.int .i64 0)), (.c (.int .i64 1000))], none, true, []⟩,
⟨some 133, .call 72 [(.t 132), (.c (.int .i64 2))], none, true, []⟩,
⟨some 134, .faddr 4 (.t 16), none, false, []⟩,
⟨some 135, .load 1 false (.t 134), none, true, [2, 3, 9, 13, 18, 20, 26, 29, 30]⟩,
⟨some 136, .mv (.t 135), none, false, []⟩,
⟨some 137, .faddr 5 (.t 16), some (136, false), false, []⟩,
⟨some 138, .load 1 false (.t 137), some (136, false), false, []⟩,
⟨some 139, .pick (.t 136) (.c (.bool true)) (.t 138), none, false, []⟩,
⟨some 140, .call 72 [(.t 139), (.c (.int .i64 3))], none, false, []⟩,
⟨some 141, .bslice 28 1 6 [.int .i64 0] [(0, (.t 106)), (1, (.t 112)), (2, (.t 123)), (3, (.t 129)), (4, (.t 133)), (5, (.t 140))], none, false, []⟩,
⟨some 142, .call 71 [(.t 141)], none, false, []⟩,
⟨some 17, .mv (.t 142), none, false, []⟩]) (.seq (.seq (.region false [
⟨some 143, .mv (.t 17), none, false, []⟩,
⟨some 144, .bin .neq (.t 143) (.c (.int .i64 0)), none, false, []⟩]) (.cond (.t 144) (.seq (.region false [
⟨some 145, .mv (.t 15), none, false, []⟩,
⟨some 146, .mv (.t 17), none, false, []⟩,
⟨some 2, .mv (.t 145), none, false, []⟩,
⟨some 3, .mv (.t 146), none, false, []⟩]) .ret) .skip)) (.region false [
⟨some 147, .mv (.t 14), none, false, []⟩,
⟨some 148, .faddr 0 (.t 16), none, false, []⟩,
⟨some 149, .load 1 false (.t 148), none, false, []⟩,
⟨none, .mupd true (.t 147) (.t 149) (.c (.bool true)), none, false, []⟩]))))) (.region false [
⟨some 150, .bin .add (.t 98) (.c (.int .i64 1)), none, false, []⟩,
⟨some 98, .mv (.t 150), none, false, []⟩]))))
def a16l1 : ACode := .loop [13, 14, 96, 97, 98] [2, 3] a16l1b
def a16 : AFunc := ⟨151, [.tmp 2, .tmp 3], (.seq (.region false [
⟨some 1, .box 25 (.t 0), none, false, []⟩,
⟨some 2, .mv (.c (.int .i64 0)), none, false, []⟩,
⟨some 3, .mv (.c (.int .i64 0)), none, false, []⟩]) (.seq (.region false [
⟨some 18, .faddr 0 (.t 1), none, false, []⟩,
⟨some 19, .load 1 false (.t 18), none, false, []⟩,
⟨some 20, .len false (.t 19), none, false, []⟩,
⟨some 21, .bin .gtr (.t 20) (.c (.int .i64 0)), none, false, []⟩,
⟨some 22, .mv (.t 21), none, false, []⟩,
⟨some 23, .faddr 1 (.t 1), some (22, true), false, []⟩,
⟨some 24, .load 1 false (.t 23), some (22, true), false, []⟩,
⟨some 25, .len false (.t 24), some (22, true), false, []⟩,
⟨some 26, .bin .gtr (.t 25) (.c (.int .i64 0)), some (22, true), false, []⟩,
⟨some 27, .pick (.t 22) (.t 26) (.c (.bool false)), none, false, []⟩,
⟨some 4, .mv (.t 27), none, false, []⟩]) (.seq (.region false [
⟨some 28, .faddr 0 (.t 1), none, false, []⟩,
⟨some 29, .load 1 false (.t 28), none, false, []⟩,
⟨some 30, .len false (.t 29), none, false, []⟩,
⟨some 31, .bin .leq (.t 30) (.c (.int .i64 10)), none, false, []⟩,
⟨some 32, .mv (.t 31), none, false, []⟩,
⟨some 33, .faddr 1 (.t 1), some (32, true), false, []⟩,
⟨some 34, .load 1 false (.t 33), some (32, true), false, []⟩,
⟨some 35, .len false (.t 34), some (32, true), false, []⟩,
⟨some 36, .bin .leq (.t 35) (.c (.int .i64 14)), some (32, true), false, []⟩,
⟨some 37, .pick (.t 32) (.t 36) (.c (.bool false)), none, false, []⟩,
⟨some 5, .mv (.t 37), none, false, []⟩]) (.seq (.seq (.region false [
⟨some 38, .mv (.t 4), none, false, []⟩,
⟨some 39, .call 72 [(.t 38), (.c (.int .i64 10))], none, false, []⟩,
⟨some 40, .mv (.t 5), none, false, []⟩,
⟨some 41, .call 72 [(.t 40), (.c (.int .i64 8))], none, false, []⟩,
⟨some 42, .bslice 28 1 2 [.int .i64 0] [(0, (.t 39)), (1, (.t 41))], none, false, []⟩,
⟨some 43, .call 71 [(.t 42)], none, false, []⟩,
⟨some 6, .mv (.t 43), none, false, []⟩]) (.seq (.region false [
⟨some 44, .mv (.t 6), none, false, []⟩,
⟨some 45, .bin .neq (.t 44) (.c (.int .i64 0)), none, false, []⟩]) (.cond (.t 45) (.seq (.region false [
⟨some 46, .mv (.t 6), none, false, []⟩,
⟨some 2, .mv (.c (.int .i64 0)), none, false, []⟩,
⟨some 3, .mv (.t 46), none, false, []⟩]) .ret) .skip))) (.seq (.region false [
⟨some 47, .mkmap, none, false, []⟩,
⟨some 7, .mv (.t 47), none, false, []⟩]) (.seq (.seq (.region false [
⟨some 48, .faddr 0 (.t 1), none, false, []⟩,
⟨some 49, .load 1 false (.t 48), none, false, []⟩,
⟨some 50, .len false (.t 49), none, false, []⟩,
⟨some 51, .mv (.c (.int .i64 0)), none, false, []⟩]) (.block 0 a16l0)) (.seq (.region false [
⟨some 93, .mkf 76 [] [(.t 1)], none, false, []⟩,
⟨some 13, .mv (.t 93), none, false, []⟩]) (.seq (.region false [
⟨some 94, .mkmap, none, false, []⟩,
⟨some 14, .mv (.t 94), none, false, []⟩]) (.seq (.seq (.region false [
⟨some 95, .faddr 1 (.t 1), none, false, []⟩,
⟨some 96, .load 1 false (.t 95), none, false, []⟩,
⟨some 97, .len false (.t 96), none, false, []⟩,
⟨some 98, .mv (.c (.int .i64 0)), none, false, []⟩]) (.block 2 a16l1)) (.seq (.region false [
⟨some 2, .mv (.c (.int .i64 0)), none, false, []⟩,
⟨some 3, .mv (.c (.int .i64 0)), none, false, []⟩]) .ret))))))))))⟩
def a17 : AFunc := ⟨12, [.cell 2 2 true], (.seq (.region false [
⟨some 1, .box 25 (.t 0), none, false, []⟩,
⟨some 2, .nalloc [4, 6] 25 [.nilSlice, .nilSlice], none, false, []⟩]) (.seq (.region true [
⟨some 3, .bslice 64 4 0 [.str ByteArray.empty, .bool false, .int .i64 0, .int .i64 0] [], none, true, []⟩,
⟨some 4, .faddr 0 (.t 1), none, false, []⟩,
⟨some 5, .load 1 false (.t 4), none, true, [0]⟩,
⟨some 6, .app 64 4 40 [.str ByteArray.empty, .bool false, .int .i64 0, .int .i64 0] (.t 3) (.t 5), none, true, []⟩,
⟨some 7, .bslice 58 6 0 [.str ByteArray.empty, .int .i64 0, .int .i64 0, .int .i64 0, .bool false, .bool false] [], none, true, [0, 3]⟩,
⟨some 8, .faddr 1 (.t 1), none, false, []⟩,
⟨some 9, .load 1 false (.t 8), none, true, [0, 3, 4]⟩,
⟨some 10, .app 58 6 48 [.str ByteArray.empty, .int .i64 0, .int .i64 0, .int .i64 0, .bool false, .bool false] (.t 7) (.t 9), none, false, []⟩,
⟨some 11, .build [.nilSlice, .nilSlice] [(0, 1, (.t 6)), (1, 1, (.t 10))], none, false, []⟩,
⟨none, .store 2 (.t 2) (.t 11), none, false, []⟩]) .ret))⟩
def a19l0b : ACode := (.seq (.seq (.region false [
⟨some 29, .mv (.t 5), none, false, []⟩,
⟨some 30, .faddr 0 (.t 1), none, false, []⟩,
⟨some 31, .load 1 false (.t 30), none, false, []⟩,
⟨some 32, .len false (.t 31), none, false, []⟩,
⟨some 33, .bin .lss (.t 29) (.t 32), none, false, []⟩]) (.cond (.t 33) .skip (.exit 0))) (.seq (.block 1 (.seq (.seq (.region false [
⟨some 36, .faddr 0 (.t 1), none, false, []⟩,
⟨some 37, .load 1 false (.t 36), none, false, []⟩,
⟨some 38, .mv (.t 5), none, false, []⟩,
⟨some 39, .iaddr 4 (.t 37) (.t 38), none, false, []⟩,
⟨some 40, .load 4 true (.t 39), none, false, []⟩,
⟨some 41, .mv (.t 4), none, false, []⟩,
⟨some 42, .call 78 [(.t 40), (.t 41)], none, false, []⟩,
⟨some 6, .mv (.t 42), none, false, []⟩]) (.seq (.region false [
⟨some 43, .mv (.t 6), none, false, []⟩,
⟨some 44, .bin .neq (.t 43) (.c (.int .i64 0)), none, false, []⟩]) (.cond (.t 44) (.seq (.region false [
⟨some 45, .mv (.t 5), none, false, []⟩,
⟨some 46, .mv (.t 6), none, false, []⟩,
⟨some 2, .mv (.t 45), none, false, []⟩,
⟨some 3, .mv (.t 46), none, false, []⟩]) .ret) .skip))) (.region false [
⟨some 47, .mv (.t 4), none, false, []⟩,
⟨some 48, .faddr 0 (.t 1), none, false, []⟩,
⟨some 49, .load 1 false (.t 48), none, false, []⟩,
⟨some 50, .mv (.t 5), none, false, []⟩,
⟨some 51, .iaddr 4 (.t 49) (.t 50), none, false, []⟩,
⟨some 52, .faddr 0 (.t 51), none, false, []⟩,
⟨some 53, .load 1 false (.t 52), none, false, []⟩,
⟨some 54, .bslice 9 1 1 [.str ByteArray.empty] [(0, (.t 53))], none, false, []⟩,
⟨some 55, .app 9 1 16 [.str ByteArray.empty] (.t 47) (.t 54), none, false, []⟩,
⟨some 4, .mv (.t 55), none, false, []⟩]))) (.region false [
⟨some 34, .mv (.t 5), none, false, []⟩,
⟨some 35, .bin .add (.t 34) (.c (.int .i64 1)), none, false, []⟩,
⟨some 5, .mv (.t 35), none, false, []⟩])))
def a19l0 : ACode := .loop [1, 4, 5] [1, 2, 3] a19l0b
def a19l1b : ACode := (.seq (.seq (.region false [
⟨some 56, .mv (.t 7), none, false, []⟩,
⟨some 57, .faddr 1 (.t 1), none, false, []⟩,
⟨some 58, .load 1 false (.t 57), none, false, []⟩,
⟨some 59, .len false (.t 58), none, false, []⟩,
⟨some 60, .bin .lss (.t 56) (.t 59), none, false, []⟩]) (.cond (.t 60) .skip (.exit 2))) (.seq (.block 3 (.seq (.seq (.region true [
⟨some 63, .load 2 true (.t 1), none, false, []⟩,
⟨some 64, .faddr 1 (.t 1), none, false, []⟩,
⟨some 65, .load 1 false (.t 64), none, false, []⟩,
⟨some 66, .mv (.t 7), none, false, []⟩,
⟨some 67, .iaddr 6 (.t 65) (.t 66), none, false, []⟩,
⟨some 68, .load 6 true (.t 67), none, false, []⟩,
⟨some 69, .mv (.t 4), none, false, []⟩,
⟨some 70, .call 79 [(.t 63), (.t 68), (.t 69)], none, false, []⟩,
⟨some 8, .mv (.t 70), none, false, []⟩]) (.seq (.region false [
⟨some 71, .mv (.t 8), none, false, []⟩,
⟨some 72, .bin .neq (.t 71) (.c (.int .i64 0)), none, false, []⟩]) (.cond (.t 72) (.seq (.region false [
⟨some 73, .mv (.t 7), none, false, []⟩,
⟨some 74, .mv (.t 8), none, false, []⟩,
⟨some 2, .mv (.t 73), none, false, []⟩,
⟨some 3, .mv (.t 74), none, false, []⟩]) .ret) .skip))) (.region false [
⟨some 75, .mv (.t 4), none, false, []⟩,
⟨some 76, .faddr 1 (.t 1), none, false, []⟩,
⟨some 77, .load 1 false (.t 76), none, false, []⟩,
⟨some 78, .mv (.t 7), none, false, []⟩,
⟨some 79, .iaddr 6 (.t 77) (.t 78), none, false, []⟩,
⟨some 80, .faddr 0 (.t 79), none, false, []⟩,
⟨some 81, .load 1 false (.t 80), none, false, []⟩,
⟨some 82, .bslice 9 1 1 [.str ByteArray.empty] [(0, (.t 81))], none, false, []⟩,
⟨some 83, .app 9 1 16 [.str ByteArray.empty] (.t 75) (.t 82), none, false, []⟩,
⟨some 4, .mv (.t 83), none, false, []⟩]))) (.region false [
⟨some 61, .mv (.t 7), none, false, []⟩,
⟨some 62, .bin .add (.t 61) (.c (.int .i64 1)), none, false, []⟩,
⟨some 7, .mv (.t 62), none, false, []⟩])))
def a19l1 : ACode := .loop [1, 4, 7] [2, 3] a19l1b
def a19 : AFunc := ⟨84, [.tmp 2, .tmp 3], (.seq (.region false [
⟨some 1, .box 25 (.t 0), none, false, []⟩,
⟨some 2, .mv (.c (.int .i64 0)), none, false, []⟩,
⟨some 3, .mv (.c (.int .i64 0)), none, false, []⟩]) (.seq (.seq (.region false [
⟨some 9, .faddr 0 (.t 1), none, false, []⟩,
⟨some 10, .load 1 false (.t 9), none, false, []⟩,
⟨some 11, .len false (.t 10), none, false, []⟩,
⟨some 12, .bin .eql (.t 11) (.c (.int .i64 0)), none, false, []⟩,
⟨some 13, .mv (.t 12), none, false, []⟩,
⟨some 14, .faddr 1 (.t 1), some (13, false), false, []⟩,
⟨some 15, .load 1 false (.t 14), some (13, false), false, []⟩,
⟨some 16, .len false (.t 15), some (13, false), false, []⟩,
⟨some 17, .bin .eql (.t 16) (.c (.int .i64 0)), some (13, false), false, []⟩,
⟨some 18, .pick (.t 13) (.c (.bool true)) (.t 17), none, false, []⟩]) (.cond (.t 18) (.seq (.region false [
⟨some 2, .mv (.c (.int .i64 0)), none, false, []⟩,
⟨some 3, .mv (.c (.int .i64 10)), none, false, []⟩]) .ret) .skip)) (.seq (.seq (.region false [
⟨some 19, .faddr 0 (.t 1), none, false, []⟩,
⟨some 20, .load 1 false (.t 19), none, false, []⟩,
⟨some 21, .len false (.t 20), none, false, []⟩,
⟨some 22, .bin .gtr (.t 21) (.c (.int .i64 10)), none, false, []⟩,
⟨some 23, .mv (.t 22), none, false, []⟩,
⟨some 24, .faddr 1 (.t 1), some (23, false), false, []⟩,
⟨some 25, .load 1 false (.t 24), some (23, false), false, []⟩,
⟨some 26, .len false (.t 25), some (23, false), false, []⟩,
⟨some 27, .bin .gtr (.t 26) (.c (.int .i64 14)), some (23, false), false, []⟩,
⟨some 28, .pick (.t 23) (.c (.bool true)) (.t 27), none, false, []⟩]) (.cond (.t 28) (.seq (.region false [
⟨some 2, .mv (.c (.int .i64 0)), none, false, []⟩,
⟨some 3, .mv (.c (.int .i64 8)), none, false, []⟩]) .ret) .skip)) (.seq (.region false [
⟨some 4, .nils 1 (.c (.nilSlice)), none, false, []⟩]) (.seq (.seq (.region false [
⟨some 5, .mv (.c (.int .i64 0)), none, false, []⟩]) (.block 0 a19l0)) (.seq (.region false [
⟨some 4, .nils 1 (.c (.nilSlice)), none, false, []⟩]) (.seq (.seq (.region false [
⟨some 7, .mv (.c (.int .i64 0)), none, false, []⟩]) (.block 2 a19l1)) (.seq (.region false [
⟨some 2, .mv (.c (.int .i64 0)), none, false, []⟩,
⟨some 3, .mv (.c (.int .i64 0)), none, false, []⟩]) .ret))))))))⟩
def a20 : AFunc := ⟨15, [.tmp 6], (.seq (.region false [
⟨some 6, .mv (.c (.bool false)), none, false, []⟩]) (.seq (.region false [
⟨some 7, .mv (.t 1), none, false, []⟩,
⟨some 8, .mv (.t 0), none, false, []⟩,
⟨some 9, .bin .leq (.t 7) (.t 8), none, false, []⟩,
⟨some 10, .mv (.t 9), none, false, []⟩,
⟨some 11, .mv (.t 0), some (10, true), false, []⟩,
⟨some 12, .mv (.t 2), some (10, true), false, []⟩,
⟨some 13, .bin .leq (.t 11) (.t 12), some (10, true), false, []⟩,
⟨some 14, .pick (.t 10) (.t 13) (.c (.bool false)), none, false, []⟩,
⟨some 6, .mv (.t 14), none, false, []⟩]) .ret))⟩
def a21 : AFunc := ⟨6, [.tmp 2], (.seq (.region false [
⟨some 2, .mv (.c (.int .i64 0)), none, false, []⟩]) (.seq (.seq (.region false [
⟨some 3, .mv (.t 0), none, false, []⟩,
⟨some 4, .call 20 [(.t 3), (.c (.int .i64 (-200000))), (.c (.int .i64 200000))], none, false, []⟩,
⟨some 5, .un .not (.t 4), none, false, []⟩]) (.cond (.t 5) (.seq (.region false [
⟨some 2, .mv (.c (.int .i64 2)), none, false, []⟩]) .ret) .skip)) (.seq (.region false [
⟨some 2, .mv (.c (.int .i64 0)), none, false, []⟩]) .ret)))⟩
def a28 : AFunc := ⟨31, [.cell 4 2 true, .tmp 5], (.seq (.region false [
⟨some 2, .box 39 (.t 0), none, false, []⟩,
⟨some 3, .box 3 (.t 1), none, false, []⟩,
⟨some 4, .alloc 43 [.int .i64 0, .int .i64 0], none, false, []⟩,
⟨some 5, .mv (.c (.int .i64 0)), none, false, []⟩]) (.seq (.seq (.region true [
⟨some 9, .load 1 false (.t 2), none, false, []⟩,
⟨some 10, .call 80 [(.t 9)], none, true, []⟩,
⟨some 11, .load 1 false (.t 3), none, true, [1]⟩,
⟨some 12, .call 74 [(.t 11), (.c (.int .i64 0)), (.c (.int .i64 10000))], none, false, []⟩,
⟨some 13, .call 72 [(.t 12), (.c (.int .i64 2))], none, false, []⟩,
⟨some 14, .bslice 28 1 2 [.int .i64 0] [(0, (.t 10)), (1, (.t 13))], none, false, []⟩,
⟨some 15, .call 71 [(.t 14)], none, false, []⟩,
⟨some 6, .mv (.t 15), none, false, []⟩]) (.seq (.region false [
⟨some 16, .mv (.t 6), none, false, []⟩,
⟨some 17, .bin .neq (.t 16) (.c (.int .i64 0)), none, false, []⟩]) (.cond (.t 17) (.seq (.region false [
⟨some 18, .build [.int .i64 0, .int .i64 0] [], none, false, []⟩,
⟨some 19, .mv (.t 6), none, false, []⟩,
⟨none, .store 2 (.t 4) (.t 18), none, false, []⟩,
⟨some 5, .mv (.t 19), none, false, []⟩]) .ret) .skip))) (.seq (.region false [
⟨some 20, .mkf 85 [] [(.t 2), (.t 3)], none, false, []⟩,
⟨some 21, .call 84 [(.c (.int .i64 0)), (.c (.int .i64 1000000001)), (.t 20)], none, false, []⟩,
⟨some 7, .mv (.t 21), none, false, []⟩]) (.seq (.region false [
⟨some 22, .mv (.t 7), none, false, []⟩,
⟨some 23, .mkf 86 [] [(.t 2), (.t 3)], none, false, []⟩,
⟨some 24, .call 84 [(.t 22), (.c (.int .i64 1000000001)), (.t 23)], none, false, []⟩,
⟨some 8, .mv (.t 24), none, false, []⟩]) (.seq (.seq (.region false [
⟨some 25, .mv (.t 8), none, false, []⟩,
⟨some 26, .bin .gtr (.t 25) (.c (.int .i64 1000000000)), none, false, []⟩]) (.cond (.t 26) (.seq (.region false [
⟨some 27, .build [.int .i64 0, .int .i64 0] [], none, false, []⟩,
⟨none, .store 2 (.t 4) (.t 27), none, false, []⟩,
⟨some 5, .mv (.c (.int .i64 12)), none, false, []⟩]) .ret) .skip)) (.seq (.region false [
⟨some 28, .mv (.t 7), none, false, []⟩,
⟨some 29, .mv (.t 8), none, false, []⟩,
⟨some 30, .build [.int .i64 0, .int .i64 0] [(0, 1, (.t 28)), (1, 1, (.t 29))], none, false, []⟩,
⟨none, .store 2 (.t 4) (.t 30), none, false, []⟩,
⟨some 5, .mv (.c (.int .i64 0)), none, false, []⟩]) .ret))))))⟩
def a31l0b : ACode := (.seq (.region false [
⟨some 48, .bin .lss (.t 47) (.t 46), none, false, []⟩]) (.seq (.cond (.t 48) .skip (.exit 0)) (.seq (.block 1 (.seq (.region false [
⟨some 49, .mv (.t 47), none, false, []⟩,
⟨some 10, .mv (.t 49), none, false, []⟩]) (.region false [
⟨some 50, .mv (.t 9), none, false, []⟩,
⟨some 51, .mv (.t 10), none, false, []⟩,
⟨some 52, .mv (.t 9), none, false, []⟩,
⟨some 53, .mv (.t 10), none, false, []⟩,
⟨some 54, .iaddr 1 (.t 52) (.t 53), none, false, []⟩,
⟨some 55, .load 1 false (.t 54), none, false, []⟩,
⟨some 56, .mv (.t 55), none, false, []⟩,
⟨some 57, .mv (.t 8), some (56, true), false, []⟩,
⟨some 58, .mv (.t 10), some (56, true), false, []⟩,
⟨some 59, .iaddr 1 (.t 57) (.t 58), some (56, true), false, []⟩,
⟨some 60, .load 1 false (.t 59), some (56, true), false, []⟩,
⟨some 61, .un .not (.t 60), some (56, true), false, []⟩,
⟨some 62, .pick (.t 56) (.t 61) (.c (.bool false)), none, false, []⟩,
⟨some 63, .iaddr 1 (.t 50) (.t 51), none, false, []⟩,
⟨none, .store 1 (.t 63) (.t 62), none, false, []⟩]))) (.region false [
⟨some 64, .bin .add (.t 47) (.c (.int .i64 1)), none, false, []⟩,
⟨some 47, .mv (.t 64), none, false, []⟩]))))
def a31l0 : ACode := .loop [8, 9, 46, 47] [4, 5, 9] a31l0b
def a31 : AFunc := ⟨67, [.tmp 4, .tmp 5], (.seq (.region false [
⟨some 2, .box 25 (.t 0), none, false, []⟩,
⟨some 4, .nils 1 (.c (.nilSlice)), none, false, []⟩,
⟨some 5, .mv (.c (.int .i64 0)), none, false, []⟩]) (.seq (.region false [
⟨some 12, .load 2 true (.t 2), none, false, []⟩,
⟨some 13, .call 87 [(.t 12)], none, false, []⟩,
⟨some 11, .mv (.t 13), none, false, []⟩,
⟨some 14, .ext (.t 11) 0, none, false, []⟩,
⟨some 15, .ext (.t 11) 1, none, false, []⟩,
⟨some 6, .nalloc [4, 6] 120 [.nilSlice, .nilSlice], none, false, []⟩,
⟨none, .store 2 (.t 6) (.t 14), none, false, []⟩,
⟨some 7, .mv (.t 15), none, false, []⟩]) (.seq (.seq (.region false [
⟨some 16, .mv (.t 7), none, false, []⟩,
⟨some 17, .mv (.t 1), none, false, []⟩,
⟨some 18, .faddr 1 (.t 2), none, false, []⟩,
⟨some 19, .load 1 false (.t 18), none, false, []⟩,
⟨some 20, .len false (.t 19), none, false, []⟩,
⟨some 21, .bin .sub (.t 20) (.c (.int .i64 1)), none, false, []⟩,
⟨some 22, .call 74 [(.t 17), (.c (.int .i64 0)), (.t 21)], none, false, []⟩,
⟨some 23, .call 72 [(.t 22), (.c (.int .i64 6))], none, false, []⟩,
⟨some 24, .bslice 28 1 2 [.int .i64 0] [(0, (.t 16)), (1, (.t 23))], none, false, []⟩,
⟨some 25, .call 71 [(.t 24)], none, false, []⟩,
⟨some 7, .mv (.t 25), none, false, []⟩]) (.seq (.region false [
⟨some 26, .mv (.t 7), none, false, []⟩,
⟨some 27, .bin .neq (.t 26) (.c (.int .i64 0)), none, false, []⟩]) (.cond (.t 27) (.seq (.region false [
⟨some 28, .mv (.t 7), none, false, []⟩,
⟨some 4, .nils 1 (.c (.nilSlice)), none, false, []⟩,
⟨some 5, .mv (.t 28), none, false, []⟩]) .ret) .skip))) (.seq (.seq (.region false [
⟨some 29, .faddr 0 (.t 6), none, false, []⟩,
⟨some 30, .faddr 1 (.t 29), none, false, []⟩,
⟨some 31, .load 1 false (.t 30), none, false, []⟩,
⟨some 32, .mv (.t 1), none, false, []⟩,
⟨some 33, .iaddr 6 (.t 31) (.t 32), none, false, []⟩,
⟨some 34, .faddr 4 (.t 33), none, false, []⟩,
⟨some 35, .load 1 false (.t 34), none, false, []⟩,
⟨some 36, .un .not (.t 35), none, false, []⟩]) (.cond (.t 36) (.seq (.region false [
⟨some 4, .nils 1 (.c (.nilSlice)), none, false, []⟩,
⟨some 5, .mv (.c (.int .i64 12)), none, false, []⟩]) .ret) .skip)) (.seq (.region false [
⟨some 37, .load 2 true (.t 6), none, false, []⟩,
⟨some 38, .mv (.t 1), none, false, []⟩,
⟨some 39, .call 93 [(.t 37), (.t 38), (.c (.bool false))], none, false, []⟩,
⟨some 40, .call 92 [(.t 39)], none, false, []⟩,
⟨some 8, .mv (.t 40), none, false, []⟩]) (.seq (.region false [
⟨some 41, .load 2 true (.t 6), none, false, []⟩,
⟨some 42, .mv (.t 1), none, false, []⟩,
⟨some 43, .call 93 [(.t 41), (.t 42), (.c (.bool true))], none, false, []⟩,
⟨some 44, .call 92 [(.t 43)], none, false, []⟩,
⟨some 9, .mv (.t 44), none, false, []⟩]) (.seq (.seq (.region false [
⟨some 45, .mv (.t 9), none, false, []⟩,
⟨some 46, .len false (.t 45), none, false, []⟩,
⟨some 47, .mv (.c (.int .i64 0)), none, false, []⟩]) (.block 0 a31l0)) (.seq (.region false [
⟨some 65, .mv (.t 9), none, false, []⟩,
⟨some 66, .call 89 [(.t 65)], none, false, []⟩,
⟨some 4, .mv (.t 66), none, false, []⟩,
⟨some 5, .mv (.c (.int .i64 0)), none, false, []⟩]) .ret))))))))⟩
def a32 : AFunc := ⟨11, [.tmp 2], (.seq (.region false [
⟨some 1, .box 25 (.t 0), none, false, []⟩,
⟨some 2, .mv (.c (.int .i64 0)), none, false, []⟩]) (.seq (.region false [
⟨some 6, .load 2 true (.t 1), none, false, []⟩,
⟨some 7, .call 19 [(.t 6)], none, false, []⟩,
⟨some 5, .mv (.t 7), none, false, []⟩,
⟨some 8, .ext (.t 5) 0, none, false, []⟩,
⟨some 9, .ext (.t 5) 1, none, false, []⟩,
⟨some 3, .mv (.t 8), none, false, []⟩,
⟨some 4, .mv (.t 9), none, false, []⟩]) (.seq (.region false [
⟨some 10, .mv (.t 4), none, false, []⟩,
⟨some 2, .mv (.t 10), none, false, []⟩]) .ret)))⟩
def a34l0b : ACode := (.seq (.seq (.region false [
⟨some 11, .mv (.t 5), none, false, []⟩,
⟨some 12, .mv (.t 0), none, false, []⟩,
⟨some 13, .len false (.t 12), none, false, []⟩,
⟨some 14, .bin .lss (.t 11) (.t 13), none, false, []⟩]) (.cond (.t 14) .skip (.exit 0))) (.seq (.block 1 (.seq (.region true [
⟨some 17, .mv (.t 0), none, false, []⟩,
⟨some 18, .mv (.t 5), none, false, []⟩,
⟨some 19, .iaddr 1 (.t 17) (.t 18), none, false, []⟩,
⟨some 20, .load 1 false (.t 19), none, false, []⟩,
⟨some 21, .mv (.t 1), none, false, []⟩,
⟨some 22, .mv (.t 5), none, false, []⟩,
⟨some 23, .iaddr 1 (.t 21) (.t 22), none, false, []⟩,
⟨some 24, .load 1 false (.t 23), none, false, []⟩,
⟨some 25, .bin .neq (.t 20) (.t 24), none, false, []⟩]) (.cond (.t 25) (.seq (.region false [
⟨some 4, .mv (.c (.bool false)), none, false, []⟩]) .ret) .skip))) (.region false [
⟨some 15, .mv (.t 5), none, false, []⟩,
⟨some 16, .bin .add (.t 15) (.c (.int .i64 1)), none, false, []⟩,
⟨some 5, .mv (.t 16), none, false, []⟩])))
def a34l0 : ACode := .loop [0, 1, 5] [4] a34l0b
def a34 : AFunc := ⟨26, [.tmp 4], (.seq (.region false [
⟨some 4, .mv (.c (.bool false)), none, false, []⟩]) (.seq (.seq (.region false [
⟨some 6, .mv (.t 0), none, false, []⟩,
⟨some 7, .len false (.t 6), none, false, []⟩,
⟨some 8, .mv (.t 1), none, false, []⟩,
⟨some 9, .len false (.t 8), none, false, []⟩,
⟨some 10, .bin .neq (.t 7) (.t 9), none, false, []⟩]) (.cond (.t 10) (.seq (.region false [
⟨some 4, .mv (.c (.bool false)), none, false, []⟩]) .ret) .skip)) (.seq (.seq (.region false [
⟨some 5, .mv (.c (.int .i64 0)), none, false, []⟩]) (.block 0 a34l0)) (.seq (.region false [
⟨some 4, .mv (.c (.bool true)), none, false, []⟩]) .ret))))⟩
def a38 : AFunc := ⟨17, [.tmp 2], (.seq (.region false [
⟨some 1, .box 25 (.t 0), none, false, []⟩,
⟨some 2, .mv (.c (.int .i64 0)), none, false, []⟩]) (.seq (.seq (.region false [
⟨some 6, .load 2 true (.t 1), none, false, []⟩,
⟨some 7, .call 32 [(.t 6)], none, false, []⟩,
⟨some 3, .mv (.t 7), none, false, []⟩]) (.seq (.region false [
⟨some 8, .mv (.t 3), none, false, []⟩,
⟨some 9, .bin .neq (.t 8) (.c (.int .i64 0)), none, false, []⟩]) (.cond (.t 9) (.seq (.region false [
⟨some 10, .mv (.t 3), none, false, []⟩,
⟨some 2, .mv (.t 10), none, false, []⟩]) .ret) .skip))) (.seq (.region false [
⟨some 12, .load 2 true (.t 1), none, false, []⟩,
⟨some 13, .call 97 [(.t 12)], none, false, []⟩,
⟨some 11, .mv (.t 13), none, false, []⟩,
⟨some 14, .ext (.t 11) 0, none, false, []⟩,
⟨some 15, .ext (.t 11) 1, none, false, []⟩,
⟨some 4, .mv (.t 14), none, false, []⟩,
⟨some 5, .mv (.t 15), none, false, []⟩]) (.seq (.region false [
⟨some 16, .mv (.t 5), none, false, []⟩,
⟨some 2, .mv (.t 16), none, false, []⟩]) .ret))))⟩
def a39 : AFunc := ⟨16, [.tmp 2, .tmp 3], (.seq (.region false [
⟨some 1, .box 25 (.t 0), none, false, []⟩,
⟨some 2, .mv (.c (.int .i64 0)), none, false, []⟩,
⟨some 3, .mv (.c (.int .i64 0)), none, false, []⟩]) (.seq (.region false [
⟨some 7, .load 2 true (.t 1), none, false, []⟩,
⟨some 8, .call 98 [(.t 7)], none, false, []⟩,
⟨some 6, .mv (.t 8), none, false, []⟩,
⟨some 9, .ext (.t 6) 0, none, false, []⟩,
⟨some 10, .ext (.t 6) 1, none, false, []⟩,
⟨some 4, .nalloc [4, 6, 2, 0] 132 [.nilSlice, .nilSlice, .nilSlice, .int .i64 0], none, false, []⟩,
⟨none, .store 4 (.t 4) (.t 9), none, false, []⟩,
⟨some 5, .mv (.t 10), none, false, []⟩]) (.seq (.seq (.region false [
⟨some 11, .mv (.t 5), none, false, []⟩,
⟨some 12, .bin .neq (.t 11) (.c (.int .i64 0)), none, false, []⟩]) (.cond (.t 12) (.seq (.region false [
⟨some 13, .mv (.t 5), none, false, []⟩,
⟨some 2, .mv (.c (.int .i64 0)), none, false, []⟩,
⟨some 3, .mv (.t 13), none, false, []⟩]) .ret) .skip)) (.seq (.region false [
⟨some 14, .faddr 3 (.t 4), none, false, []⟩,
⟨some 15, .load 1 false (.t 14), none, false, []⟩,
⟨some 2, .mv (.t 15), none, false, []⟩,
⟨some 3, .mv (.c (.int .i64 0)), none, false, []⟩]) .ret))))⟩
def a40 : AFunc := ⟨33, [.cell 4 2 true, .tmp 5], (.seq (.region false [
⟨some 2, .box 25 (.t 0), none, false, []⟩,
⟨some 4, .nalloc [1, 1] 60 [.nilSlice, .nilSlice], none, false, []⟩,
⟨some 5, .mv (.c (.int .i64 0)), none, false, []⟩]) (.seq (.region false [
⟨some 9, .load 2 true (.t 2), none, false, []⟩,
⟨some 10, .call 99 [(.t 9)], none, false, []⟩,
⟨some 8, .mv (.t 10), none, false, []⟩,
⟨some 11, .ext (.t 8) 0, none, false, []⟩,
⟨some 12, .ext (.t 8) 1, none, false, []⟩,
⟨some 6, .nalloc [4, 6, 2, 0] 132 [.nilSlice, .nilSlice, .nilSlice, .int .i64 0], none, false, []⟩,
⟨none, .store 4 (.t 6) (.t 11), none, false, []⟩,
⟨some 7, .mv (.t 12), none, false, []⟩]) (.seq (.seq (.region false [
⟨some 13, .mv (.t 7), none, false, []⟩,
⟨some 14, .mv (.t 1), none, false, []⟩,
⟨some 15, .call 100 [(.t 14)], none, false, []⟩,
⟨some 16, .mv (.t 1), none, false, []⟩,
⟨some 17, .bin .eql (.t 16) (.c (.int .i64 0)), none, false, []⟩,
⟨some 18, .mv (.t 17), none, false, []⟩,
⟨some 19, .faddr 3 (.t 6), some (18, false), false, []⟩,
⟨some 20, .load 1 false (.t 19), some (18, false), false, []⟩,
⟨some 21, .bin .geq (.t 20) (.c (.int .i64 0)), some (18, false), false, []⟩,
⟨some 22, .pick (.t 18) (.c (.bool true)) (.t 21), none, false, []⟩,
⟨some 23, .call 72 [(.t 22), (.c (.int .i64 3))], none, false, []⟩,
⟨some 24, .bslice 28 1 3 [.int .i64 0] [(0, (.t 13)), (1, (.t 15)), (2, (.t 23))], none, false, []⟩,
⟨some 25, .call 71 [(.t 24)], none, false, []⟩,
⟨some 7, .mv (.t 25), none, false, []⟩]) (.seq (.region false [
⟨some 26, .mv (.t 7), none, false, []⟩,
⟨some 27, .bin .neq (.t 26) (.c (.int .i64 0)), none, false, []⟩]) (.cond (.t 27) (.seq (.region false [
⟨some 28, .nbuild [1, 1] [.nilSlice, .nilSlice] [], none, false, []⟩,
⟨some 29, .mv (.t 7), none, false, []⟩,
⟨none, .store 2 (.t 4) (.t 28), none, false, []⟩,
⟨some 5, .mv (.t 29), none, false, []⟩]) .ret) .skip))) (.seq (.region false [
⟨some 30, .load 4 true (.t 6), none, false, []⟩,
⟨some 31, .mv (.t 1), none, false, []⟩,
⟨some 32, .call 101 [(.t 30), (.t 31)], none, false, []⟩,
⟨none, .store 2 (.t 4) (.t 32), none, false, []⟩,
⟨some 5, .mv (.c (.int .i64 0)), none, false, []⟩]) .ret))))⟩
def a41 : AFunc := ⟨7, [.tmp 2], (.seq (.region false [
⟨some 2, .mv (.c (.int .i64 0)), none, false, []⟩]) (.seq (.region false [
⟨some 3, .mv (.t 0), none, false, []⟩,
⟨some 4, .mv (.t 0), none, false, []⟩,
⟨some 5, .un .neg (.t 4), none, false, []⟩,
⟨some 6, .minmax true (.t 3) [(.t 5)], none, false, []⟩,
⟨some 2, .mv (.t 6), none, false, []⟩]) .ret))⟩
def a42 : AFunc := ⟨24, [.tmp 4, .tmp 5], (.seq (.region false [
⟨some 2, .box 25 (.t 0), none, false, []⟩,
⟨some 4, .mv (.c (.int .i64 0)), none, false, []⟩,
⟨some 5, .mv (.c (.int .i64 0)), none, false, []⟩]) (.seq (.region false [
⟨some 9, .load 2 true (.t 2), none, false, []⟩,
⟨some 10, .call 98 [(.t 9)], none, false, []⟩,
⟨some 8, .mv (.t 10), none, false, []⟩,
⟨some 11, .ext (.t 8) 0, none, false, []⟩,
⟨some 12, .ext (.t 8) 1, none, false, []⟩,
⟨some 6, .nalloc [4, 6, 2, 0] 132 [.nilSlice, .nilSlice, .nilSlice, .int .i64 0], none, false, []⟩,
⟨none, .store 4 (.t 6) (.t 11), none, false, []⟩,
⟨some 7, .mv (.t 12), none, false, []⟩]) (.seq (.seq (.region false [
⟨some 13, .mv (.t 7), none, false, []⟩,
⟨some 14, .mv (.t 1), none, false, []⟩,
⟨some 15, .call 100 [(.t 14)], none, false, []⟩,
⟨some 16, .bslice 28 1 2 [.int .i64 0] [(0, (.t 13)), (1, (.t 15))], none, false, []⟩,
⟨some 17, .call 71 [(.t 16)], none, false, []⟩,
⟨some 7, .mv (.t 17), none, false, []⟩]) (.seq (.region false [
⟨some 18, .mv (.t 7), none, false, []⟩,
⟨some 19, .bin .neq (.t 18) (.c (.int .i64 0)), none, false, []⟩]) (.cond (.t 19) (.seq (.region false [
⟨some 20, .mv (.t 7), none, false, []⟩,
⟨some 4, .mv (.c (.int .i64 0)), none, false, []⟩,
⟨some 5, .mv (.t 20), none, false, []⟩]) .ret) .skip))) (.seq (.region false [
⟨some 21, .load 4 true (.t 6), none, false, []⟩,
⟨some 22, .mv (.t 1), none, false, []⟩,
⟨some 23, .call 102 [(.t 21), (.t 22)], none, false, []⟩,
⟨some 4, .mv (.t 23), none, false, []⟩,
⟨some 5, .mv (.c (.int .i64 0)), none, false, []⟩]) .ret))))⟩
def a48 : AFunc := ⟨17, [.cell 2 2 true, .tmp 3], (.seq (.region false [
⟨some 1, .box 25 (.t 0), none, false, []⟩,
⟨some 2, .alloc 43 [.int .i64 0, .int .i64 0], none, false, []⟩,
⟨some 3, .mv (.c (.int .i64 0)), none, false, []⟩]) (.seq (.region false [
⟨some 7, .load 2 true (.t 1), none, false, []⟩,
⟨some 8, .call 106 [(.t 7)], none, false, []⟩,
⟨some 6, .mv (.t 8), none, false, []⟩,
⟨some 9, .ext (.t 6) 0, none, false, []⟩,
⟨some 10, .ext (.t 6) 1, none, false, []⟩,
⟨some 4, .nalloc [4, 6, 2, 0] 132 [.nilSlice, .nilSlice, .nilSlice, .int .i64 0], none, false, []⟩,
⟨none, .store 4 (.t 4) (.t 9), none, false, []⟩,
⟨some 5, .mv (.t 10), none, false, []⟩]) (.seq (.seq (.region false [
⟨some 11, .mv (.t 5), none, false, []⟩,
⟨some 12, .bin .neq (.t 11) (.c (.int .i64 0)), none, false, []⟩]) (.cond (.t 12) (.seq (.region false [
⟨some 13, .build [.int .i64 0, .int .i64 0] [], none, false, []⟩,
⟨some 14, .mv (.t 5), none, false, []⟩,
⟨none, .store 2 (.t 2) (.t 13), none, false, []⟩,
⟨some 3, .mv (.t 14), none, false, []⟩]) .ret) .skip)) (.seq (.region false [
⟨some 15, .load 4 true (.t 4), none, false, []⟩,
⟨some 16, .call 107 [(.t 15)], none, false, []⟩,
⟨none, .store 2 (.t 2) (.t 16), none, false, []⟩,
⟨some 3, .mv (.c (.int .i64 0)), none, false, []⟩]) .ret))))⟩
def a55 : AFunc := ⟨29, [.tmp 4, .tmp 5], (.seq (.region false [
⟨some 2, .box 25 (.t 0), none, false, []⟩,
⟨some 3, .box 87 (.t 1), none, false, []⟩,
⟨some 4, .nils 1 (.c (.nilSlice)), none, false, []⟩,
⟨some 5, .mv (.c (.int .i64 0)), none, false, []⟩]) (.seq (.region false [
⟨some 11, .load 2 true (.t 2), none, false, []⟩,
⟨some 12, .load 2 true (.t 3), none, false, []⟩,
⟨some 13, .call 115 [(.t 11), (.t 12)], none, false, []⟩,
⟨some 10, .mv (.t 13), none, false, []⟩,
⟨some 14, .ext (.t 10) 0, none, false, []⟩,
⟨some 15, .ext (.t 10) 1, none, false, []⟩,
⟨some 6, .nalloc [4, 6] 120 [.nilSlice, .nilSlice], none, false, []⟩,
⟨none, .store 2 (.t 6) (.t 14), none, false, []⟩,
⟨some 7, .mv (.t 15), none, false, []⟩]) (.seq (.seq (.region false [
⟨some 16, .mv (.t 7), none, false, []⟩,
⟨some 17, .bin .neq (.t 16) (.c (.int .i64 0)), none, false, []⟩]) (.cond (.t 17) (.seq (.region false [
⟨some 18, .mv (.t 7), none, false, []⟩,
⟨some 4, .nils 1 (.c (.nilSlice)), none, false, []⟩,
⟨some 5, .mv (.t 18), none, false, []⟩]) .ret) .skip)) (.seq (.region false [
⟨some 20, .load 2 true (.t 6), none, false, []⟩,
⟨some 21, .load 2 true (.t 3), none, false, []⟩,
⟨some 22, .call 116 [(.t 20), (.t 21)], none, false, []⟩,
⟨some 19, .mv (.t 22), none, false, []⟩,
⟨some 23, .ext (.t 19) 0, none, false, []⟩,
⟨some 24, .ext (.t 19) 1, none, false, []⟩,
⟨some 8, .mv (.t 23), none, false, []⟩,
⟨some 9, .mv (.t 24), none, false, []⟩]) (.seq (.seq (.region false [
⟨some 25, .mv (.t 9), none, false, []⟩,
⟨some 26, .un .not (.t 25), none, false, []⟩]) (.cond (.t 26) (.seq (.region false [
⟨some 4, .nils 1 (.c (.nilSlice)), none, false, []⟩,
⟨some 5, .mv (.c (.int .i64 12)), none, false, []⟩]) .ret) .skip)) (.seq (.region false [
⟨some 27, .mv (.t 8), none, false, []⟩,
⟨some 28, .call 117 [(.t 27)], none, false, []⟩,
⟨some 4, .mv (.t 28), none, false, []⟩,
⟨some 5, .mv (.c (.int .i64 0)), none, false, []⟩]) .ret))))))⟩
def a68l0b : ACode := (.seq (.seq (.region false [
⟨some 6, .mv (.t 5), none, false, []⟩,
⟨some 7, .mv (.t 0), none, false, []⟩,
⟨some 8, .len false (.t 7), none, false, []⟩,
⟨some 9, .bin .lss (.t 6) (.t 8), none, false, []⟩]) (.cond (.t 9) .skip (.exit 0))) (.seq (.block 1 (.seq (.region false [
⟨some 12, .mv (.t 0), none, false, []⟩,
⟨some 13, .mv (.t 5), none, false, []⟩,
⟨some 14, .iaddr 1 (.t 12) (.t 13), none, false, []⟩,
⟨some 15, .load 1 false (.t 14), none, false, []⟩,
⟨some 16, .mv (.t 1), none, false, []⟩,
⟨some 17, .bin .eql (.t 15) (.t 16), none, false, []⟩]) (.cond (.t 17) (.seq (.region false [
⟨some 4, .mv (.c (.bool true)), none, false, []⟩]) .ret) .skip))) (.region false [
⟨some 10, .mv (.t 5), none, false, []⟩,
⟨some 11, .bin .add (.t 10) (.c (.int .i64 1)), none, false, []⟩,
⟨some 5, .mv (.t 11), none, false, []⟩])))
def a68l0 : ACode := .loop [0, 1, 5] [4] a68l0b
def a68 : AFunc := ⟨18, [.tmp 4], (.seq (.region false [
⟨some 4, .mv (.c (.bool false)), none, false, []⟩]) (.seq (.seq (.region false [
⟨some 5, .mv (.c (.int .i64 0)), none, false, []⟩]) (.block 0 a68l0)) (.seq (.region false [
⟨some 4, .mv (.c (.bool false)), none, false, []⟩]) .ret)))⟩
def a69 : AFunc := ⟨9, [.cell 0 2 true], (.seq (.region false [
⟨some 0, .nalloc [4, 6] 25 [.nilSlice, .nilSlice], none, false, []⟩]) (.seq (.region false [
⟨some 1, .build [.str ByteArray.empty, .bool false, .int .i64 0, .int .i64 0] [(0, 1, (.c (.str ⟨#[117, 112]⟩))), (1, 1, (.c (.bool true))), (2, 1, (.c (.int .i64 100)))], none, false, []⟩,
⟨some 2, .build [.str ByteArray.empty, .bool false, .int .i64 0, .int .i64 0] [(0, 1, (.c (.str ⟨#[106]⟩))), (3, 1, (.c (.int .i64 3)))], none, false, []⟩,
⟨some 3, .build [.str ByteArray.empty, .bool false, .int .i64 0, .int .i64 0] [(0, 1, (.c (.str ⟨#[100, 111, 119, 110]⟩))), (1, 1, (.c (.bool true)))], none, false, []⟩,
⟨some 4, .bslice 64 4 3 [.str ByteArray.empty, .bool false, .int .i64 0, .int .i64 0] [(0, (.t 1)), (1, (.t 2)), (2, (.t 3))], none, false, []⟩,
⟨some 5, .build [.str ByteArray.empty, .int .i64 0, .int .i64 0, .int .i64 0, .bool false, .bool false] [(0, 1, (.c (.str ⟨#[97]⟩))), (2, 1, (.c (.int .i64 1))), (3, 1, (.c (.int .i64 100))), (5, 1, (.c (.bool true)))], none, false, []⟩,
⟨some 6, .build [.str ByteArray.empty, .int .i64 0, .int .i64 0, .int .i64 0, .bool false, .bool false] [(0, 1, (.c (.str ⟨#[98]⟩))), (1, 1, (.c (.int .i64 1))), (2, 1, (.c (.int .i64 2))), (3, 1, (.c (.int .i64 200))), (4, 1, (.c (.bool true))), (5, 1, (.c (.bool true)))], none, false, []⟩,
⟨some 7, .bslice 58 6 2 [.str ByteArray.empty, .int .i64 0, .int .i64 0, .int .i64 0, .bool false, .bool false] [(0, (.t 5)), (1, (.t 6))], none, false, []⟩,
⟨some 8, .nbuild [4, 6] [.nilSlice, .nilSlice] [(0, 1, (.t 4)), (1, 1, (.t 7))], none, false, []⟩,
⟨none, .store 2 (.t 0) (.t 8), none, false, []⟩]) .ret))⟩
def a70 : AFunc := ⟨9, [.cell 0 2 true], (.seq (.region false [
⟨some 0, .nalloc [4, 6] 25 [.nilSlice, .nilSlice], none, false, []⟩]) (.seq (.region false [
⟨some 1, .build [.str ByteArray.empty, .bool false, .int .i64 0, .int .i64 0] [(0, 1, (.c (.str ⟨#[115]⟩))), (1, 1, (.c (.bool true)))], none, false, []⟩,
⟨some 2, .build [.str ByteArray.empty, .bool false, .int .i64 0, .int .i64 0] [(0, 1, (.c (.str ⟨#[116]⟩)))], none, false, []⟩,
⟨some 3, .build [.str ByteArray.empty, .bool false, .int .i64 0, .int .i64 0] [(0, 1, (.c (.str ⟨#[117]⟩)))], none, false, []⟩,
⟨some 4, .bslice 64 4 3 [.str ByteArray.empty, .bool false, .int .i64 0, .int .i64 0] [(0, (.t 1)), (1, (.t 2)), (2, (.t 3))], none, false, []⟩,
⟨some 5, .build [.str ByteArray.empty, .int .i64 0, .int .i64 0, .int .i64 0, .bool false, .bool false] [(0, 1, (.c (.str ⟨#[112]⟩))), (2, 1, (.c (.int .i64 1))), (4, 1, (.c (.bool true)))], none, false, []⟩,
⟨some 6, .build [.str ByteArray.empty, .int .i64 0, .int .i64 0, .int .i64 0, .bool false, .bool false] [(0, 1, (.c (.str ⟨#[113]⟩))), (1, 1, (.c (.int .i64 1))), (2, 1, (.c (.int .i64 2))), (5, 1, (.c (.bool true)))], none, false, []⟩,
⟨some 7, .bslice 58 6 2 [.str ByteArray.empty, .int .i64 0, .int .i64 0, .int .i64 0, .bool false, .bool false] [(0, (.t 5)), (1, (.t 6))], none, false, []⟩,
⟨some 8, .nbuild [4, 6] [.nilSlice, .nilSlice] [(0, 1, (.t 4)), (1, 1, (.t 7))], none, false, []⟩,
⟨none, .store 2 (.t 0) (.t 8), none, false, []⟩]) .ret))⟩
def a71l0b : ACode := (.seq (.region false [
⟨some 8, .bin .lss (.t 7) (.t 6), none, false, []⟩]) (.seq (.cond (.t 8) .skip (.exit 0)) (.seq (.block 1 (.seq (.region false [
⟨some 9, .iaddr 1 (.t 5) (.t 7), none, false, []⟩,
⟨some 10, .load 1 false (.t 9), none, false, []⟩,
⟨some 4, .mv (.t 10), none, false, []⟩]) (.seq (.region false [
⟨some 11, .mv (.t 4), none, false, []⟩,
⟨some 12, .bin .neq (.t 11) (.c (.int .i64 0)), none, false, []⟩]) (.cond (.t 12) (.seq (.region false [
⟨some 13, .mv (.t 4), none, false, []⟩,
⟨some 2, .mv (.t 13), none, false, []⟩]) .ret) .skip)))) (.region false [
⟨some 14, .bin .add (.t 7) (.c (.int .i64 1)), none, false, []⟩,
⟨some 7, .mv (.t 14), none, false, []⟩]))))
def a71l0 : ACode := .loop [5, 6, 7] [2] a71l0b
def a71 : AFunc := ⟨15, [.tmp 2], (.seq (.region false [
⟨some 2, .mv (.c (.int .i64 0)), none, false, []⟩]) (.seq (.seq (.region false [
⟨some 5, .mv (.t 0), none, false, []⟩,
⟨some 6, .len false (.t 5), none, false, []⟩,
⟨some 7, .mv (.c (.int .i64 0)), none, false, []⟩]) (.block 0 a71l0)) (.seq (.region false [
⟨some 2, .mv (.c (.int .i64 0)), none, false, []⟩]) .ret)))⟩
def a72 : AFunc := ⟨7, [.tmp 4], (.seq (.region false [
⟨some 4, .mv (.c (.int .i64 0)), none, false, []⟩]) (.seq (.seq (.region false [
⟨some 5, .mv (.t 0), none, false, []⟩]) (.cond (.t 5) (.seq (.region false [
⟨some 4, .mv (.c (.int .i64 0)), none, false, []⟩]) .ret) .skip)) (.seq (.region false [
⟨some 6, .mv (.t 1), none, false, []⟩,
⟨some 4, .mv (.t 6), none, false, []⟩]) .ret)))⟩
def a73 : AFunc := ⟨10, [.tmp 4], (.seq (.region false [
⟨some 4, .mv (.c (.bool false)), none, false, []⟩]) (.seq (.region false [
⟨some 5, .mv (.t 0), none, false, []⟩,
⟨some 6, .mv (.t 1), none, false, []⟩,
⟨some 7, .un .neg (.t 6), none, false, []⟩,
⟨some 8, .mv (.t 1), none, false, []⟩,
⟨some 9, .call 74 [(.t 5), (.t 7), (.t 8)], none, false, []⟩,
⟨some 4, .mv (.t 9), none, false, []⟩]) .ret))⟩
def a74 : AFunc := ⟨15, [.tmp 6], (.seq (.region false [
⟨some 6, .mv (.c (.bool false)), none, false, []⟩]) (.seq (.region false [
⟨some 7, .mv (.t 1), none, false, []⟩,
⟨some 8, .mv (.t 0), none, false, []⟩,
⟨some 9, .bin .leq (.t 7) (.t 8), none, false, []⟩,
⟨some 10, .mv (.t 9), none, false, []⟩,
⟨some 11, .mv (.t 0), some (10, true), false, []⟩,
⟨some 12, .mv (.t 2), some (10, true), false, []⟩,
⟨some 13, .bin .leq (.t 11) (.t 12), some (10, true), false, []⟩,
⟨some 14, .pick (.t 10) (.t 13) (.c (.bool false)), none, false, []⟩,
⟨some 6, .mv (.t 14), none, false, []⟩]) .ret))⟩
def a75l0b : ACode := (.seq (.region false [
⟨some 10, .bin .lss (.t 9) (.t 8), none, false, []⟩]) (.seq (.cond (.t 10) .skip (.exit 0)) (.seq (.block 1 (.seq (.region false [
⟨some 11, .mv (.t 9), none, false, []⟩,
⟨some 12, .iaddr 1 (.t 7) (.t 9), none, false, []⟩,
⟨some 13, .load 1 false (.t 12), none, false, []⟩,
⟨some 3, .mv (.t 11), none, false, []⟩,
⟨some 4, .mv (.t 13), none, false, []⟩]) (.seq (.region false [
⟨some 14, .mv (.t 4), none, false, []⟩,
⟨some 15, .conv .i64 (.t 14), none, false, []⟩,
⟨some 16, .call 74 [(.t 15), (.c (.int .i64 97)), (.c (.int .i64 122))], none, false, []⟩,
⟨some 17, .mv (.t 16), none, false, []⟩,
⟨some 18, .mv (.t 4), some (17, false), false, []⟩,
⟨some 19, .conv .i64 (.t 18), some (17, false), false, []⟩,
⟨some 20, .call 74 [(.t 19), (.c (.int .i64 65)), (.c (.int .i64 90))], some (17, false), false, []⟩,
⟨some 21, .pick (.t 17) (.c (.bool true)) (.t 20), none, false, []⟩,
⟨some 5, .mv (.t 21), none, false, []⟩]) (.seq (.region false [
⟨some 22, .mv (.t 5), none, false, []⟩,
⟨some 23, .un .not (.t 22), none, false, []⟩,
⟨some 24, .mv (.t 23), none, false, []⟩,
⟨some 25, .mv (.t 3), some (24, true), false, []⟩,
⟨some 26, .bin .eql (.t 25) (.c (.int .i64 0)), some (24, true), false, []⟩,
⟨some 27, .mv (.t 26), some (24, true), false, []⟩,
⟨some 28, .mv (.t 4), some (27, false), false, []⟩,
⟨some 29, .bin .neq (.t 28) (.c (.int .u8 45)), some (27, false), false, []⟩,
⟨some 30, .mv (.t 29), some (27, false), false, []⟩,
⟨some 31, .mv (.t 4), some (30, true), false, []⟩,
⟨some 32, .conv .i64 (.t 31), some (30, true), false, []⟩,
⟨some 33, .call 74 [(.t 32), (.c (.int .i64 48)), (.c (.int .i64 57))], some (30, true), false, []⟩,
⟨some 34, .un .not (.t 33), some (30, true), false, []⟩,
⟨some 35, .pick (.t 30) (.t 34) (.c (.bool false)), some (27, false), false, []⟩,
⟨some 36, .pick (.t 27) (.c (.bool true)) (.t 35), some (24, true), false, []⟩,
⟨some 37, .pick (.t 24) (.t 36) (.c (.bool false)), none, false, []⟩]) (.cond (.t 37) (.seq (.region false [
⟨some 2, .mv (.c (.bool false)), none, false, []⟩]) .ret) .skip))))) (.region false [
⟨some 38, .bin .add (.t 9) (.c (.int .i64 1)), none, false, []⟩,
⟨some 9, .mv (.t 38), none, false, []⟩]))))
def a75l0 : ACode := .loop [0, 7, 8, 9] [0, 2] a75l0b
def a75 : AFunc := ⟨42, [.tmp 2], (.seq (.region false [
⟨some 2, .mv (.c (.bool false)), none, false, []⟩]) (.seq (.seq (.region false [
⟨some 6, .mv (.t 0), none, false, []⟩,
⟨some 7, .bytes 5 (.t 6), none, false, []⟩,
⟨some 8, .len false (.t 7), none, false, []⟩,
⟨some 9, .mv (.c (.int .i64 0)), none, false, []⟩]) (.block 0 a75l0)) (.seq (.region false [
⟨some 39, .mv (.t 0), none, false, []⟩,
⟨some 40, .len true (.t 39), none, false, []⟩,
⟨some 41, .call 74 [(.t 40), (.c (.int .i64 1)), (.c (.int .i64 12))], none, false, []⟩,
⟨some 2, .mv (.t 41), none, false, []⟩]) .ret)))⟩
def a76 : AFunc := ⟨10, [.tmp 3], (.seq (.region false [
⟨some 3, .mv (.c (.bool false)), none, false, []⟩]) (.seq (.region false [
⟨some 4, .mv (.t 0), none, false, []⟩,
⟨some 5, .faddr 0 (.t 1), none, false, []⟩,
⟨some 6, .load 1 false (.t 5), none, false, []⟩,
⟨some 7, .len false (.t 6), none, false, []⟩,
⟨some 8, .bin .sub (.t 7) (.c (.int .i64 1)), none, false, []⟩,
⟨some 9, .call 74 [(.t 4), (.c (.int .i64 0)), (.t 8)], none, false, []⟩,
⟨some 3, .mv (.t 9), none, false, []⟩]) .ret))⟩
def a77 : AFunc := ⟨13, [.tmp 4], (.seq (.region false [
⟨some 4, .mv (.c (.int .i64 0)), none, false, []⟩]) (.seq (.region false [
⟨some 5, .mv (.t 0), none, false, []⟩,
⟨some 6, .mv (.t 1), none, false, []⟩,
⟨some 7, .bin .mul (.t 5) (.t 6), none, false, []⟩,
⟨some 8, .mv (.t 1), none, false, []⟩,
⟨some 9, .mv (.t 1), none, false, []⟩,
⟨some 10, .un .neg (.t 9), none, false, []⟩,
⟨some 11, .minmax true (.t 8) [(.t 10)], none, false, []⟩,
⟨some 12, .bin .mul (.t 7) (.t 11), none, false, []⟩,
⟨some 4, .mv (.t 12), none, false, []⟩]) .ret))⟩
def a78 : AFunc := ⟨29, [.tmp 4], (.seq (.region false [
⟨some 2, .box 64 (.t 0), none, false, []⟩,
⟨some 4, .mv (.c (.int .i64 0)), none, false, []⟩]) (.seq (.seq (.region false [
⟨some 5, .faddr 0 (.t 2), none, false, []⟩,
⟨some 6, .load 1 false (.t 5), none, false, []⟩,
⟨some 7, .call 131 [(.t 6)], none, false, []⟩,
⟨some 8, .un .not (.t 7), none, false, []⟩]) (.cond (.t 8) (.seq (.region false [
⟨some 4, .mv (.c (.int .i64 4)), none, false, []⟩]) .ret) .skip)) (.seq (.seq (.region false [
⟨some 9, .mv (.t 1), none, false, []⟩,
⟨some 10, .faddr 0 (.t 2), none, false, []⟩,
⟨some 11, .load 1 false (.t 10), none, false, []⟩,
⟨some 12, .call 132 [(.t 9), (.t 11)], none, false, []⟩]) (.cond (.t 12) (.seq (.region false [
⟨some 4, .mv (.c (.int .i64 5)), none, false, []⟩]) .ret) .skip)) (.seq (.seq (.region false [
⟨some 13, .faddr 1 (.t 2), none, false, []⟩,
⟨some 14, .load 1 false (.t 13), none, false, []⟩]) (.cond (.t 14) (.seq (.seq (.region false [
⟨some 15, .faddr 2 (.t 2), none, false, []⟩,
⟨some 16, .load 1 false (.t 15), none, false, []⟩,
⟨some 17, .call 20 [(.t 16), (.c (.int .i64 0)), (.c (.int .i64 1000000))], none, false, []⟩,
⟨some 18, .un .not (.t 17), none, false, []⟩]) (.cond (.t 18) (.seq (.region false [
⟨some 4, .mv (.c (.int .i64 2)), none, false, []⟩]) .ret) .skip)) (.seq (.seq (.region false [
⟨some 19, .faddr 3 (.t 2), none, false, []⟩,
⟨some 20, .load 1 false (.t 19), none, false, []⟩,
⟨some 21, .bin .neq (.t 20) (.c (.int .i64 0)), none, false, []⟩]) (.cond (.t 21) (.seq (.region false [
⟨some 4, .mv (.c (.int .i64 3)), none, false, []⟩]) .ret) .skip)) (.seq (.region false [
⟨some 4, .mv (.c (.int .i64 0)), none, false, []⟩]) .ret))) .skip)) (.seq (.seq (.region false [
⟨some 22, .faddr 3 (.t 2), none, false, []⟩,
⟨some 23, .load 1 false (.t 22), none, false, []⟩,
⟨some 24, .call 20 [(.t 23), (.c (.int .i64 (-10000))), (.c (.int .i64 10000))], none, false, []⟩,
⟨some 25, .un .not (.t 24), none, false, []⟩]) (.cond (.t 25) (.seq (.region false [
⟨some 4, .mv (.c (.int .i64 2)), none, false, []⟩]) .ret) .skip)) (.seq (.seq (.region false [
⟨some 26, .faddr 2 (.t 2), none, false, []⟩,
⟨some 27, .load 1 false (.t 26), none, false, []⟩,
⟨some 28, .bin .neq (.t 27) (.c (.int .i64 0)), none, false, []⟩]) (.cond (.t 28) (.seq (.region false [
⟨some 4, .mv (.c (.int .i64 3)), none, false, []⟩]) .ret) .skip)) (.seq (.region false [
⟨some 4, .mv (.c (.int .i64 0)), none, false, []⟩]) .ret)))))))⟩
def a79 : AFunc := ⟨50, [.tmp 6], (.seq (.region false [
⟨some 3, .box 25 (.t 0), none, false, []⟩,
⟨some 4, .box 58 (.t 1), none, false, []⟩,
⟨some 6, .mv (.c (.int .i64 0)), none, false, []⟩]) (.seq (.seq (.region false [
⟨some 7, .faddr 0 (.t 4), none, false, []⟩,
⟨some 8, .load 1 false (.t 7), none, false, []⟩,
⟨some 9, .call 131 [(.t 8)], none, false, []⟩,
⟨some 10, .un .not (.t 9), none, false, []⟩]) (.cond (.t 10) (.seq (.region false [
⟨some 6, .mv (.c (.int .i64 4)), none, false, []⟩]) .ret) .skip)) (.seq (.seq (.region false [
⟨some 11, .mv (.t 2), none, false, []⟩,
⟨some 12, .faddr 0 (.t 4), none, false, []⟩,
⟨some 13, .load 1 false (.t 12), none, false, []⟩,
⟨some 14, .call 132 [(.t 11), (.t 13)], none, false, []⟩]) (.cond (.t 14) (.seq (.region false [
⟨some 6, .mv (.c (.int .i64 5)), none, false, []⟩]) .ret) .skip)) (.seq (.seq (.region false [
⟨some 15, .faddr 1 (.t 4), none, false, []⟩,
⟨some 16, .load 1 false (.t 15), none, false, []⟩,
⟨some 17, .faddr 0 (.t 3), none, false, []⟩,
⟨some 18, .load 1 false (.t 17), none, false, []⟩,
⟨some 19, .len false (.t 18), none, false, []⟩,
⟨some 20, .bin .sub (.t 19) (.c (.int .i64 1)), none, false, []⟩,
⟨some 21, .call 20 [(.t 16), (.c (.int .i64 0)), (.t 20)], none, false, []⟩,
⟨some 22, .un .not (.t 21), none, false, []⟩,
⟨some 23, .mv (.t 22), none, false, []⟩,
⟨some 24, .faddr 2 (.t 4), some (23, false), false, []⟩,
⟨some 25, .load 1 false (.t 24), some (23, false), false, []⟩,
⟨some 26, .faddr 0 (.t 3), some (23, false), false, []⟩,
⟨some 27, .load 1 false (.t 26), some (23, false), false, []⟩,
⟨some 28, .len false (.t 27), some (23, false), false, []⟩,
⟨some 29, .bin .sub (.t 28) (.c (.int .i64 1)), some (23, false), false, []⟩,
⟨some 30, .call 20 [(.t 25), (.c (.int .i64 0)), (.t 29)], some (23, false), false, []⟩,
⟨some 31, .un .not (.t 30), some (23, false), false, []⟩,
⟨some 32, .pick (.t 23) (.c (.bool true)) (.t 31), none, false, []⟩]) (.cond (.t 32) (.seq (.region false [
⟨some 6, .mv (.c (.int .i64 6)), none, false, []⟩]) .ret) .skip)) (.seq (.seq (.region false [
⟨some 33, .faddr 1 (.t 4), none, false, []⟩,
⟨some 34, .load 1 false (.t 33), none, false, []⟩,
⟨some 35, .faddr 2 (.t 4), none, false, []⟩,
⟨some 36, .load 1 false (.t 35), none, false, []⟩,
⟨some 37, .bin .eql (.t 34) (.t 36), none, false, []⟩]) (.cond (.t 37) (.seq (.region false [
⟨some 6, .mv (.c (.int .i64 13)), none, false, []⟩]) .ret) .skip)) (.seq (.seq (.region false [
⟨some 38, .faddr 3 (.t 4), none, false, []⟩,
⟨some 39, .load 1 false (.t 38), none, false, []⟩,
⟨some 40, .call 20 [(.t 39), (.c (.int .i64 0)), (.c (.int .i64 1000))], none, false, []⟩,
⟨some 41, .un .not (.t 40), none, false, []⟩]) (.cond (.t 41) (.seq (.region false [
⟨some 6, .mv (.c (.int .i64 2)), none, false, []⟩]) .ret) .skip)) (.seq (.seq (.region false [
⟨some 42, .faddr 4 (.t 4), none, false, []⟩,
⟨some 43, .load 1 false (.t 42), none, false, []⟩,
⟨some 44, .un .not (.t 43), none, false, []⟩,
⟨some 45, .mv (.t 44), none, false, []⟩,
⟨some 46, .faddr 5 (.t 4), some (45, true), false, []⟩,
⟨some 47, .load 1 false (.t 46), some (45, true), false, []⟩,
⟨some 48, .un .not (.t 47), some (45, true), false, []⟩,
⟨some 49, .pick (.t 45) (.t 48) (.c (.bool false)), none, false, []⟩]) (.cond (.t 49) (.seq (.region false [
⟨some 6, .mv (.c (.int .i64 3)), none, false, []⟩]) .ret) .skip)) (.seq (.region false [
⟨some 6, .mv (.c (.int .i64 0)), none, false, []⟩]) .ret))))))))⟩
def a80 : AFunc := ⟨19, [.tmp 2], (.seq (.region false [
⟨some 2, .mv (.c (.int .i64 0)), none, false, []⟩]) (.seq (.region false [
⟨some 4, .mv (.t 0), none, false, []⟩,
⟨some 5, .call 119 [(.t 4), (.c (.func 133 [] []))], none, false, []⟩,
⟨some 3, .mv (.t 5), none, false, []⟩]) (.seq (.region false [
⟨some 6, .mv (.t 0), none, false, []⟩,
⟨some 7, .len false (.t 6), none, false, []⟩,
⟨some 8, .bin .gtr (.t 7) (.c (.int .i64 0)), none, false, []⟩,
⟨some 9, .call 72 [(.t 8), (.c (.int .i64 10))], none, false, []⟩,
⟨some 10, .mv (.t 0), none, false, []⟩,
⟨some 11, .len false (.t 10), none, false, []⟩,
⟨some 12, .bin .leq (.t 11) (.c (.int .i64 8)), none, false, []⟩,
⟨some 13, .call 72 [(.t 12), (.c (.int .i64 8))], none, false, []⟩,
⟨some 14, .mv (.t 3), none, false, []⟩,
⟨some 15, .un .not (.t 14), none, false, []⟩,
⟨some 16, .call 72 [(.t 15), (.c (.int .i64 2))], none, false, []⟩,
⟨some 17, .bslice 28 1 3 [.int .i64 0] [(0, (.t 9)), (1, (.t 13)), (2, (.t 16))], none, false, []⟩,
⟨some 18, .call 71 [(.t 17)], none, false, []⟩,
⟨some 2, .mv (.t 18), none, false, []⟩]) .ret)))⟩
def a82l0b : ACode := (.seq (.region false [
⟨some 12, .bin .lss (.t 11) (.t 10), none, false, []⟩]) (.seq (.cond (.t 12) .skip (.exit 0)) (.seq (.block 1 (.seq (.region false [
⟨some 13, .iaddr 1 (.t 9) (.t 11), none, false, []⟩,
⟨some 14, .load 1 false (.t 13), none, false, []⟩,
⟨some 7, .mv (.t 14), none, false, []⟩]) (.seq (.region false [
⟨some 15, .mv (.t 7), none, false, []⟩,
⟨some 16, .mv (.t 1), none, false, []⟩,
⟨some 17, .call 83 [(.t 15), (.t 16)], none, false, []⟩,
⟨some 8, .alloc 43 [.int .i64 0, .int .i64 0], none, false, []⟩,
⟨none, .store 2 (.t 8) (.t 17), none, false, []⟩]) (.region false [
⟨some 18, .faddr 0 (.t 5), none, false, []⟩,
⟨some 19, .load 1 false (.t 18), none, false, []⟩,
⟨some 20, .faddr 0 (.t 8), none, false, []⟩,
⟨some 21, .load 1 false (.t 20), none, false, []⟩,
⟨some 22, .bin .add (.t 19) (.t 21), none, false, []⟩,
⟨some 23, .faddr 1 (.t 5), none, false, []⟩,
⟨some 24, .load 1 false (.t 23), none, false, []⟩,
⟨some 25, .faddr 1 (.t 8), none, false, []⟩,
⟨some 26, .load 1 false (.t 25), none, false, []⟩,
⟨some 27, .bin .add (.t 24) (.t 26), none, false, []⟩,
⟨some 28, .build [.int .i64 0, .int .i64 0] [(0, 1, (.t 22)), (1, 1, (.t 27))], none, false, []⟩,
⟨none, .store 2 (.t 5) (.t 28), none, false, []⟩])))) (.region false [
⟨some 29, .bin .add (.t 11) (.c (.int .i64 1)), none, false, []⟩,
⟨some 11, .mv (.t 29), none, false, []⟩]))))
def a82l0 : ACode := .loop [1, 4, 5, 9, 10, 11] [4, 5] a82l0b
def a82 : AFunc := ⟨31, [.cell 4 2 true], (.seq (.region false [
⟨some 4, .alloc 43 [.int .i64 0, .int .i64 0], none, false, []⟩]) (.seq (.region false [
⟨some 5, .alloc 43 [.int .i64 0, .int .i64 0], none, false, []⟩]) (.seq (.seq (.region false [
⟨some 9, .mv (.t 0), none, false, []⟩,
⟨some 10, .len false (.t 9), none, false, []⟩,
⟨some 11, .mv (.c (.int .i64 0)), none, false, []⟩]) (.block 0 a82l0)) (.seq (.region false [
⟨some 30, .load 2 true (.t 5), none, false, []⟩,
⟨none, .store 2 (.t 4) (.t 30), none, false, []⟩]) .ret))))⟩
def a83 : AFunc := ⟨22, [.cell 4 2 true], (.seq (.region false [
⟨some 2, .box 3 (.t 0), none, false, []⟩,
⟨some 3, .box 3 (.t 1), none, false, []⟩,
⟨some 4, .alloc 43 [.int .i64 0, .int .i64 0], none, false, []⟩]) (.seq (.region false [
⟨some 7, .mkf 134 [] [(.t 2), (.t 3)], none, false, []⟩,
⟨some 8, .call 84 [(.c (.int .i64 0)), (.c (.int .i64 31623)), (.t 7)], none, false, []⟩,
⟨some 5, .mv (.t 8), none, false, []⟩]) (.seq (.region false [
⟨some 9, .mv (.t 5), none, false, []⟩,
⟨some 6, .mv (.t 9), none, false, []⟩]) (.seq (.seq (.region false [
⟨some 10, .load 1 false (.t 2), none, false, []⟩,
⟨some 11, .mv (.t 5), none, false, []⟩,
⟨some 12, .bin .mul (.t 10) (.t 11), none, false, []⟩,
⟨some 13, .mv (.t 5), none, false, []⟩,
⟨some 14, .bin .mul (.t 12) (.t 13), none, false, []⟩,
⟨some 15, .load 1 false (.t 3), none, false, []⟩,
⟨some 16, .bin .gtr (.t 14) (.t 15), none, false, []⟩]) (.cond (.t 16) (.region false [
⟨some 17, .mv (.t 6), none, false, []⟩,
⟨some 18, .bin .sub (.t 17) (.c (.int .i64 1)), none, false, []⟩,
⟨some 6, .mv (.t 18), none, false, []⟩]) .skip)) (.seq (.region false [
⟨some 19, .mv (.t 6), none, false, []⟩,
⟨some 20, .mv (.t 5), none, false, []⟩,
⟨some 21, .build [.int .i64 0, .int .i64 0] [(0, 1, (.t 19)), (1, 1, (.t 20))], none, false, []⟩,
⟨none, .store 2 (.t 4) (.t 21), none, false, []⟩]) .ret)))))⟩
def a84l0b : ACode := (.seq (.seq (.region false [
⟨some 8, .mv (.t 0), none, false, []⟩,
⟨some 9, .mv (.t 1), none, false, []⟩,
⟨some 10, .bin .lss (.t 8) (.t 9), none, false, []⟩]) (.cond (.t 10) .skip (.exit 0))) (.block 1 (.seq (.region false [
⟨some 11, .mv (.t 0), none, false, []⟩,
⟨some 12, .mv (.t 1), none, false, []⟩,
⟨some 13, .mv (.t 0), none, false, []⟩,
⟨some 14, .bin .sub (.t 12) (.t 13), none, false, []⟩,
⟨some 15, .bin .quo (.t 14) (.c (.int .i64 2)), none, false, []⟩,
⟨some 16, .bin .add (.t 11) (.t 15), none, false, []⟩,
⟨some 7, .mv (.t 16), none, false, []⟩]) (.seq (.region false [
⟨some 17, .mv (.t 2), none, false, []⟩,
⟨some 18, .mv (.t 7), none, false, []⟩,
⟨some 19, .callv (.t 17) [(.t 18)], none, false, []⟩]) (.cond (.t 19) (.region false [
⟨some 20, .mv (.t 7), none, false, []⟩,
⟨some 1, .mv (.t 20), none, false, []⟩]) (.region false [
⟨some 21, .mv (.t 7), none, false, []⟩,
⟨some 22, .bin .add (.t 21) (.c (.int .i64 1)), none, false, []⟩,
⟨some 0, .mv (.t 22), none, false, []⟩]))))))
def a84l0 : ACode := .loop [0, 1, 2] [0, 6] a84l0b
def a84 : AFunc := ⟨24, [.tmp 6], (.seq (.region false [
⟨some 6, .mv (.c (.int .i64 0)), none, false, []⟩]) (.seq (.block 0 a84l0) (.seq (.region false [
⟨some 23, .mv (.t 0), none, false, []⟩,
⟨some 6, .mv (.t 23), none, false, []⟩]) .ret)))⟩
def a85 : AFunc := ⟨11, [.tmp 4], (.seq (.region false [
⟨some 4, .mv (.c (.bool false)), none, false, []⟩]) (.seq (.region true [
⟨some 5, .load 1 false (.t 1), none, false, []⟩,
⟨some 6, .mv (.t 0), none, false, []⟩,
⟨some 7, .call 82 [(.t 5), (.t 6)], none, true, []⟩,
⟨some 8, .field 1 1 false (.t 7), none, false, []⟩,
⟨some 9, .load 1 false (.t 2), none, true, [2]⟩,
⟨some 10, .bin .geq (.t 8) (.t 9), none, false, []⟩,
⟨some 4, .mv (.t 10), none, false, []⟩]) .ret))⟩
def a86 : AFunc := ⟨11, [.tmp 4], (.seq (.region false [
⟨some 4, .mv (.c (.bool false)), none, false, []⟩]) (.seq (.region true [
⟨some 5, .load 1 false (.t 1), none, false, []⟩,
⟨some 6, .mv (.t 0), none, false, []⟩,
⟨some 7, .call 82 [(.t 5), (.t 6)], none, true, []⟩,
⟨some 8, .field 0 1 false (.t 7), none, false, []⟩,
⟨some 9, .load 1 false (.t 2), none, true, [2]⟩,
⟨some 10, .bin .geq (.t 8) (.t 9), none, false, []⟩,
⟨some 4, .mv (.t 10), none, false, []⟩]) .ret))⟩
def a87 : AFunc := ⟨14, [.cell 2 2 true, .tmp 3], (.seq (.region false [
⟨some 1, .box 25 (.t 0), none, false, []⟩,
⟨some 2, .nalloc [4, 6] 120 [.nilSlice, .nilSlice], none, false, []⟩,
⟨some 3, .mv (.c (.int .i64 0)), none, false, []⟩]) (.seq (.region false [
⟨some 7, .load 2 true (.t 1), none, false, []⟩,
⟨some 8, .call 16 [(.t 7)], none, false, []⟩,
⟨some 6, .mv (.t 8), none, false, []⟩,
⟨some 9, .ext (.t 6) 0, none, false, []⟩,
⟨some 10, .ext (.t 6) 1, none, false, []⟩,
⟨some 4, .mv (.t 9), none, false, []⟩,
⟨some 5, .mv (.t 10), none, false, []⟩]) (.seq (.region false [
⟨some 11, .load 2 true (.t 1), none, false, []⟩,
⟨some 12, .nbuild [4, 6] [.nilSlice, .nilSlice] [(0, 2, (.t 11))], none, false, []⟩,
⟨some 13, .mv (.t 5), none, false, []⟩,
⟨none, .store 2 (.t 2) (.t 12), none, false, []⟩,
⟨some 3, .mv (.t 13), none, false, []⟩]) .ret)))⟩
def a88 : AFunc := ⟨13, [.tmp 4], (.seq (.region false [
⟨some 2, .box 120 (.t 0), none, false, []⟩,
⟨some 4, .mv (.c (.int .i64 0)), none, false, []⟩]) (.seq (.region false [
⟨some 5, .mv (.t 1), none, false, []⟩,
⟨some 6, .faddr 0 (.t 2), none, false, []⟩,
⟨some 7, .faddr 0 (.t 6), none, false, []⟩,
⟨some 8, .load 1 false (.t 7), none, false, []⟩,
⟨some 9, .len false (.t 8), none, false, []⟩,
⟨some 10, .bin .sub (.t 9) (.c (.int .i64 1)), none, false, []⟩,
⟨some 11, .call 74 [(.t 5), (.c (.int .i64 0)), (.t 10)], none, false, []⟩,
⟨some 12, .call 72 [(.t 11), (.c (.int .i64 6))], none, false, []⟩,
⟨some 4, .mv (.t 12), none, false, []⟩]) .ret))⟩
def a89l0b : ACode := (.seq (.region false [
⟨some 9, .bin .lss (.t 8) (.t 7), none, false, []⟩]) (.seq (.cond (.t 9) .skip (.exit 0)) (.seq (.block 1 (.seq (.region false [
⟨some 10, .mv (.t 8), none, false, []⟩,
⟨some 11, .iaddr 1 (.t 6) (.t 8), none, false, []⟩,
⟨some 12, .load 1 false (.t 11), none, false, []⟩,
⟨some 4, .mv (.t 10), none, false, []⟩,
⟨some 5, .mv (.t 12), none, false, []⟩]) (.seq (.region false [
⟨some 13, .mv (.t 5), none, false, []⟩]) (.cond (.t 13) (.region false [
⟨some 14, .mv (.t 3), none, false, []⟩,
⟨some 15, .mv (.t 4), none, false, []⟩,
⟨some 16, .bslice 3 1 1 [.int .i64 0] [(0, (.t 15))], none, false, []⟩,
⟨some 17, .app 3 1 8 [.int .i64 0] (.t 14) (.t 16), none, false, []⟩,
⟨some 3, .mv (.t 17), none, false, []⟩]) .skip)))) (.region false [
⟨some 18, .bin .add (.t 8) (.c (.int .i64 1)), none, false, []⟩,
⟨some 8, .mv (.t 18), none, false, []⟩]))))
def a89l0 : ACode := .loop [3, 6, 7, 8] [2, 3] a89l0b
def a89 : AFunc := ⟨20, [.tmp 2], (.seq (.region false [
⟨some 2, .nils 1 (.c (.nilSlice)), none, false, []⟩]) (.seq (.region false [
⟨some 3, .nils 1 (.c (.nilSlice)), none, false, []⟩]) (.seq (.seq (.region false [
⟨some 6, .mv (.t 0), none, false, []⟩,
⟨some 7, .len false (.t 6), none, false, []⟩,
⟨some 8, .mv (.c (.int .i64 0)), none, false, []⟩]) (.block 0 a89l0)) (.seq (.region false [
⟨some 19, .mv (.t 3), none, false, []⟩,
⟨some 2, .mv (.t 19), none, false, []⟩]) .ret))))⟩
def a90l0b : ACode := (.seq (.region false [
⟨some 21, .bin .lss (.t 20) (.t 19), none, false, []⟩]) (.seq (.cond (.t 21) .skip (.exit 0)) (.seq (.block 1 (.seq (.region false [
⟨some 22, .iaddr 1 (.t 18) (.t 20), none, false, []⟩,
⟨some 23, .load 1 false (.t 22), none, false, []⟩,
⟨some 9, .mv (.t 23), none, false, []⟩]) (.region false [
⟨some 24, .mv (.t 7), none, false, []⟩,
⟨some 25, .mv (.t 9), none, false, []⟩,
⟨some 26, .iaddr 1 (.t 24) (.t 25), none, false, []⟩,
⟨none, .store 1 (.t 26) (.c (.bool true)), none, false, []⟩]))) (.region false [
⟨some 27, .bin .add (.t 20) (.c (.int .i64 1)), none, false, []⟩,
⟨some 20, .mv (.t 27), none, false, []⟩]))))
def a90l0 : ACode := .loop [2, 3, 7, 18, 19, 20] [2, 3, 6, 7] a90l0b
def a90l1b : ACode := (.seq (.region false [
⟨some 34, .bin .lss (.t 33) (.t 32), none, false, []⟩]) (.seq (.cond (.t 34) .skip (.exit 4)) (.seq (.block 5 (.seq (.region false [
⟨some 35, .mv (.t 33), none, false, []⟩,
⟨some 36, .iaddr 6 (.t 31) (.t 33), none, false, []⟩,
⟨some 37, .load 6 true (.t 36), none, false, []⟩,
⟨some 12, .alloc 58 [.str ByteArray.empty, .int .i64 0, .int .i64 0, .int .i64 0, .bool false, .bool false], none, false, []⟩,
⟨some 11, .mv (.t 35), none, false, []⟩,
⟨none, .store 6 (.t 12) (.t 37), none, false, []⟩]) (.seq (.region true [
⟨some 38, .mv (.t 2), none, false, []⟩,
⟨some 39, .mv (.t 11), none, false, []⟩,
⟨some 40, .callv (.t 38) [(.t 39)], none, false, []⟩,
⟨some 41, .mv (.t 40), none, false, []⟩,
⟨some 42, .mv (.t 7), some (41, true), false, []⟩,
⟨some 43, .faddr 1 (.t 12), some (41, true), false, []⟩,
⟨some 44, .load 1 false (.t 43), some (41, true), false, []⟩,
⟨some 45, .iaddr 1 (.t 42) (.t 44), some (41, true), false, []⟩,
⟨some 46, .load 1 false (.t 45), some (41, true), false, []⟩,
⟨some 47, .mv (.t 7), some (41, true), false, []⟩,
⟨some 48, .faddr 2 (.t 12), some (41, true), false, []⟩,
⟨some 49, .load 1 false (.t 48), some (41, true), false, []⟩,
⟨some 50, .iaddr 1 (.t 47) (.t 49), some (41, true), false, []⟩,
⟨some 51, .load 1 false (.t 50), some (41, true), false, []⟩,
⟨some 52, .eq true [0] (.t 46) (.t 51), some (41, true), false, []⟩,
⟨some 53, .pick (.t 41) (.t 52) (.c (.bool false)), none, false, []⟩]) (.cond (.t 53) (.seq (.region true [
⟨some 54, .mv (.t 7), none, false, []⟩,
⟨some 55, .faddr 1 (.t 12), none, false, []⟩,
⟨some 56, .load 1 false (.t 55), none, false, []⟩,
⟨some 57, .mv (.t 7), none, false, []⟩,
⟨some 58, .faddr 2 (.t 12), none, false, []⟩,
⟨some 59, .load 1 false (.t 58), none, true, []⟩,
⟨some 60, .iaddr 1 (.t 54) (.t 56), none, false, []⟩,
⟨none, .store 1 (.t 60) (.c (.bool true)), none, true, [5]⟩,
⟨some 61, .iaddr 1 (.t 57) (.t 59), none, false, []⟩,
⟨none, .store 1 (.t 61) (.c (.bool true)), none, false, []⟩]) (.region false [
⟨some 10, .mv (.c (.bool true)), none, false, []⟩])) .skip)))) (.region false [
⟨some 62, .bin .add (.t 33) (.c (.int .i64 1)), none, false, []⟩,
⟨some 33, .mv (.t 62), none, false, []⟩]))))
def a90l1 : ACode := .loop [2, 3, 7, 10, 31, 32, 33] [2, 3, 6, 7, 10] a90l1b
def a90l2b : ACode := (.seq (.seq (.region false [
⟨some 28, .mv (.t 10), none, false, []⟩]) (.cond (.t 28) .skip (.exit 2))) (.block 3 (.seq (.region false [
⟨some 10, .mv (.c (.bool false)), none, false, []⟩]) (.seq (.region false [
⟨some 29, .faddr 0 (.t 3), none, false, []⟩,
⟨some 30, .faddr 1 (.t 29), none, false, []⟩,
⟨some 31, .load 1 false (.t 30), none, false, []⟩,
⟨some 32, .len false (.t 31), none, false, []⟩,
⟨some 33, .mv (.c (.int .i64 0)), none, false, []⟩]) (.block 4 a90l1)))))
def a90l2 : ACode := .loop [2, 3, 7, 10] [6, 7] a90l2b
def a90 : AFunc := ⟨64, [.tmp 6], (.seq (.region false [
⟨some 3, .box 120 (.t 0), none, false, []⟩,
⟨some 6, .nils 1 (.c (.nilSlice)), none, false, []⟩]) (.seq (.region false [
⟨some 13, .faddr 0 (.t 3), none, false, []⟩,
⟨some 14, .faddr 0 (.t 13), none, false, []⟩,
⟨some 15, .load 1 false (.t 14), none, false, []⟩,
⟨some 16, .len false (.t 15), none, false, []⟩,
⟨some 17, .mkslice 4 1 1 [.bool false] (.t 16) (.t 16), none, false, []⟩,
⟨some 7, .mv (.t 17), none, false, []⟩]) (.seq (.seq (.region false [
⟨some 18, .mv (.t 1), none, false, []⟩,
⟨some 19, .len false (.t 18), none, false, []⟩,
⟨some 20, .mv (.c (.int .i64 0)), none, false, []⟩]) (.block 0 a90l0)) (.seq (.seq (.region false [
⟨some 10, .mv (.c (.bool true)), none, false, []⟩]) (.block 2 a90l2)) (.seq (.region false [
⟨some 63, .mv (.t 7), none, false, []⟩,
⟨some 6, .mv (.t 63), none, false, []⟩]) .ret)))))⟩
def a91 : AFunc := ⟨12, [.tmp 4], (.seq (.region false [
⟨some 2, .box 120 (.t 0), none, false, []⟩,
⟨some 4, .mv (.c (.bool false)), none, false, []⟩]) (.seq (.region false [
⟨some 5, .faddr 0 (.t 2), none, false, []⟩,
⟨some 6, .faddr 1 (.t 5), none, false, []⟩,
⟨some 7, .load 1 false (.t 6), none, false, []⟩,
⟨some 8, .mv (.t 1), none, false, []⟩,
⟨some 9, .iaddr 6 (.t 7) (.t 8), none, false, []⟩,
⟨some 10, .faddr 5 (.t 9), none, false, []⟩,
⟨some 11, .load 1 false (.t 10), none, false, []⟩,
⟨some 4, .mv (.t 11), none, false, []⟩]) .ret))⟩
def a92l0b : ACode := (.seq (.region false [
⟨some 18, .bin .lss (.t 17) (.t 16), none, false, []⟩]) (.seq (.cond (.t 18) .skip (.exit 0)) (.seq (.block 1 (.seq (.region false [
⟨some 19, .iaddr 6 (.t 15) (.t 17), none, false, []⟩,
⟨some 20, .load 6 true (.t 19), none, false, []⟩,
⟨some 6, .alloc 58 [.str ByteArray.empty, .int .i64 0, .int .i64 0, .int .i64 0, .bool false, .bool false], none, false, []⟩,
⟨none, .store 6 (.t 6) (.t 20), none, false, []⟩]) (.region false [
⟨some 21, .mv (.t 4), none, false, []⟩,
⟨some 22, .mv (.t 3), none, false, []⟩,
⟨some 23, .faddr 2 (.t 6), none, false, []⟩,
⟨some 24, .load 1 false (.t 23), none, false, []⟩,
⟨some 25, .iaddr 1 (.t 22) (.t 24), none, false, []⟩,
⟨some 26, .load 1 false (.t 25), none, false, []⟩,
⟨some 27, .mv (.t 26), none, false, []⟩,
⟨some 28, .faddr 5 (.t 6), some (27, false), false, []⟩,
⟨some 29, .load 1 false (.t 28), some (27, false), false, []⟩,
⟨some 30, .mv (.t 29), some (27, false), false, []⟩,
⟨some 31, .mv (.t 3), some (30, true), false, []⟩,
⟨some 32, .faddr 1 (.t 6), some (30, true), false, []⟩,
⟨some 33, .load 1 false (.t 32), some (30, true), false, []⟩,
⟨some 34, .iaddr 1 (.t 31) (.t 33), some (30, true), false, []⟩,
⟨some 35, .load 1 false (.t 34), some (30, true), false, []⟩,
⟨some 36, .pick (.t 30) (.t 35) (.c (.bool false)), some (27, false), false, []⟩,
⟨some 37, .pick (.t 27) (.c (.bool true)) (.t 36), none, false, []⟩,
⟨some 38, .bslice 4 1 1 [.bool false] [(0, (.t 37))], none, false, []⟩,
⟨some 39, .app 4 1 1 [.bool false] (.t 21) (.t 38), none, false, []⟩,
⟨some 4, .mv (.t 39), none, false, []⟩]))) (.region false [
⟨some 40, .bin .add (.t 17) (.c (.int .i64 1)), none, false, []⟩,
⟨some 17, .mv (.t 40), none, false, []⟩]))))
def a92l0 : ACode := .loop [3, 4, 15, 16, 17] [2, 4] a92l0b
def a92 : AFunc := ⟨42, [.tmp 2], (.seq (.region false [
⟨some 1, .box 120 (.t 0), none, false, []⟩,
⟨some 2, .nils 1 (.c (.nilSlice)), none, false, []⟩]) (.seq (.region true [
⟨some 7, .load 2 true (.t 1), none, true, []⟩,
⟨some 8, .load 2 true (.t 1), none, false, []⟩,
⟨some 9, .call 135 [(.t 8)], none, true, []⟩,
⟨some 10, .load 2 true (.t 1), none, true, [2]⟩,
⟨some 11, .mkf 91 [(.t 10)] [], none, false, []⟩,
⟨some 12, .call 90 [(.t 7), (.t 9), (.t 11)], none, false, []⟩,
⟨some 3, .mv (.t 12), none, false, []⟩]) (.seq (.region false [
⟨some 4, .nils 1 (.c (.nilSlice)), none, false, []⟩]) (.seq (.seq (.region false [
⟨some 13, .faddr 0 (.t 1), none, false, []⟩,
⟨some 14, .faddr 1 (.t 13), none, false, []⟩,
⟨some 15, .load 1 false (.t 14), none, false, []⟩,
⟨some 16, .len false (.t 15), none, false, []⟩,
⟨some 17, .mv (.c (.int .i64 0)), none, false, []⟩]) (.block 0 a92l0)) (.seq (.region false [
⟨some 41, .mv (.t 4), none, false, []⟩,
⟨some 2, .mv (.t 41), none, false, []⟩]) .ret)))))⟩
def a93 : AFunc := ⟨25, [.cell 6 2 true], (.seq (.region false [
⟨some 3, .box 120 (.t 0), none, false, []⟩,
⟨some 6, .nalloc [4, 6] 120 [.nilSlice, .nilSlice], none, false, []⟩]) (.seq (.region true [
⟨some 8, .faddr 0 (.t 3), none, false, []⟩,
⟨some 9, .faddr 0 (.t 8), none, false, []⟩,
⟨some 10, .load 1 false (.t 9), none, true, []⟩,
⟨some 11, .faddr 0 (.t 3), none, false, []⟩,
⟨some 12, .faddr 1 (.t 11), none, false, []⟩,
⟨some 13, .load 1 false (.t 12), none, true, []⟩,
⟨some 14, .call 136 [(.t 13)], none, true, []⟩,
⟨some 15, .build [.nilSlice, .nilSlice] [(0, 1, (.t 10)), (1, 1, (.t 14))], none, false, []⟩,
⟨some 16, .build [.nilSlice, .nilSlice] [(0, 2, (.t 15))], none, false, []⟩,
⟨some 7, .alloc 120 [.nilSlice, .nilSlice], none, true, [6]⟩,
⟨none, .store 2 (.t 7) (.t 16), none, false, []⟩]) (.seq (.region false [
⟨some 17, .faddr 0 (.t 7), none, false, []⟩,
⟨some 18, .faddr 1 (.t 17), none, false, []⟩,
⟨some 19, .load 1 false (.t 18), none, false, []⟩,
⟨some 20, .mv (.t 1), none, false, []⟩,
⟨some 21, .mv (.t 2), none, false, []⟩,
⟨some 22, .iaddr 6 (.t 19) (.t 20), none, false, []⟩,
⟨some 23, .faddr 5 (.t 22), none, false, []⟩,
⟨none, .store 1 (.t 23) (.t 21), none, false, []⟩]) (.seq (.region false [
⟨some 24, .load 2 true (.t 7), none, false, []⟩,
⟨none, .store 2 (.t 6) (.t 24), none, false, []⟩]) .ret))))⟩
def a97l0b : ACode := (.seq (.seq (.region false [
⟨some 17, .mv (.t 8), none, false, []⟩,
⟨some 18, .faddr 1 (.t 1), none, false, []⟩,
⟨some 19, .load 1 false (.t 18), none, false, []⟩,
⟨some 20, .len false (.t 19), none, false, []⟩,
⟨some 21, .bin .lss (.t 17) (.t 20), none, false, []⟩]) (.cond (.t 21) .skip (.exit 0))) (.seq (.block 1 (.seq (.seq (.region false [
⟨some 24, .faddr 1 (.t 1), none, false, []⟩,
⟨some 25, .load 1 false (.t 24), none, false, []⟩,
⟨some 26, .mv (.t 8), none, false, []⟩,
⟨some 27, .iaddr 6 (.t 25) (.t 26), none, false, []⟩,
⟨some 28, .faddr 5 (.t 27), none, false, []⟩,
⟨some 29, .load 1 false (.t 28), none, false, []⟩,
⟨some 30, .un .not (.t 29), none, false, []⟩,
⟨some 31, .mv (.t 30), none, false, []⟩,
⟨some 32, .mv (.t 4), some (31, false), false, []⟩,
⟨some 33, .mv (.t 8), some (31, false), false, []⟩,
⟨some 34, .call 68 [(.t 32), (.t 33)], some (31, false), false, []⟩,
⟨some 35, .pick (.t 31) (.c (.bool true)) (.t 34), none, false, []⟩]) (.cond (.t 35) (.exit 1) .skip)) (.seq (.seq (.region false [
⟨some 36, .mv (.t 7), none, false, []⟩,
⟨some 37, .bin .geq (.t 36) (.c (.int .i64 0)), none, false, []⟩]) (.cond (.t 37) (.seq (.region false [
⟨some 2, .mv (.c (.int .i64 (-1))), none, false, []⟩,
⟨some 3, .mv (.c (.int .i64 8)), none, false, []⟩]) .ret) .skip)) (.region false [
⟨some 38, .mv (.t 8), none, false, []⟩,
⟨some 7, .mv (.t 38), none, false, []⟩])))) (.region false [
⟨some 22, .mv (.t 8), none, false, []⟩,
⟨some 23, .bin .add (.t 22) (.c (.int .i64 1)), none, false, []⟩,
⟨some 8, .mv (.t 23), none, false, []⟩])))
def a97l0 : ACode := .loop [1, 4, 7, 8] [2, 3, 7] a97l0b
def a97 : AFunc := ⟨40, [.tmp 2, .tmp 3], (.seq (.region false [
⟨some 1, .box 25 (.t 0), none, false, []⟩,
⟨some 2, .mv (.c (.int .i64 0)), none, false, []⟩,
⟨some 3, .mv (.c (.int .i64 0)), none, false, []⟩]) (.seq (.region false [
⟨some 10, .load 2 true (.t 1), none, false, []⟩,
⟨some 11, .call 137 [(.t 10)], none, false, []⟩,
⟨some 9, .mv (.t 11), none, false, []⟩,
⟨some 12, .ext (.t 9) 0, none, false, []⟩,
⟨some 13, .ext (.t 9) 1, none, false, []⟩,
⟨some 14, .ext (.t 9) 2, none, false, []⟩,
⟨some 4, .mv (.t 12), none, false, []⟩,
⟨some 5, .mv (.t 13), none, false, []⟩,
⟨some 6, .mv (.t 14), none, false, []⟩]) (.seq (.seq (.region false [
⟨some 15, .mv (.t 6), none, false, []⟩,
⟨some 16, .un .not (.t 15), none, false, []⟩]) (.cond (.t 16) (.seq (.region false [
⟨some 2, .mv (.c (.int .i64 (-1))), none, false, []⟩,
⟨some 3, .mv (.c (.int .i64 14)), none, false, []⟩]) .ret) .skip)) (.seq (.region false [
⟨some 7, .mv (.c (.int .i64 (-1))), none, false, []⟩]) (.seq (.seq (.region false [
⟨some 8, .mv (.c (.int .i64 0)), none, false, []⟩]) (.block 0 a97l0)) (.seq (.region false [
⟨some 39, .mv (.t 7), none, false, []⟩,
⟨some 2, .mv (.t 39), none, false, []⟩,
⟨some 3, .mv (.c (.int .i64 0)), none, false, []⟩]) .ret))))))⟩
def a98 : AFunc := ⟨19, [.cell 2 4 true, .tmp 3], (.seq (.region false [
⟨some 1, .box 25 (.t 0), none, false, []⟩,
⟨some 2, .nalloc [4, 6, 2, 0] 132 [.nilSlice, .nilSlice, .nilSlice, .int .i64 0], none, false, []⟩,
⟨some 3, .mv (.c (.int .i64 0)), none, false, []⟩]) (.seq (.region false [
⟨some 7, .load 2 true (.t 1), none, false, []⟩,
⟨some 8, .call 99 [(.t 7)], none, false, []⟩,
⟨some 6, .mv (.t 8), none, false, []⟩,
⟨some 9, .ext (.t 6) 0, none, false, []⟩,
⟨some 10, .ext (.t 6) 1, none, false, []⟩,
⟨some 4, .nalloc [4, 6, 2, 0] 132 [.nilSlice, .nilSlice, .nilSlice, .int .i64 0], none, false, []⟩,
⟨none, .store 4 (.t 4) (.t 9), none, false, []⟩,
⟨some 5, .mv (.t 10), none, false, []⟩]) (.seq (.region true [
⟨some 11, .load 4 true (.t 4), none, true, []⟩,
⟨some 12, .mv (.t 5), none, false, []⟩,
⟨some 13, .faddr 3 (.t 4), none, false, []⟩,
⟨some 14, .load 1 false (.t 13), none, false, []⟩,
⟨some 15, .bin .geq (.t 14) (.c (.int .i64 0)), none, false, []⟩,
⟨some 16, .call 72 [(.t 15), (.c (.int .i64 12))], none, true, []⟩,
⟨some 17, .bslice 28 1 2 [.int .i64 0] [(0, (.t 12)), (1, (.t 16))], none, true, []⟩,
⟨some 18, .call 71 [(.t 17)], none, true, []⟩,
⟨none, .store 4 (.t 2) (.t 11), none, false, []⟩,
⟨some 3, .mv (.t 18), none, false, []⟩]) .ret)))⟩
def a99 : AFunc := ⟨19, [.cell 2 4 true, .tmp 3], (.seq (.region false [
⟨some 1, .box 25 (.t 0), none, false, []⟩,
⟨some 2, .nalloc [4, 6, 2, 0] 132 [.nilSlice, .nilSlice, .nilSlice, .int .i64 0], none, false, []⟩,
⟨some 3, .mv (.c (.int .i64 0)), none, false, []⟩]) (.seq (.region false [
⟨some 7, .load 2 true (.t 1), none, false, []⟩,
⟨some 8, .call 87 [(.t 7)], none, false, []⟩,
⟨some 6, .mv (.t 8), none, false, []⟩,
⟨some 9, .ext (.t 6) 0, none, false, []⟩,
⟨some 10, .ext (.t 6) 1, none, false, []⟩,
⟨some 4, .nalloc [4, 6] 120 [.nilSlice, .nilSlice], none, false, []⟩,
⟨none, .store 2 (.t 4) (.t 9), none, false, []⟩,
⟨some 5, .mv (.t 10), none, false, []⟩]) (.seq (.seq (.region false [
⟨some 11, .mv (.t 5), none, false, []⟩,
⟨some 12, .bin .neq (.t 11) (.c (.int .i64 0)), none, false, []⟩]) (.cond (.t 12) (.seq (.region false [
⟨some 13, .nbuild [4, 6, 2, 0] [.nilSlice, .nilSlice, .nilSlice, .int .i64 0] [], none, false, []⟩,
⟨some 14, .mv (.t 5), none, false, []⟩,
⟨none, .store 4 (.t 2) (.t 13), none, false, []⟩,
⟨some 3, .mv (.t 14), none, false, []⟩]) .ret) .skip)) (.seq (.region false [
⟨some 15, .load 2 true (.t 4), none, false, []⟩,
⟨some 16, .call 138 [(.t 15)], none, false, []⟩,
⟨some 17, .ext (.t 16) 0, none, false, []⟩,
⟨some 18, .ext (.t 16) 1, none, false, []⟩,
⟨none, .store 4 (.t 2) (.t 17), none, false, []⟩,
⟨some 3, .mv (.t 18), none, false, []⟩]) .ret))))⟩
def a100 : AFunc := ⟨6, [.tmp 2], (.seq (.region false [
⟨some 2, .mv (.c (.int .i64 0)), none, false, []⟩]) (.seq (.region false [
⟨some 3, .mv (.t 0), none, false, []⟩,
⟨some 4, .call 73 [(.t 3), (.c (.int .i64 200000))], none, false, []⟩,
⟨some 5, .call 72 [(.t 4), (.c (.int .i64 2))], none, false, []⟩,
⟨some 2, .mv (.t 5), none, false, []⟩]) .ret))⟩
def a101l0b : ACode := (.seq (.region false [
⟨some 43, .bin .lss (.t 42) (.t 41), none, false, []⟩]) (.seq (.cond (.t 43) .skip (.exit 0)) (.seq (.block 1 (.seq (.region false [
⟨some 44, .mv (.t 42), none, false, []⟩,
⟨some 45, .iaddr 4 (.t 40) (.t 42), none, false, []⟩,
⟨some 46, .load 4 true (.t 45), none, false, []⟩,
⟨some 8, .alloc 64 [.str ByteArray.empty, .bool false, .int .i64 0, .int .i64 0], none, false, []⟩,
⟨some 7, .mv (.t 44), none, false, []⟩,
⟨none, .store 4 (.t 8) (.t 46), none, false, []⟩]) (.seq (.region false [
⟨some 47, .load 1 false (.t 6), none, false, []⟩,
⟨some 48, .mv (.t 7), none, false, []⟩,
⟨some 49, .faddr 3 (.t 8), none, false, []⟩,
⟨some 50, .load 1 false (.t 49), none, false, []⟩,
⟨some 51, .iaddr 1 (.t 47) (.t 48), none, false, []⟩,
⟨none, .store 1 (.t 51) (.t 50), none, false, []⟩]) (.region false [
⟨some 52, .faddr 1 (.t 5), none, false, []⟩,
⟨some 53, .load 1 false (.t 52), none, false, []⟩,
⟨some 54, .mv (.t 7), none, false, []⟩,
⟨some 55, .faddr 2 (.t 8), none, false, []⟩,
⟨some 56, .load 1 false (.t 55), none, false, []⟩,
⟨some 57, .bin .mul (.c (.int .i64 1000)) (.t 56), none, false, []⟩,
⟨some 58, .iaddr 1 (.t 53) (.t 54), none, false, []⟩,
⟨none, .store 1 (.t 58) (.t 57), none, false, []⟩])))) (.region false [
⟨some 59, .bin .add (.t 42) (.c (.int .i64 1)), none, false, []⟩,
⟨some 42, .mv (.t 59), none, false, []⟩]))))
def a101l0 : ACode := .loop [1, 2, 4, 5, 6, 40, 41, 42] [1, 2, 4, 5, 6] a101l0b
def a101r1A : ACode := (.region false [
⟨some 11, .alloc 168 [.int .i64 0, .int .i64 0], none, false, []⟩,
⟨none, .store 2 (.t 11) (.t 97), none, false, []⟩])
def a101r1a : ACode := a101r1A
def a101r1B : ACode := (.block 3 (.seq (.region false [
⟨some 99, .load 4 true (.t 2), none, false, []⟩,
⟨some 100, .load 2 true (.t 11), none, false, []⟩,
⟨some 101, .call 140 [(.t 99), (.t 100)], none, false, []⟩,
⟨some 98, .mv (.t 101), none, false, []⟩,
⟨some 102, .ext (.t 98) 0, none, false, []⟩,
⟨some 103, .ext (.t 98) 1, none, false, []⟩,
⟨some 12, .mv (.t 102), none, false, []⟩,
⟨some 13, .mv (.t 103), none, false, []⟩]) (.seq (.region true [
⟨some 104, .faddr 0 (.t 5), none, false, []⟩,
⟨some 105, .load 1 false (.t 104), none, false, []⟩,
⟨some 106, .faddr 0 (.t 11), none, false, []⟩,
⟨some 107, .load 1 false (.t 106), none, false, []⟩,
⟨some 108, .mv (.t 13), none, false, []⟩,
⟨some 109, .load 1 false (.t 6), none, false, []⟩,
⟨some 110, .faddr 1 (.t 11), none, false, []⟩,
⟨some 111, .load 1 false (.t 110), none, false, []⟩,
⟨some 112, .iaddr 1 (.t 109) (.t 111), none, false, []⟩,
⟨some 113, .load 1 false (.t 112), none, false, []⟩,
⟨some 114, .bin .mul (.t 108) (.t 113), none, false, []⟩,
⟨some 115, .iaddr 1 (.t 105) (.t 107), none, false, []⟩,
⟨none, .store 1 (.t 115) (.t 114), none, false, []⟩]) (.region true [
⟨some 116, .load 1 false (.t 6), none, false, []⟩,
⟨some 117, .mv (.t 12), none, false, []⟩,
⟨some 118, .iaddr 1 (.t 116) (.t 117), none, false, []⟩,
⟨some 119, .load 1 false (.t 118), none, false, []⟩,
⟨some 120, .load 1 false (.t 6), none, false, []⟩,
⟨some 121, .faddr 1 (.t 11), none, false, []⟩,
⟨some 122, .load 1 false (.t 121), none, false, []⟩,
⟨some 123, .iaddr 1 (.t 120) (.t 122), none, false, []⟩,
⟨some 124, .load 1 false (.t 123), none, false, []⟩,
⟨some 125, .bin .add (.t 119) (.t 124), none, false, []⟩,
⟨some 126, .iaddr 1 (.t 116) (.t 117), none, false, []⟩,
⟨none, .store 1 (.t 126) (.t 125), none, false, []⟩]))))
def a101r1b : ACode := a101r1B
def a101l2b : ACode := (.seq (.region false [
⟨some 131, .bin .lss (.t 130) (.t 129), none, false, []⟩]) (.seq (.cond (.t 131) .skip (.exit 4)) (.seq (.block 5 (.seq (.region false [
⟨some 132, .iaddr 2 (.t 128) (.t 130), none, false, []⟩,
⟨some 133, .load 2 true (.t 132), none, false, []⟩,
⟨some 15, .alloc 168 [.int .i64 0, .int .i64 0], none, false, []⟩,
⟨none, .store 2 (.t 15) (.t 133), none, false, []⟩]) (.seq (.region false [
⟨some 135, .load 4 true (.t 2), none, false, []⟩,
⟨some 136, .load 2 true (.t 15), none, false, []⟩,
⟨some 137, .call 140 [(.t 135), (.t 136)], none, false, []⟩,
⟨some 134, .mv (.t 137), none, false, []⟩,
⟨some 138, .ext (.t 134) 0, none, false, []⟩,
⟨some 139, .ext (.t 134) 1, none, false, []⟩,
⟨some 16, .mv (.t 138), none, false, []⟩,
⟨some 17, .mv (.t 139), none, false, []⟩]) (.region true [
⟨some 140, .faddr 1 (.t 5), none, false, []⟩,
⟨some 141, .load 1 false (.t 140), none, true, []⟩,
⟨some 142, .faddr 1 (.t 15), none, false, []⟩,
⟨some 143, .load 1 false (.t 142), none, true, []⟩,
⟨some 144, .faddr 1 (.t 5), none, false, []⟩,
⟨some 145, .load 1 false (.t 144), none, true, []⟩,
⟨some 146, .mv (.t 16), none, false, []⟩,
⟨some 147, .iaddr 1 (.t 145) (.t 146), none, false, []⟩,
⟨some 148, .load 1 false (.t 147), none, true, []⟩,
⟨some 149, .faddr 0 (.t 2), none, false, []⟩,
⟨some 150, .faddr 0 (.t 149), none, false, []⟩,
⟨some 151, .faddr 1 (.t 150), none, false, []⟩,
⟨some 152, .load 1 false (.t 151), none, false, []⟩,
⟨some 153, .faddr 0 (.t 15), none, false, []⟩,
⟨some 154, .load 1 false (.t 153), none, false, []⟩,
⟨some 155, .iaddr 6 (.t 152) (.t 154), none, false, []⟩,
⟨some 156, .faddr 3 (.t 155), none, false, []⟩,
⟨some 157, .load 1 false (.t 156), none, false, []⟩,
⟨some 158, .mv (.t 17), none, false, []⟩,
⟨some 159, .faddr 0 (.t 5), none, false, []⟩,
⟨some 160, .load 1 false (.t 159), none, false, []⟩,
⟨some 161, .faddr 0 (.t 15), none, false, []⟩,
⟨some 162, .load 1 false (.t 161), none, false, []⟩,
⟨some 163, .iaddr 1 (.t 160) (.t 162), none, false, []⟩,
⟨some 164, .load 1 false (.t 163), none, false, []⟩,
⟨some 165, .bin .mul (.t 158) (.t 164), none, false, []⟩,
⟨some 166, .call 77 [(.t 157), (.t 165)], none, true, []⟩,
⟨some 167, .bin .sub (.t 148) (.t 166), none, false, []⟩,
⟨some 168, .iaddr 1 (.t 141) (.t 143), none, false, []⟩,
⟨none, .store 1 (.t 168) (.t 167), none, false, []⟩])))) (.region false [
⟨some 169, .bin .add (.t 130) (.c (.int .i64 1)), none, false, []⟩,
⟨some 130, .mv (.t 169), none, false, []⟩]))))
def a101l2 : ACode := .loop [2, 4, 5, 128, 129, 130] [4, 5] a101l2b
def a101 : AFunc := ⟨171, [.cell 4 2 true], (.seq (.region false [
⟨some 2, .box 132 (.t 0), none, false, []⟩,
⟨some 4, .nalloc [1, 1] 60 [.nilSlice, .nilSlice], none, false, []⟩]) (.seq (.region true [
⟨some 18, .faddr 0 (.t 2), none, false, []⟩,
⟨some 19, .faddr 0 (.t 18), none, false, []⟩,
⟨some 20, .faddr 1 (.t 19), none, false, []⟩,
⟨some 21, .load 1 false (.t 20), none, true, []⟩,
⟨some 22, .len false (.t 21), none, false, []⟩,
⟨some 23, .mkslice 3 1 8 [.int .i64 0] (.t 22) (.t 22), none, true, []⟩,
⟨some 24, .faddr 0 (.t 2), none, false, []⟩,
⟨some 25, .faddr 0 (.t 24), none, false, []⟩,
⟨some 26, .faddr 0 (.t 25), none, false, []⟩,
⟨some 27, .load 1 false (.t 26), none, true, [5]⟩,
⟨some 28, .len false (.t 27), none, false, []⟩,
⟨some 29, .mkslice 3 1 8 [.int .i64 0] (.t 28) (.t 28), none, true, [5]⟩,
⟨some 30, .build [.nilSlice, .nilSlice] [(0, 1, (.t 23)), (1, 1, (.t 29))], none, false, []⟩,
⟨some 5, .alloc 60 [.nilSlice, .nilSlice], none, true, [5, 11]⟩,
⟨none, .store 2 (.t 5) (.t 30), none, false, []⟩]) (.seq (.region false [
⟨some 31, .faddr 0 (.t 2), none, false, []⟩,
⟨some 32, .faddr 0 (.t 31), none, false, []⟩,
⟨some 33, .faddr 0 (.t 32), none, false, []⟩,
⟨some 34, .load 1 false (.t 33), none, false, []⟩,
⟨some 35, .len false (.t 34), none, false, []⟩,
⟨some 36, .mkslice 3 1 8 [.int .i64 0] (.t 35) (.t 35), none, false, []⟩,
⟨some 6, .nalloc [1] 39 [.nilSlice], none, false, []⟩,
⟨none, .store 1 (.t 6) (.t 36), none, false, []⟩]) (.seq (.seq (.region false [
⟨some 37, .faddr 0 (.t 2), none, false, []⟩,
⟨some 38, .faddr 0 (.t 37), none, false, []⟩,
⟨some 39, .faddr 0 (.t 38), none, false, []⟩,
⟨some 40, .load 1 false (.t 39), none, false, []⟩,
⟨some 41, .len false (.t 40), none, false, []⟩,
⟨some 42, .mv (.c (.int .i64 0)), none, false, []⟩]) (.block 0 a101l0)) (.seq (.seq (.region false [
⟨some 60, .faddr 3 (.t 2), none, false, []⟩,
⟨some 61, .load 1 false (.t 60), none, false, []⟩,
⟨some 62, .bin .geq (.t 61) (.c (.int .i64 0)), none, false, []⟩]) (.cond (.t 62) (.seq (.region false [
⟨some 63, .faddr 0 (.t 2), none, false, []⟩,
⟨some 64, .faddr 0 (.t 63), none, false, []⟩,
⟨some 65, .faddr 1 (.t 64), none, false, []⟩,
⟨some 66, .load 1 false (.t 65), none, false, []⟩,
⟨some 67, .faddr 3 (.t 2), none, false, []⟩,
⟨some 68, .load 1 false (.t 67), none, false, []⟩,
⟨some 69, .iaddr 6 (.t 66) (.t 68), none, false, []⟩,
⟨some 70, .load 6 true (.t 69), none, false, []⟩,
⟨some 9, .alloc 58 [.str ByteArray.empty, .int .i64 0, .int .i64 0, .int .i64 0, .bool false, .bool false], none, false, []⟩,
⟨none, .store 6 (.t 9) (.t 70), none, false, []⟩]) (.seq (.region false [
⟨some 71, .faddr 0 (.t 5), none, false, []⟩,
⟨some 72, .load 1 false (.t 71), none, false, []⟩,
⟨some 73, .faddr 3 (.t 2), none, false, []⟩,
⟨some 74, .load 1 false (.t 73), none, false, []⟩,
⟨some 75, .mv (.t 1), none, false, []⟩,
⟨some 76, .iaddr 1 (.t 72) (.t 74), none, false, []⟩,
⟨none, .store 1 (.t 76) (.t 75), none, false, []⟩]) (.seq (.region false [
⟨some 77, .load 1 false (.t 6), none, false, []⟩,
⟨some 78, .faddr 1 (.t 9), none, false, []⟩,
⟨some 79, .load 1 false (.t 78), none, false, []⟩,
⟨some 80, .iaddr 1 (.t 77) (.t 79), none, false, []⟩,
⟨some 81, .load 1 false (.t 80), none, false, []⟩,
⟨some 82, .mv (.t 1), none, false, []⟩,
⟨some 83, .bin .add (.t 81) (.t 82), none, false, []⟩,
⟨some 84, .iaddr 1 (.t 77) (.t 79), none, false, []⟩,
⟨none, .store 1 (.t 84) (.t 83), none, false, []⟩]) (.region false [
⟨some 85, .load 1 false (.t 6), none, false, []⟩,
⟨some 86, .faddr 2 (.t 9), none, false, []⟩,
⟨some 87, .load 1 false (.t 86), none, false, []⟩,
⟨some 88, .iaddr 1 (.t 85) (.t 87), none, false, []⟩,
⟨some 89, .load 1 false (.t 88), none, false, []⟩,
⟨some 90, .mv (.t 1), none, false, []⟩,
⟨some 91, .bin .sub (.t 89) (.t 90), none, false, []⟩,
⟨some 92, .iaddr 1 (.t 85) (.t 87), none, false, []⟩,
⟨none, .store 1 (.t 92) (.t 91), none, false, []⟩])))) .skip)) (.seq (.seq (.region false [
⟨some 93, .faddr 2 (.t 2), none, false, []⟩,
⟨some 94, .load 1 false (.t 93), none, false, []⟩,
⟨some 95, .call 139 [(.t 94)], none, false, []⟩]) (.block 2 (.rangeFunc [2, 4, 5, 6] (.t 95) [96, 97] a101r1a a101r1b))) (.seq (.seq (.region false [
⟨some 127, .faddr 2 (.t 2), none, false, []⟩,
⟨some 128, .load 1 false (.t 127), none, false, []⟩,
⟨some 129, .len false (.t 128), none, false, []⟩,
⟨some 130, .mv (.c (.int .i64 0)), none, false, []⟩]) (.block 4 a101l2)) (.seq (.region false [
⟨some 170, .load 2 true (.t 5), none, false, []⟩,
⟨none, .store 2 (.t 4) (.t 170), none, false, []⟩]) .ret))))))))⟩
def a102 : AFunc := ⟨36, [.tmp 4], (.seq (.region false [
⟨some 2, .box 132 (.t 0), none, false, []⟩,
⟨some 4, .mv (.c (.int .i64 0)), none, false, []⟩]) (.seq (.region false [
⟨some 7, .faddr 0 (.t 2), none, false, []⟩,
⟨some 8, .faddr 0 (.t 7), none, false, []⟩,
⟨some 9, .faddr 1 (.t 8), none, false, []⟩,
⟨some 10, .load 1 false (.t 9), none, false, []⟩,
⟨some 11, .faddr 3 (.t 2), none, false, []⟩,
⟨some 12, .load 1 false (.t 11), none, false, []⟩,
⟨some 13, .iaddr 6 (.t 10) (.t 12), none, false, []⟩,
⟨some 14, .load 6 true (.t 13), none, false, []⟩,
⟨some 5, .alloc 58 [.str ByteArray.empty, .int .i64 0, .int .i64 0, .int .i64 0, .bool false, .bool false], none, false, []⟩,
⟨none, .store 6 (.t 5) (.t 14), none, false, []⟩]) (.seq (.region false [
⟨some 15, .load 4 true (.t 2), none, false, []⟩,
⟨some 16, .mv (.t 1), none, false, []⟩,
⟨some 17, .call 101 [(.t 15), (.t 16)], none, false, []⟩,
⟨some 6, .nalloc [1, 1] 60 [.nilSlice, .nilSlice], none, false, []⟩,
⟨none, .store 2 (.t 6) (.t 17), none, false, []⟩]) (.seq (.region true [
⟨some 18, .faddr 3 (.t 5), none, false, []⟩,
⟨some 19, .load 1 false (.t 18), none, false, []⟩,
⟨some 20, .mv (.t 1), none, false, []⟩,
⟨some 21, .call 77 [(.t 19), (.t 20)], none, true, []⟩,
⟨some 22, .faddr 1 (.t 6), none, false, []⟩,
⟨some 23, .load 1 false (.t 22), none, true, [3]⟩,
⟨some 24, .faddr 1 (.t 5), none, false, []⟩,
⟨some 25, .load 1 false (.t 24), none, true, [3]⟩,
⟨some 26, .iaddr 1 (.t 23) (.t 25), none, false, []⟩,
⟨some 27, .load 1 false (.t 26), none, true, [3]⟩,
⟨some 28, .faddr 1 (.t 6), none, false, []⟩,
⟨some 29, .load 1 false (.t 28), none, true, [3]⟩,
⟨some 30, .faddr 2 (.t 5), none, false, []⟩,
⟨some 31, .load 1 false (.t 30), none, true, [3]⟩,
⟨some 32, .iaddr 1 (.t 29) (.t 31), none, false, []⟩,
⟨some 33, .load 1 false (.t 32), none, true, [3]⟩,
⟨some 34, .bin .sub (.t 27) (.t 33), none, false, []⟩,
⟨some 35, .bin .sub (.t 21) (.t 34), none, false, []⟩,
⟨some 4, .mv (.t 35), none, false, []⟩]) .ret))))⟩
def a106 : AFunc := ⟨20, [.cell 2 4 true, .tmp 3], (.seq (.region false [
⟨some 1, .box 25 (.t 0), none, false, []⟩,
⟨some 2, .nalloc [4, 6, 2, 0] 132 [.nilSlice, .nilSlice, .nilSlice, .int .i64 0], none, false, []⟩,
⟨some 3, .mv (.c (.int .i64 0)), none, false, []⟩]) (.seq (.region false [
⟨some 7, .load 2 true (.t 1), none, false, []⟩,
⟨some 8, .call 99 [(.t 7)], none, false, []⟩,
⟨some 6, .mv (.t 8), none, false, []⟩,
⟨some 9, .ext (.t 6) 0, none, false, []⟩,
⟨some 10, .ext (.t 6) 1, none, false, []⟩,
⟨some 4, .nalloc [4, 6, 2, 0] 132 [.nilSlice, .nilSlice, .nilSlice, .int .i64 0], none, false, []⟩,
⟨none, .store 4 (.t 4) (.t 9), none, false, []⟩,
⟨some 5, .mv (.t 10), none, false, []⟩]) (.seq (.seq (.region false [
⟨some 11, .mv (.t 5), none, false, []⟩,
⟨some 12, .bin .neq (.t 11) (.c (.int .i64 0)), none, false, []⟩]) (.cond (.t 12) (.seq (.region false [
⟨some 13, .load 4 true (.t 4), none, false, []⟩,
⟨some 14, .mv (.t 5), none, false, []⟩,
⟨none, .store 4 (.t 2) (.t 13), none, false, []⟩,
⟨some 3, .mv (.t 14), none, false, []⟩]) .ret) .skip)) (.seq (.region true [
⟨some 15, .load 4 true (.t 4), none, true, []⟩,
⟨some 16, .load 4 true (.t 4), none, false, []⟩,
⟨some 17, .call 108 [(.t 16)], none, true, []⟩,
⟨some 18, .un .not (.t 17), none, false, []⟩,
⟨some 19, .call 72 [(.t 18), (.c (.int .i64 11))], none, true, []⟩,
⟨none, .store 4 (.t 2) (.t 15), none, false, []⟩,
⟨some 3, .mv (.t 19), none, false, []⟩]) .ret))))⟩
def a107 : AFunc := ⟨21, [.cell 2 2 true], (.seq (.region false [
⟨some 1, .box 132 (.t 0), none, false, []⟩,
⟨some 2, .alloc 43 [.int .i64 0, .int .i64 0], none, false, []⟩]) (.seq (.seq (.region false [
⟨some 4, .faddr 3 (.t 1), none, false, []⟩,
⟨some 5, .load 1 false (.t 4), none, false, []⟩,
⟨some 6, .bin .lss (.t 5) (.c (.int .i64 0)), none, false, []⟩]) (.cond (.t 6) (.seq (.region false [
⟨some 7, .build [.int .i64 0, .int .i64 0] [], none, false, []⟩,
⟨none, .store 2 (.t 2) (.t 7), none, false, []⟩]) .ret) .skip)) (.seq (.region false [
⟨some 8, .mkf 141 [] [(.t 1)], none, false, []⟩,
⟨some 9, .call 84 [(.c (.int .i64 (-200000))), (.c (.int .i64 200000)), (.t 8)], none, false, []⟩,
⟨some 3, .mv (.t 9), none, false, []⟩]) (.seq (.seq (.region false [
⟨some 10, .load 4 true (.t 1), none, false, []⟩,
⟨some 11, .mv (.t 3), none, false, []⟩,
⟨some 12, .call 102 [(.t 10), (.t 11)], none, false, []⟩,
⟨some 13, .bin .eql (.t 12) (.c (.int .i64 0)), none, false, []⟩]) (.cond (.t 13) (.seq (.region false [
⟨some 14, .mv (.t 3), none, false, []⟩,
⟨some 15, .mv (.t 3), none, false, []⟩,
⟨some 16, .build [.int .i64 0, .int .i64 0] [(0, 1, (.t 14)), (1, 1, (.t 15))], none, false, []⟩,
⟨none, .store 2 (.t 2) (.t 16), none, false, []⟩]) .ret) .skip)) (.seq (.region false [
⟨some 17, .mv (.t 3), none, false, []⟩,
⟨some 18, .bin .sub (.t 17) (.c (.int .i64 1)), none, false, []⟩,
⟨some 19, .mv (.t 3), none, false, []⟩,
⟨some 20, .build [.int .i64 0, .int .i64 0] [(0, 1, (.t 18)), (1, 1, (.t 19))], none, false, []⟩,
⟨none, .store 2 (.t 2) (.t 20), none, false, []⟩]) .ret)))))⟩
def a108 : AFunc := ⟨13, [.tmp 2], (.seq (.region false [
⟨some 1, .box 132 (.t 0), none, false, []⟩,
⟨some 2, .mv (.c (.bool false)), none, false, []⟩]) (.seq (.region true [
⟨some 3, .faddr 3 (.t 1), none, false, []⟩,
⟨some 4, .load 1 false (.t 3), none, false, []⟩,
⟨some 5, .bin .geq (.t 4) (.c (.int .i64 0)), none, false, []⟩,
⟨some 6, .mv (.t 5), none, false, []⟩,
⟨some 7, .load 4 true (.t 1), some (6, true), false, []⟩,
⟨some 8, .call 102 [(.t 7), (.c (.int .i64 (-200000)))], some (6, true), true, []⟩,
⟨some 9, .load 4 true (.t 1), some (6, true), true, [5]⟩,
⟨some 10, .call 102 [(.t 9), (.c (.int .i64 200000))], some (6, true), false, []⟩,
⟨some 11, .bin .eql (.t 8) (.t 10), some (6, true), false, []⟩,
⟨some 12, .pick (.t 6) (.t 11) (.c (.bool false)), none, false, []⟩,
⟨some 2, .mv (.t 12), none, false, []⟩]) .ret))⟩
def a115 : AFunc := ⟨31, [.cell 4 2 true, .tmp 5], (.seq (.region false [
⟨some 2, .box 25 (.t 0), none, false, []⟩,
⟨some 3, .box 87 (.t 1), none, false, []⟩,
⟨some 4, .nalloc [4, 6] 120 [.nilSlice, .nilSlice], none, false, []⟩,
⟨some 5, .mv (.c (.int .i64 0)), none, false, []⟩]) (.seq (.region false [
⟨some 9, .load 2 true (.t 2), none, false, []⟩,
⟨some 10, .call 87 [(.t 9)], none, false, []⟩,
⟨some 8, .mv (.t 10), none, false, []⟩,
⟨some 11, .ext (.t 8) 0, none, false, []⟩,
⟨some 12, .ext (.t 8) 1, none, false, []⟩,
⟨some 6, .nalloc [4, 6] 120 [.nilSlice, .nilSlice], none, false, []⟩,
⟨none, .store 2 (.t 6) (.t 11), none, false, []⟩,
⟨some 7, .mv (.t 12), none, false, []⟩]) (.seq (.region true [
⟨some 13, .load 2 true (.t 6), none, true, []⟩,
⟨some 14, .mv (.t 7), none, false, []⟩,
⟨some 15, .load 2 true (.t 6), none, false, []⟩,
⟨some 16, .faddr 0 (.t 3), none, false, []⟩,
⟨some 17, .load 1 false (.t 16), none, false, []⟩,
⟨some 18, .call 88 [(.t 15), (.t 17)], none, true, []⟩,
⟨some 19, .load 2 true (.t 6), none, true, [5]⟩,
⟨some 20, .faddr 1 (.t 3), none, false, []⟩,
⟨some 21, .load 1 false (.t 20), none, true, [5]⟩,
⟨some 22, .call 88 [(.t 19), (.t 21)], none, true, []⟩,
⟨some 23, .faddr 0 (.t 3), none, false, []⟩,
⟨some 24, .load 1 false (.t 23), none, true, [5, 9]⟩,
⟨some 25, .faddr 1 (.t 3), none, false, []⟩,
⟨some 26, .load 1 false (.t 25), none, true, [5, 9]⟩,
⟨some 27, .bin .neq (.t 24) (.t 26), none, false, []⟩,
⟨some 28, .call 72 [(.t 27), (.c (.int .i64 13))], none, true, []⟩,
⟨some 29, .bslice 28 1 4 [.int .i64 0] [(0, (.t 14)), (1, (.t 18)), (2, (.t 22)), (3, (.t 28))], none, true, []⟩,
⟨some 30, .call 71 [(.t 29)], none, true, []⟩,
⟨none, .store 2 (.t 4) (.t 13), none, false, []⟩,
⟨some 5, .mv (.t 30), none, false, []⟩]) .ret)))⟩
def a116l0b : ACode := (.seq (.region false [
⟨some 18, .bin .lss (.t 17) (.t 16), none, false, []⟩]) (.seq (.cond (.t 18) .skip (.exit 0)) (.seq (.block 1 (.seq (.region false [
⟨some 19, .mv (.t 17), none, false, []⟩,
⟨some 20, .iaddr 6 (.t 15) (.t 17), none, false, []⟩,
⟨some 21, .load 6 true (.t 20), none, false, []⟩,
⟨some 8, .alloc 58 [.str ByteArray.empty, .int .i64 0, .int .i64 0, .int .i64 0, .bool false, .bool false], none, false, []⟩,
⟨some 7, .mv (.t 19), none, false, []⟩,
⟨none, .store 6 (.t 8) (.t 21), none, false, []⟩]) (.seq (.region false [
⟨some 22, .faddr 4 (.t 8), none, false, []⟩,
⟨some 23, .load 1 false (.t 22), none, false, []⟩,
⟨some 24, .mv (.t 23), none, false, []⟩,
⟨some 25, .faddr 5 (.t 8), some (24, true), false, []⟩,
⟨some 26, .load 1 false (.t 25), some (24, true), false, []⟩,
⟨some 27, .pick (.t 24) (.t 26) (.c (.bool false)), none, false, []⟩]) (.cond (.t 27) (.region false [
⟨some 28, .mv (.t 6), none, false, []⟩,
⟨some 29, .mv (.t 7), none, false, []⟩,
⟨some 30, .bslice 3 1 1 [.int .i64 0] [(0, (.t 29))], none, false, []⟩,
⟨some 31, .app 3 1 8 [.int .i64 0] (.t 28) (.t 30), none, false, []⟩,
⟨some 6, .mv (.t 31), none, false, []⟩]) .skip)))) (.region false [
⟨some 32, .bin .add (.t 17) (.c (.int .i64 1)), none, false, []⟩,
⟨some 17, .mv (.t 32), none, false, []⟩]))))
def a116l0 : ACode := .loop [2, 3, 6, 15, 16, 17] [2, 3, 4, 5, 6] a116l0b
def a116l1b : ACode := (.seq (.region false [
⟨some 38, .bin .lss (.t 37) (.t 36), none, false, []⟩]) (.seq (.cond (.t 38) .skip (.exit 2)) (.seq (.block 3 (.seq (.region false [
⟨some 39, .mv (.t 37), none, false, []⟩,
⟨some 10, .mv (.t 39), none, false, []⟩]) (.seq (.region false [
⟨some 41, .mv (.t 6), none, false, []⟩,
⟨some 42, .mv (.t 10), none, false, []⟩,
⟨some 43, .mv (.t 9), none, false, []⟩,
⟨some 44, .call 148 [(.c (.nilSlice)), (.t 41), (.t 42), (.t 43)], none, false, []⟩,
⟨some 40, .mv (.t 44), none, false, []⟩,
⟨some 45, .ext (.t 40) 0, none, false, []⟩,
⟨some 46, .ext (.t 40) 1, none, false, []⟩,
⟨some 11, .mv (.t 45), none, false, []⟩,
⟨some 12, .mv (.t 46), none, false, []⟩]) (.seq (.region false [
⟨some 47, .mv (.t 12), none, false, []⟩]) (.cond (.t 47) (.seq (.region false [
⟨some 48, .mv (.t 11), none, false, []⟩,
⟨some 4, .mv (.t 48), none, false, []⟩,
⟨some 5, .mv (.c (.bool true)), none, false, []⟩]) .ret) .skip))))) (.region false [
⟨some 49, .bin .add (.t 37) (.c (.int .i64 1)), none, false, []⟩,
⟨some 37, .mv (.t 49), none, false, []⟩]))))
def a116l1 : ACode := .loop [6, 9, 36, 37] [4, 5] a116l1b
def a116 : AFunc := ⟨50, [.tmp 4, .tmp 5], (.seq (.region false [
⟨some 2, .box 120 (.t 0), none, false, []⟩,
⟨some 3, .box 87 (.t 1), none, false, []⟩,
⟨some 4, .nils 1 (.c (.nilSlice)), none, false, []⟩,
⟨some 5, .mv (.c (.bool false)), none, false, []⟩]) (.seq (.region false [
⟨some 6, .nils 1 (.c (.nilSlice)), none, false, []⟩]) (.seq (.seq (.region false [
⟨some 13, .faddr 0 (.t 2), none, false, []⟩,
⟨some 14, .faddr 1 (.t 13), none, false, []⟩,
⟨some 15, .load 1 false (.t 14), none, false, []⟩,
⟨some 16, .len false (.t 15), none, false, []⟩,
⟨some 17, .mv (.c (.int .i64 0)), none, false, []⟩]) (.block 0 a116l0)) (.seq (.region false [
⟨some 33, .mkf 144 [] [(.t 2), (.t 3)], none, false, []⟩,
⟨some 9, .mv (.t 33), none, false, []⟩]) (.seq (.seq (.region false [
⟨some 34, .mv (.t 6), none, false, []⟩,
⟨some 35, .len false (.t 34), none, false, []⟩,
⟨some 36, .bin .add (.t 35) (.c (.int .i64 1)), none, false, []⟩,
⟨some 37, .mv (.c (.int .i64 0)), none, false, []⟩]) (.block 2 a116l1)) (.seq (.region false [
⟨some 4, .nils 1 (.c (.nilSlice)), none, false, []⟩,
⟨some 5, .mv (.c (.bool false)), none, false, []⟩]) .ret))))))⟩
def a117 : AFunc := ⟨8, [.tmp 2], (.seq (.region false [
⟨some 2, .nils 1 (.c (.nilSlice)), none, false, []⟩]) (.seq (.seq (.region false [
⟨some 3, .mv (.t 0), none, false, []⟩,
⟨some 4, .eq false [9] (.t 3) (.c (.nilSlice)), none, false, []⟩]) (.cond (.t 4) (.seq (.region false [
⟨some 2, .nils 1 (.c (.nilSlice)), none, false, []⟩]) .ret) .skip)) (.seq (.region false [
⟨some 5, .bslice 3 1 0 [.int .i64 0] [], none, false, []⟩,
⟨some 6, .mv (.t 0), none, false, []⟩,
⟨some 7, .app 3 1 8 [.int .i64 0] (.t 5) (.t 6), none, false, []⟩,
⟨some 2, .mv (.t 7), none, false, []⟩]) .ret)))⟩
def a119 : AFunc := ⟨9, [.tmp 4], (.seq (.region false [
⟨some 4, .mv (.c (.bool false)), none, false, []⟩]) (.seq (.region false [
⟨some 5, .mv (.t 0), none, false, []⟩,
⟨some 6, .mv (.t 1), none, false, []⟩,
⟨some 7, .call 149 [(.t 5), (.t 6)], none, false, []⟩,
⟨some 8, .bin .geq (.t 7) (.c (.int .i64 0)), none, false, []⟩,
⟨some 4, .mv (.t 8), none, false, []⟩]) .ret))⟩
def a131l0b : ACode := (.seq (.seq (.region false [
⟨some 14, .mv (.t 3), none, false, []⟩,
⟨some 15, .mv (.t 0), none, false, []⟩,
⟨some 16, .len true (.t 15), none, false, []⟩,
⟨some 17, .bin .lss (.t 14) (.t 16), none, false, []⟩]) (.cond (.t 17) .skip (.exit 0))) (.seq (.block 1 (.seq (.region false [
⟨some 20, .mv (.t 0), none, false, []⟩,
⟨some 21, .mv (.t 3), none, false, []⟩,
⟨some 22, .sindex (.t 20) (.t 21), none, false, []⟩,
⟨some 4, .mv (.t 22), none, false, []⟩]) (.seq (.region false [
⟨some 23, .mv (.t 4), none, false, []⟩,
⟨some 24, .bin .geq (.t 23) (.c (.int .u8 97)), none, false, []⟩,
⟨some 25, .mv (.t 24), none, false, []⟩,
⟨some 26, .mv (.t 4), some (25, true), false, []⟩,
⟨some 27, .bin .leq (.t 26) (.c (.int .u8 122)), some (25, true), false, []⟩,
⟨some 28, .pick (.t 25) (.t 27) (.c (.bool false)), none, false, []⟩,
⟨some 29, .mv (.t 28), none, false, []⟩,
⟨some 30, .mv (.t 4), some (29, false), false, []⟩,
⟨some 31, .bin .geq (.t 30) (.c (.int .u8 65)), some (29, false), false, []⟩,
⟨some 32, .mv (.t 31), some (29, false), false, []⟩,
⟨some 33, .mv (.t 4), some (32, true), false, []⟩,
⟨some 34, .bin .leq (.t 33) (.c (.int .u8 90)), some (32, true), false, []⟩,
⟨some 35, .pick (.t 32) (.t 34) (.c (.bool false)), some (29, false), false, []⟩,
⟨some 36, .pick (.t 29) (.c (.bool true)) (.t 35), none, false, []⟩,
⟨some 5, .mv (.t 36), none, false, []⟩]) (.seq (.region false [
⟨some 37, .mv (.t 5), none, false, []⟩,
⟨some 38, .un .not (.t 37), none, false, []⟩,
⟨some 39, .mv (.t 38), none, false, []⟩,
⟨some 40, .mv (.t 3), some (39, true), false, []⟩,
⟨some 41, .bin .eql (.t 40) (.c (.int .i64 0)), some (39, true), false, []⟩,
⟨some 42, .mv (.t 41), some (39, true), false, []⟩,
⟨some 43, .mv (.t 4), some (42, false), false, []⟩,
⟨some 44, .bin .neq (.t 43) (.c (.int .u8 45)), some (42, false), false, []⟩,
⟨some 45, .mv (.t 44), some (42, false), false, []⟩,
⟨some 46, .mv (.t 4), some (45, true), false, []⟩,
⟨some 47, .bin .lss (.t 46) (.c (.int .u8 48)), some (45, true), false, []⟩,
⟨some 48, .mv (.t 47), some (45, true), false, []⟩,
⟨some 49, .mv (.t 4), some (48, false), false, []⟩,
⟨some 50, .bin .gtr (.t 49) (.c (.int .u8 57)), some (48, false), false, []⟩,
⟨some 51, .pick (.t 48) (.c (.bool true)) (.t 50), some (45, true), false, []⟩,
⟨some 52, .pick (.t 45) (.t 51) (.c (.bool false)), some (42, false), false, []⟩,
⟨some 53, .pick (.t 42) (.c (.bool true)) (.t 52), some (39, true), false, []⟩,
⟨some 54, .pick (.t 39) (.t 53) (.c (.bool false)), none, false, []⟩]) (.cond (.t 54) (.seq (.region false [
⟨some 2, .mv (.c (.bool false)), none, false, []⟩]) .ret) .skip))))) (.region false [
⟨some 18, .mv (.t 3), none, false, []⟩,
⟨some 19, .bin .add (.t 18) (.c (.int .i64 1)), none, false, []⟩,
⟨some 3, .mv (.t 19), none, false, []⟩])))
def a131l0 : ACode := .loop [0, 3] [2] a131l0b
def a131 : AFunc := ⟨55, [.tmp 2], (.seq (.region false [
⟨some 2, .mv (.c (.bool false)), none, false, []⟩]) (.seq (.seq (.region false [
⟨some 6, .mv (.t 0), none, false, []⟩,
⟨some 7, .len true (.t 6), none, false, []⟩,
⟨some 8, .bin .lss (.t 7) (.c (.int .i64 1)), none, false, []⟩,
⟨some 9, .mv (.t 8), none, false, []⟩,
⟨some 10, .mv (.t 0), some (9, false), false, []⟩,
⟨some 11, .len true (.t 10), some (9, false), false, []⟩,
⟨some 12, .bin .gtr (.t 11) (.c (.int .i64 12)), some (9, false), false, []⟩,
⟨some 13, .pick (.t 9) (.c (.bool true)) (.t 12), none, false, []⟩]) (.cond (.t 13) (.seq (.region false [
⟨some 2, .mv (.c (.bool false)), none, false, []⟩]) .ret) .skip)) (.seq (.seq (.region false [
⟨some 3, .mv (.c (.int .i64 0)), none, false, []⟩]) (.block 0 a131l0)) (.seq (.region false [
⟨some 2, .mv (.c (.bool true)), none, false, []⟩]) .ret))))⟩
def a132l0b : ACode := (.seq (.seq (.region false [
⟨some 6, .mv (.t 5), none, false, []⟩,
⟨some 7, .mv (.t 0), none, false, []⟩,
⟨some 8, .len false (.t 7), none, false, []⟩,
⟨some 9, .bin .lss (.t 6) (.t 8), none, false, []⟩]) (.cond (.t 9) .skip (.exit 0))) (.seq (.block 1 (.seq (.region false [
⟨some 12, .mv (.t 0), none, false, []⟩,
⟨some 13, .mv (.t 5), none, false, []⟩,
⟨some 14, .iaddr 1 (.t 12) (.t 13), none, false, []⟩,
⟨some 15, .load 1 false (.t 14), none, false, []⟩,
⟨some 16, .mv (.t 1), none, false, []⟩,
⟨some 17, .bin .eql (.t 15) (.t 16), none, false, []⟩]) (.cond (.t 17) (.seq (.region false [
⟨some 4, .mv (.c (.bool true)), none, false, []⟩]) .ret) .skip))) (.region false [
⟨some 10, .mv (.t 5), none, false, []⟩,
⟨some 11, .bin .add (.t 10) (.c (.int .i64 1)), none, false, []⟩,
⟨some 5, .mv (.t 11), none, false, []⟩])))
def a132l0 : ACode := .loop [0, 1, 5] [4] a132l0b
def a132 : AFunc := ⟨18, [.tmp 4], (.seq (.region false [
⟨some 4, .mv (.c (.bool false)), none, false, []⟩]) (.seq (.seq (.region false [
⟨some 5, .mv (.c (.int .i64 0)), none, false, []⟩]) (.block 0 a132l0)) (.seq (.region false [
⟨some 4, .mv (.c (.bool false)), none, false, []⟩]) .ret)))⟩
def a133 : AFunc := ⟨6, [.tmp 2], (.seq (.region false [
⟨some 2, .mv (.c (.bool false)), none, false, []⟩]) (.seq (.region false [
⟨some 3, .mv (.t 0), none, false, []⟩,
⟨some 4, .call 74 [(.t 3), (.c (.int .i64 1)), (.c (.int .i64 1000))], none, false, []⟩,
⟨some 5, .un .not (.t 4), none, false, []⟩,
⟨some 2, .mv (.t 5), none, false, []⟩]) .ret))⟩
def a134 : AFunc := ⟨12, [.tmp 4], (.seq (.region false [
⟨some 4, .mv (.c (.bool false)), none, false, []⟩]) (.seq (.region false [
⟨some 5, .load 1 false (.t 1), none, false, []⟩,
⟨some 6, .mv (.t 0), none, false, []⟩,
⟨some 7, .bin .mul (.t 5) (.t 6), none, false, []⟩,
⟨some 8, .mv (.t 0), none, false, []⟩,
⟨some 9, .bin .mul (.t 7) (.t 8), none, false, []⟩,
⟨some 10, .load 1 false (.t 2), none, false, []⟩,
⟨some 11, .bin .geq (.t 9) (.t 10), none, false, []⟩,
⟨some 4, .mv (.t 11), none, false, []⟩]) .ret))⟩
def a135l0b : ACode := (.seq (.region false [
⟨some 11, .bin .lss (.t 10) (.t 9), none, false, []⟩]) (.seq (.cond (.t 11) .skip (.exit 0)) (.seq (.block 1 (.seq (.region false [
⟨some 12, .mv (.t 10), none, false, []⟩,
⟨some 13, .iaddr 4 (.t 8) (.t 10), none, false, []⟩,
⟨some 14, .load 4 true (.t 13), none, false, []⟩,
⟨some 5, .alloc 64 [.str ByteArray.empty, .bool false, .int .i64 0, .int .i64 0], none, false, []⟩,
⟨some 4, .mv (.t 12), none, false, []⟩,
⟨none, .store 4 (.t 5) (.t 14), none, false, []⟩]) (.seq (.region false [
⟨some 15, .faddr 1 (.t 5), none, false, []⟩,
⟨some 16, .load 1 false (.t 15), none, false, []⟩]) (.cond (.t 16) (.region false [
⟨some 17, .mv (.t 3), none, false, []⟩,
⟨some 18, .mv (.t 4), none, false, []⟩,
⟨some 19, .bslice 3 1 1 [.int .i64 0] [(0, (.t 18))], none, false, []⟩,
⟨some 20, .app 3 1 8 [.int .i64 0] (.t 17) (.t 19), none, false, []⟩,
⟨some 3, .mv (.t 20), none, false, []⟩]) .skip)))) (.region false [
⟨some 21, .bin .add (.t 10) (.c (.int .i64 1)), none, false, []⟩,
⟨some 10, .mv (.t 21), none, false, []⟩]))))
def a135l0 : ACode := .loop [3, 8, 9, 10] [2, 3] a135l0b
def a135 : AFunc := ⟨23, [.tmp 2], (.seq (.region false [
⟨some 1, .box 120 (.t 0), none, false, []⟩,
⟨some 2, .nils 1 (.c (.nilSlice)), none, false, []⟩]) (.seq (.region false [
⟨some 3, .nils 1 (.c (.nilSlice)), none, false, []⟩]) (.seq (.seq (.region false [
⟨some 6, .faddr 0 (.t 1), none, false, []⟩,
⟨some 7, .faddr 0 (.t 6), none, false, []⟩,
⟨some 8, .load 1 false (.t 7), none, false, []⟩,
⟨some 9, .len false (.t 8), none, false, []⟩,
⟨some 10, .mv (.c (.int .i64 0)), none, false, []⟩]) (.block 0 a135l0)) (.seq (.region false [
⟨some 22, .mv (.t 3), none, false, []⟩,
⟨some 2, .mv (.t 22), none, false, []⟩]) .ret))))⟩
def a136 : AFunc := ⟨8, [.tmp 2], (.seq (.region false [
⟨some 2, .nils 6 (.c (.nilSlice)), none, false, []⟩]) (.seq (.seq (.region false [
⟨some 3, .mv (.t 0), none, false, []⟩,
⟨some 4, .eq false [9] (.t 3) (.c (.nilSlice)), none, false, []⟩]) (.cond (.t 4) (.seq (.region false [
⟨some 2, .nils 6 (.c (.nilSlice)), none, false, []⟩]) .ret) .skip)) (.seq (.region false [
⟨some 5, .bslice 58 6 0 [.str ByteArray.empty, .int .i64 0, .int .i64 0, .int .i64 0, .bool false, .bool false] [], none, false, []⟩,
⟨some 6, .mv (.t 0), none, false, []⟩,
⟨some 7, .app 58 6 48 [.str ByteArray.empty, .int .i64 0, .int .i64 0, .int .i64 0, .bool false, .bool false] (.t 5) (.t 6), none, false, []⟩,
⟨some 2, .mv (.t 7), none, false, []⟩]) .ret)))⟩
def a137l0b : ACode := (.seq (.seq (.region false [
⟨some 18, .mv (.t 7), none, false, []⟩,
⟨some 19, .faddr 0 (.t 1), none, false, []⟩,
⟨some 20, .load 1 false (.t 19), none, false, []⟩,
⟨some 21, .len false (.t 20), none, false, []⟩,
⟨some 22, .bin .lss (.t 18) (.t 21), none, false, []⟩]) (.cond (.t 22) .skip (.exit 0))) (.seq (.block 1 (.seq (.region false [
⟨some 25, .mv (.t 5), none, false, []⟩,
⟨some 26, .mv (.t 7), none, false, []⟩,
⟨some 27, .faddr 0 (.t 1), none, false, []⟩,
⟨some 28, .load 1 false (.t 27), none, false, []⟩,
⟨some 29, .mv (.t 7), none, false, []⟩,
⟨some 30, .iaddr 4 (.t 28) (.t 29), none, false, []⟩,
⟨some 31, .faddr 1 (.t 30), none, false, []⟩,
⟨some 32, .load 1 false (.t 31), none, false, []⟩,
⟨some 33, .iaddr 1 (.t 25) (.t 26), none, false, []⟩,
⟨none, .store 1 (.t 33) (.t 32), none, false, []⟩]) (.seq (.region false [
⟨some 34, .mv (.t 5), none, false, []⟩,
⟨some 35, .mv (.t 7), none, false, []⟩,
⟨some 36, .iaddr 1 (.t 34) (.t 35), none, false, []⟩,
⟨some 37, .load 1 false (.t 36), none, false, []⟩,
⟨some 38, .un .not (.t 37), none, false, []⟩]) (.cond (.t 38) (.region false [
⟨some 39, .mv (.t 6), none, false, []⟩,
⟨some 40, .bin .add (.t 39) (.c (.int .i64 1)), none, false, []⟩,
⟨some 6, .mv (.t 40), none, false, []⟩]) .skip)))) (.region false [
⟨some 23, .mv (.t 7), none, false, []⟩,
⟨some 24, .bin .add (.t 23) (.c (.int .i64 1)), none, false, []⟩,
⟨some 7, .mv (.t 24), none, false, []⟩])))
def a137l0 : ACode := .loop [1, 5, 6, 7] [1, 2, 3, 4, 5, 6] a137l0b
def a137l1b : ACode := (.seq (.seq (.region false [
⟨some 42, .mv (.t 11), none, false, []⟩,
⟨some 43, .faddr 1 (.t 1), none, false, []⟩,
⟨some 44, .load 1 false (.t 43), none, false, []⟩,
⟨some 45, .len false (.t 44), none, false, []⟩,
⟨some 46, .bin .lss (.t 42) (.t 45), none, false, []⟩,
⟨some 47, .mv (.t 46), none, false, []⟩,
⟨some 48, .mv (.t 10), some (47, true), false, []⟩,
⟨some 49, .un .not (.t 48), some (47, true), false, []⟩,
⟨some 50, .pick (.t 47) (.t 49) (.c (.bool false)), none, false, []⟩]) (.cond (.t 50) .skip (.exit 4))) (.seq (.block 5 (.seq (.region false [
⟨some 53, .faddr 1 (.t 1), none, false, []⟩,
⟨some 54, .load 1 false (.t 53), none, false, []⟩,
⟨some 55, .mv (.t 11), none, false, []⟩,
⟨some 56, .iaddr 6 (.t 54) (.t 55), none, false, []⟩,
⟨some 57, .load 6 true (.t 56), none, false, []⟩,
⟨some 12, .alloc 58 [.str ByteArray.empty, .int .i64 0, .int .i64 0, .int .i64 0, .bool false, .bool false], none, false, []⟩,
⟨none, .store 6 (.t 12) (.t 57), none, false, []⟩]) (.seq (.seq (.region true [
⟨some 58, .faddr 5 (.t 12), none, false, []⟩,
⟨some 59, .load 1 false (.t 58), none, false, []⟩,
⟨some 60, .un .not (.t 59), none, false, []⟩,
⟨some 61, .mv (.t 60), none, false, []⟩,
⟨some 62, .mv (.t 5), some (61, false), false, []⟩,
⟨some 63, .faddr 1 (.t 12), some (61, false), false, []⟩,
⟨some 64, .load 1 false (.t 63), some (61, false), false, []⟩,
⟨some 65, .iaddr 1 (.t 62) (.t 64), some (61, false), false, []⟩,
⟨some 66, .load 1 false (.t 65), some (61, false), false, []⟩,
⟨some 67, .mv (.t 5), some (61, false), false, []⟩,
⟨some 68, .faddr 2 (.t 12), some (61, false), false, []⟩,
⟨some 69, .load 1 false (.t 68), some (61, false), false, []⟩,
⟨some 70, .iaddr 1 (.t 67) (.t 69), some (61, false), false, []⟩,
⟨some 71, .load 1 false (.t 70), some (61, false), false, []⟩,
⟨some 72, .eq false [0] (.t 66) (.t 71), some (61, false), false, []⟩,
⟨some 73, .pick (.t 61) (.c (.bool true)) (.t 72), none, false, []⟩]) (.cond (.t 73) (.exit 5) .skip)) (.seq (.region false [
⟨some 74, .faddr 2 (.t 12), none, false, []⟩,
⟨some 75, .load 1 false (.t 74), none, false, []⟩,
⟨some 13, .mv (.t 75), none, false, []⟩]) (.seq (.seq (.region false [
⟨some 76, .mv (.t 5), none, false, []⟩,
⟨some 77, .faddr 2 (.t 12), none, false, []⟩,
⟨some 78, .load 1 false (.t 77), none, false, []⟩,
⟨some 79, .iaddr 1 (.t 76) (.t 78), none, false, []⟩,
⟨some 80, .load 1 false (.t 79), none, false, []⟩]) (.cond (.t 80) (.region false [
⟨some 81, .faddr 1 (.t 12), none, false, []⟩,
⟨some 82, .load 1 false (.t 81), none, false, []⟩,
⟨some 13, .mv (.t 82), none, false, []⟩]) .skip)) (.seq (.region false [
⟨some 83, .mv (.t 5), none, false, []⟩,
⟨some 84, .mv (.t 13), none, false, []⟩,
⟨some 85, .iaddr 1 (.t 83) (.t 84), none, false, []⟩,
⟨none, .store 1 (.t 85) (.c (.bool true)), none, false, []⟩,
⟨some 10, .mv (.c (.bool true)), none, false, []⟩]) (.region false [
⟨some 86, .mv (.t 8), none, false, []⟩,
⟨some 87, .mv (.t 11), none, false, []⟩,
⟨some 88, .bslice 3 1 1 [.int .i64 0] [(0, (.t 87))], none, false, []⟩,
⟨some 89, .app 3 1 8 [.int .i64 0] (.t 86) (.t 88), none, false, []⟩,
⟨some 90, .mv (.t 9), none, false, []⟩,
⟨some 91, .mv (.t 13), none, false, []⟩,
⟨some 92, .bslice 3 1 1 [.int .i64 0] [(0, (.t 91))], none, false, []⟩,
⟨some 93, .app 3 1 8 [.int .i64 0] (.t 90) (.t 92), none, false, []⟩,
⟨some 8, .mv (.t 89), none, false, []⟩,
⟨some 9, .mv (.t 93), none, false, []⟩]))))))) (.region false [
⟨some 51, .mv (.t 11), none, false, []⟩,
⟨some 52, .bin .add (.t 51) (.c (.int .i64 1)), none, false, []⟩,
⟨some 11, .mv (.t 52), none, false, []⟩])))
def a137l1 : ACode := .loop [1, 5, 6, 8, 9, 10, 11] [1, 2, 3, 4, 5, 6, 8, 9, 10] a137l1b
def a137l2b : ACode := (.seq (.seq (.region false [
⟨some 41, .mv (.t 10), none, false, []⟩]) (.cond (.t 41) .skip (.exit 2))) (.block 3 (.seq (.region false [
⟨some 10, .mv (.c (.bool false)), none, false, []⟩]) (.seq (.region false [
⟨some 11, .mv (.c (.int .i64 0)), none, false, []⟩]) (.block 4 a137l1)))))
def a137l2 : ACode := .loop [1, 5, 6, 8, 9, 10] [2, 3, 4, 6, 8, 9] a137l2b
def a137 : AFunc := ⟨100, [.tmp 2, .tmp 3, .tmp 4], (.seq (.region false [
⟨some 1, .box 25 (.t 0), none, false, []⟩,
⟨some 2, .nils 1 (.c (.nilSlice)), none, false, []⟩,
⟨some 3, .nils 1 (.c (.nilSlice)), none, false, []⟩,
⟨some 4, .mv (.c (.bool false)), none, false, []⟩]) (.seq (.region false [
⟨some 14, .faddr 0 (.t 1), none, false, []⟩,
⟨some 15, .load 1 false (.t 14), none, false, []⟩,
⟨some 16, .len false (.t 15), none, false, []⟩,
⟨some 17, .mkslice 4 1 1 [.bool false] (.t 16) (.t 16), none, false, []⟩,
⟨some 5, .mv (.t 17), none, false, []⟩]) (.seq (.region false [
⟨some 6, .mv (.c (.int .i64 0)), none, false, []⟩]) (.seq (.seq (.region false [
⟨some 7, .mv (.c (.int .i64 0)), none, false, []⟩]) (.block 0 a137l0)) (.seq (.region false [
⟨some 8, .nils 1 (.c (.nilSlice)), none, false, []⟩,
⟨some 9, .nils 1 (.c (.nilSlice)), none, false, []⟩]) (.seq (.seq (.region false [
⟨some 10, .mv (.c (.bool true)), none, false, []⟩]) (.block 2 a137l2)) (.seq (.region false [
⟨some 94, .mv (.t 8), none, false, []⟩,
⟨some 95, .mv (.t 9), none, false, []⟩,
⟨some 96, .mv (.t 9), none, false, []⟩,
⟨some 97, .len false (.t 96), none, false, []⟩,
⟨some 98, .mv (.t 6), none, false, []⟩,
⟨some 99, .bin .eql (.t 97) (.t 98), none, false, []⟩,
⟨some 2, .mv (.t 94), none, false, []⟩,
⟨some 3, .mv (.t 95), none, false, []⟩,
⟨some 4, .mv (.t 99), none, false, []⟩]) .ret)))))))⟩
def a138l0b : ACode := (.seq (.region false [
⟨some 23, .bin .lss (.t 22) (.t 21), none, false, []⟩]) (.seq (.cond (.t 23) .skip (.exit 0)) (.seq (.block 1 (.seq (.region false [
⟨some 24, .mv (.t 22), none, false, []⟩,
⟨some 25, .iaddr 6 (.t 20) (.t 22), none, false, []⟩,
⟨some 26, .load 6 true (.t 25), none, false, []⟩,
⟨some 6, .alloc 3 [.int .i64 0], none, false, []⟩,
⟨some 7, .alloc 58 [.str ByteArray.empty, .int .i64 0, .int .i64 0, .int .i64 0, .bool false, .bool false], none, false, []⟩,
⟨none, .store 1 (.t 6) (.t 24), none, false, []⟩,
⟨none, .store 6 (.t 7) (.t 26), none, false, []⟩]) (.seq (.region false [
⟨some 27, .faddr 2 (.t 4), none, false, []⟩,
⟨some 28, .load 1 false (.t 27), none, false, []⟩,
⟨some 29, .mkf 153 [] [(.t 6)], none, false, []⟩,
⟨some 30, .call 152 [(.t 28), (.t 29)], none, false, []⟩,
⟨some 8, .mv (.t 30), none, false, []⟩]) (.seq (.seq (.region false [
⟨some 31, .faddr 5 (.t 7), none, false, []⟩,
⟨some 32, .load 1 false (.t 31), none, false, []⟩,
⟨some 33, .un .not (.t 32), none, false, []⟩,
⟨some 34, .mv (.t 33), none, false, []⟩,
⟨some 35, .mv (.t 8), some (34, false), false, []⟩,
⟨some 36, .pick (.t 34) (.c (.bool true)) (.t 35), none, false, []⟩]) (.cond (.t 36) (.exit 1) .skip)) (.seq (.seq (.region false [
⟨some 37, .faddr 3 (.t 4), none, false, []⟩,
⟨some 38, .load 1 false (.t 37), none, false, []⟩,
⟨some 39, .bin .geq (.t 38) (.c (.int .i64 0)), none, false, []⟩]) (.cond (.t 39) (.seq (.region false [
⟨some 40, .load 4 true (.t 4), none, false, []⟩,
⟨none, .store 4 (.t 2) (.t 40), none, false, []⟩,
⟨some 3, .mv (.c (.int .i64 8)), none, false, []⟩]) .ret) .skip)) (.region false [
⟨some 41, .load 1 false (.t 6), none, false, []⟩,
⟨some 42, .faddr 3 (.t 4), none, false, []⟩,
⟨none, .store 1 (.t 42) (.t 41), none, false, []⟩])))))) (.region false [
⟨some 43, .bin .add (.t 22) (.c (.int .i64 1)), none, false, []⟩,
⟨some 22, .mv (.t 43), none, false, []⟩]))))
def a138l0 : ACode := .loop [2, 4, 20, 21, 22] [2, 3, 4] a138l0b
def a138 : AFunc := ⟨45, [.cell 2 4 true, .tmp 3], (.seq (.region false [
⟨some 1, .box 120 (.t 0), none, false, []⟩,
⟨some 2, .nalloc [4, 6, 2, 0] 132 [.nilSlice, .nilSlice, .nilSlice, .int .i64 0], none, false, []⟩,
⟨some 3, .mv (.c (.int .i64 0)), none, false, []⟩]) (.seq (.region false [
⟨some 10, .load 2 true (.t 1), none, false, []⟩,
⟨some 11, .call 151 [(.t 10)], none, false, []⟩,
⟨some 9, .mv (.t 11), none, false, []⟩,
⟨some 12, .ext (.t 9) 0, none, false, []⟩,
⟨some 13, .ext (.t 9) 1, none, false, []⟩,
⟨some 4, .nalloc [4, 6, 2, 0] 132 [.nilSlice, .nilSlice, .nilSlice, .int .i64 0], none, false, []⟩,
⟨none, .store 4 (.t 4) (.t 12), none, false, []⟩,
⟨some 5, .mv (.t 13), none, false, []⟩]) (.seq (.seq (.region false [
⟨some 14, .mv (.t 5), none, false, []⟩,
⟨some 15, .bin .neq (.t 14) (.c (.int .i64 0)), none, false, []⟩]) (.cond (.t 15) (.seq (.region false [
⟨some 16, .load 4 true (.t 4), none, false, []⟩,
⟨some 17, .mv (.t 5), none, false, []⟩,
⟨none, .store 4 (.t 2) (.t 16), none, false, []⟩,
⟨some 3, .mv (.t 17), none, false, []⟩]) .ret) .skip)) (.seq (.seq (.region false [
⟨some 18, .faddr 0 (.t 1), none, false, []⟩,
⟨some 19, .faddr 1 (.t 18), none, false, []⟩,
⟨some 20, .load 1 false (.t 19), none, false, []⟩,
⟨some 21, .len false (.t 20), none, false, []⟩,
⟨some 22, .mv (.c (.int .i64 0)), none, false, []⟩]) (.block 0 a138l0)) (.seq (.region false [
⟨some 44, .load 4 true (.t 4), none, false, []⟩,
⟨none, .store 4 (.t 2) (.t 44), none, false, []⟩,
⟨some 3, .mv (.c (.int .i64 0)), none, false, []⟩]) .ret)))))⟩
def a139 : AFunc := ⟨4, [.tmp 2], (.seq (.region false [
⟨some 1, .box 130 (.t 0), none, false, []⟩,
⟨some 2, .mv (.c (.nilFunc)), none, false, []⟩]) (.seq (.region false [
⟨some 3, .mkf 154 [] [(.t 1)], none, false, []⟩,
⟨some 2, .mv (.t 3), none, false, []⟩]) .ret))⟩
def a140 : AFunc := ⟨24, [.tmp 4, .tmp 5], (.seq (.region false [
⟨some 2, .box 132 (.t 0), none, false, []⟩,
⟨some 3, .box 168 (.t 1), none, false, []⟩,
⟨some 4, .mv (.c (.int .i64 0)), none, false, []⟩,
⟨some 5, .mv (.c (.int .i64 0)), none, false, []⟩]) (.seq (.region false [
⟨some 7, .faddr 0 (.t 2), none, false, []⟩,
⟨some 8, .faddr 0 (.t 7), none, false, []⟩,
⟨some 9, .faddr 1 (.t 8), none, false, []⟩,
⟨some 10, .load 1 false (.t 9), none, false, []⟩,
⟨some 11, .faddr 0 (.t 3), none, false, []⟩,
⟨some 12, .load 1 false (.t 11), none, false, []⟩,
⟨some 13, .iaddr 6 (.t 10) (.t 12), none, false, []⟩,
⟨some 14, .load 6 true (.t 13), none, false, []⟩,
⟨some 6, .alloc 58 [.str ByteArray.empty, .int .i64 0, .int .i64 0, .int .i64 0, .bool false, .bool false], none, false, []⟩,
⟨none, .store 6 (.t 6) (.t 14), none, false, []⟩]) (.seq (.region false [
⟨some 15, .faddr 2 (.t 6), none, false, []⟩,
⟨some 16, .load 1 false (.t 15), none, false, []⟩,
⟨some 17, .faddr 1 (.t 3), none, false, []⟩,
⟨some 18, .load 1 false (.t 17), none, false, []⟩,
⟨some 19, .bin .neq (.t 16) (.t 18), none, false, []⟩]) (.cond (.t 19) (.seq (.region false [
⟨some 20, .faddr 2 (.t 6), none, false, []⟩,
⟨some 21, .load 1 false (.t 20), none, false, []⟩,
⟨some 4, .mv (.t 21), none, false, []⟩,
⟨some 5, .mv (.c (.int .i64 (-1))), none, false, []⟩]) .ret) (.seq (.region false [
⟨some 22, .faddr 1 (.t 6), none, false, []⟩,
⟨some 23, .load 1 false (.t 22), none, false, []⟩,
⟨some 4, .mv (.t 23), none, false, []⟩,
⟨some 5, .mv (.c (.int .i64 1)), none, false, []⟩]) .ret)))))⟩
def a141 : AFunc := ⟨8, [.tmp 3], (.seq (.region false [
⟨some 3, .mv (.c (.bool false)), none, false, []⟩]) (.seq (.region false [
⟨some 4, .load 4 true (.t 1), none, false, []⟩,
⟨some 5, .mv (.t 0), none, false, []⟩,
⟨some 6, .call 102 [(.t 4), (.t 5)], none, false, []⟩,
⟨some 7, .bin .geq (.t 6) (.c (.int .i64 0)), none, false, []⟩,
⟨some 3, .mv (.t 7), none, false, []⟩]) .ret))⟩
def a144 : AFunc := ⟨10, [.tmp 4], (.seq (.region false [
⟨some 3, .box 39 (.t 0), none, false, []⟩,
⟨some 4, .mv (.c (.bool false)), none, false, []⟩]) (.seq (.region false [
⟨some 5, .load 2 true (.t 1), none, false, []⟩,
⟨some 6, .load 2 true (.t 2), none, false, []⟩,
⟨some 7, .mkf 146 [] [(.t 1), (.t 3)], none, false, []⟩,
⟨some 8, .call 145 [(.t 5), (.t 6), (.t 7)], none, false, []⟩,
⟨some 9, .un .not (.t 8), none, false, []⟩,
⟨some 4, .mv (.t 9), none, false, []⟩]) .ret))⟩
def a145 : AFunc := ⟨17, [.tmp 6], (.seq (.region false [
⟨some 3, .box 120 (.t 0), none, false, []⟩,
⟨some 4, .box 87 (.t 1), none, false, []⟩,
⟨some 6, .mv (.c (.bool false)), none, false, []⟩]) (.seq (.region true [
⟨some 7, .load 2 true (.t 3), none, true, []⟩,
⟨some 8, .faddr 0 (.t 4), none, false, []⟩,
⟨some 9, .load 1 false (.t 8), none, false, []⟩,
⟨some 10, .bslice 3 1 1 [.int .i64 0] [(0, (.t 9))], none, true, []⟩,
⟨some 11, .mv (.t 2), none, false, []⟩,
⟨some 12, .call 90 [(.t 7), (.t 10), (.t 11)], none, true, []⟩,
⟨some 13, .faddr 1 (.t 4), none, false, []⟩,
⟨some 14, .load 1 false (.t 13), none, true, [3, 5]⟩,
⟨some 15, .iaddr 1 (.t 12) (.t 14), none, false, []⟩,
⟨some 16, .load 1 false (.t 15), none, false, []⟩,
⟨some 6, .mv (.t 16), none, false, []⟩]) .ret))⟩
def a146 : AFunc := ⟨14, [.tmp 4], (.seq (.region false [
⟨some 4, .mv (.c (.bool false)), none, false, []⟩]) (.seq (.region false [
⟨some 5, .load 2 true (.t 1), none, false, []⟩,
⟨some 6, .mv (.t 0), none, false, []⟩,
⟨some 7, .call 91 [(.t 5), (.t 6)], none, false, []⟩,
⟨some 8, .mv (.t 7), none, false, []⟩,
⟨some 9, .load 1 false (.t 2), some (8, true), false, []⟩,
⟨some 10, .mv (.t 0), some (8, true), false, []⟩,
⟨some 11, .call 147 [(.t 9), (.t 10)], some (8, true), false, []⟩,
⟨some 12, .un .not (.t 11), some (8, true), false, []⟩,
⟨some 13, .pick (.t 8) (.t 12) (.c (.bool false)), none, false, []⟩,
⟨some 4, .mv (.t 13), none, false, []⟩]) .ret))⟩
def a147 : AFunc := ⟨9, [.tmp 4], (.seq (.region false [
⟨some 4, .mv (.c (.bool false)), none, false, []⟩]) (.seq (.region false [
⟨some 5, .mv (.t 0), none, false, []⟩,
⟨some 6, .mv (.t 1), none, false, []⟩,
⟨some 7, .call 156 [(.t 5), (.t 6)], none, false, []⟩,
⟨some 8, .bin .geq (.t 7) (.c (.int .i64 0)), none, false, []⟩,
⟨some 4, .mv (.t 8), none, false, []⟩]) .ret))⟩
def a148l0b : ACode := (.seq (.region false [
⟨some 23, .bin .lss (.t 22) (.t 21), none, false, []⟩]) (.seq (.cond (.t 23) .skip (.exit 0)) (.seq (.block 1 (.seq (.region false [
⟨some 24, .mv (.t 22), none, false, []⟩,
⟨some 25, .iaddr 1 (.t 20) (.t 22), none, false, []⟩,
⟨some 26, .load 1 false (.t 25), none, false, []⟩,
⟨some 10, .mv (.t 24), none, false, []⟩,
⟨some 11, .mv (.t 26), none, false, []⟩]) (.seq (.region true [
⟨some 28, .mv (.t 0), none, false, []⟩,
⟨some 29, .call 157 [(.t 28)], none, true, []⟩,
⟨some 30, .mv (.t 11), none, false, []⟩,
⟨some 31, .bslice 3 1 1 [.int .i64 0] [(0, (.t 30))], none, true, [1]⟩,
⟨some 32, .app 3 1 8 [.int .i64 0] (.t 29) (.t 31), none, false, []⟩,
⟨some 33, .mv (.t 1), none, false, []⟩,
⟨some 34, .mv (.t 10), none, false, []⟩,
⟨some 35, .bin .add (.t 34) (.c (.int .i64 1)), none, false, []⟩,
⟨some 36, .slice 1 (.t 33) (some (.t 35)) none none, none, false, []⟩,
⟨some 37, .mv (.t 2), none, false, []⟩,
⟨some 38, .bin .sub (.t 37) (.c (.int .i64 1)), none, false, []⟩,
⟨some 39, .mv (.t 3), none, false, []⟩,
⟨some 40, .call 148 [(.t 32), (.t 36), (.t 38), (.t 39)], none, false, []⟩,
⟨some 27, .mv (.t 40), none, false, []⟩,
⟨some 41, .ext (.t 27) 0, none, false, []⟩,
⟨some 42, .ext (.t 27) 1, none, false, []⟩,
⟨some 12, .mv (.t 41), none, false, []⟩,
⟨some 13, .mv (.t 42), none, false, []⟩]) (.seq (.region false [
⟨some 43, .mv (.t 13), none, false, []⟩]) (.cond (.t 43) (.seq (.region false [
⟨some 44, .mv (.t 12), none, false, []⟩,
⟨some 8, .mv (.t 44), none, false, []⟩,
⟨some 9, .mv (.c (.bool true)), none, false, []⟩]) .ret) .skip))))) (.region false [
⟨some 45, .bin .add (.t 22) (.c (.int .i64 1)), none, false, []⟩,
⟨some 22, .mv (.t 45), none, false, []⟩]))))
def a148l0 : ACode := .loop [0, 1, 2, 3, 20, 21, 22] [8, 9] a148l0b
def a148 : AFunc := ⟨46, [.tmp 8, .tmp 9], (.seq (.region false [
⟨some 8, .nils 1 (.c (.nilSlice)), none, false, []⟩,
⟨some 9, .mv (.c (.bool false)), none, false, []⟩]) (.seq (.seq (.region false [
⟨some 14, .mv (.t 2), none, false, []⟩,
⟨some 15, .bin .eql (.t 14) (.c (.int .i64 0)), none, false, []⟩]) (.cond (.t 15) (.seq (.region false [
⟨some 16, .mv (.t 0), none, false, []⟩,
⟨some 17, .mv (.t 3), none, false, []⟩,
⟨some 18, .mv (.t 0), none, false, []⟩,
⟨some 19, .callv (.t 17) [(.t 18)], none, false, []⟩,
⟨some 8, .mv (.t 16), none, false, []⟩,
⟨some 9, .mv (.t 19), none, false, []⟩]) .ret) .skip)) (.seq (.seq (.region false [
⟨some 20, .mv (.t 1), none, false, []⟩,
⟨some 21, .len false (.t 20), none, false, []⟩,
⟨some 22, .mv (.c (.int .i64 0)), none, false, []⟩]) (.block 0 a148l0)) (.seq (.region false [
⟨some 8, .nils 1 (.c (.nilSlice)), none, false, []⟩,
⟨some 9, .mv (.c (.bool false)), none, false, []⟩]) .ret))))⟩
def a149l0b : ACode := (.seq (.region false [
⟨some 9, .bin .lss (.t 8) (.t 7), none, false, []⟩]) (.seq (.cond (.t 9) .skip (.exit 0)) (.seq (.block 1 (.seq (.region false [
⟨some 10, .mv (.t 8), none, false, []⟩,
⟨some 5, .mv (.t 10), none, false, []⟩]) (.seq (.region false [
⟨some 11, .mv (.t 1), none, false, []⟩,
⟨some 12, .mv (.t 0), none, false, []⟩,
⟨some 13, .mv (.t 5), none, false, []⟩,
⟨some 14, .iaddr 1 (.t 12) (.t 13), none, false, []⟩,
⟨some 15, .load 1 false (.t 14), none, false, []⟩,
⟨some 16, .callv (.t 11) [(.t 15)], none, false, []⟩]) (.cond (.t 16) (.seq (.region false [
⟨some 17, .mv (.t 5), none, false, []⟩,
⟨some 4, .mv (.t 17), none, false, []⟩]) .ret) .skip)))) (.region false [
⟨some 18, .bin .add (.t 8) (.c (.int .i64 1)), none, false, []⟩,
⟨some 8, .mv (.t 18), none, false, []⟩]))))
def a149l0 : ACode := .loop [0, 1, 7, 8] [4] a149l0b
def a149 : AFunc := ⟨19, [.tmp 4], (.seq (.region false [
⟨some 4, .mv (.c (.int .i64 0)), none, false, []⟩]) (.seq (.seq (.region false [
⟨some 6, .mv (.t 0), none, false, []⟩,
⟨some 7, .len false (.t 6), none, false, []⟩,
⟨some 8, .mv (.c (.int .i64 0)), none, false, []⟩]) (.block 0 a149l0)) (.seq (.region false [
⟨some 4, .mv (.c (.int .i64 (-1))), none, false, []⟩]) .ret)))⟩
def a151l0b : ACode := (.seq (.region false [
⟨some 22, .bin .lss (.t 21) (.t 20), none, false, []⟩]) (.seq (.cond (.t 22) .skip (.exit 0)) (.seq (.block 1 (.seq (.region false [
⟨some 23, .iaddr 1 (.t 19) (.t 21), none, false, []⟩,
⟨some 24, .load 1 false (.t 23), none, false, []⟩,
⟨some 7, .mv (.t 24), none, false, []⟩]) (.region false [
⟨some 25, .load 1 false (.t 5), none, false, []⟩,
⟨some 26, .mv (.t 7), none, false, []⟩,
⟨some 27, .iaddr 1 (.t 25) (.t 26), none, false, []⟩,
⟨none, .store 1 (.t 27) (.c (.bool true)), none, false, []⟩]))) (.region false [
⟨some 28, .bin .add (.t 21) (.c (.int .i64 1)), none, false, []⟩,
⟨some 21, .mv (.t 28), none, false, []⟩]))))
def a151l0 : ACode := .loop [1, 2, 4, 5, 19, 20, 21] [1, 2, 3, 4, 5] a151l0b
def a151l1b : ACode := (.block 3 (.seq (.region false [
⟨some 29, .faddr 0 (.t 1), none, false, []⟩,
⟨some 30, .faddr 1 (.t 29), none, false, []⟩,
⟨some 31, .load 1 false (.t 30), none, false, []⟩,
⟨some 32, .mkf 159 [] [(.t 5)], none, false, []⟩,
⟨some 33, .call 158 [(.t 31), (.t 32)], none, false, []⟩,
⟨some 8, .mv (.t 33), none, false, []⟩]) (.seq (.seq (.region false [
⟨some 34, .mv (.t 8), none, false, []⟩,
⟨some 35, .bin .lss (.t 34) (.c (.int .i64 0)), none, false, []⟩]) (.cond (.t 35) (.seq (.region true [
⟨some 36, .load 4 true (.t 4), none, true, []⟩,
⟨some 37, .load 1 false (.t 5), none, false, []⟩,
⟨some 38, .call 160 [(.t 37), (.c (.bool false))], none, true, []⟩,
⟨some 39, .un .not (.t 38), none, false, []⟩,
⟨some 40, .call 72 [(.t 39), (.c (.int .i64 14))], none, true, []⟩,
⟨none, .store 4 (.t 2) (.t 36), none, false, []⟩,
⟨some 3, .mv (.t 40), none, false, []⟩]) .ret) .skip)) (.seq (.region false [
⟨some 41, .faddr 0 (.t 1), none, false, []⟩,
⟨some 42, .faddr 1 (.t 41), none, false, []⟩,
⟨some 43, .load 1 false (.t 42), none, false, []⟩,
⟨some 44, .mv (.t 8), none, false, []⟩,
⟨some 45, .iaddr 6 (.t 43) (.t 44), none, false, []⟩,
⟨some 46, .load 6 true (.t 45), none, false, []⟩,
⟨some 9, .alloc 58 [.str ByteArray.empty, .int .i64 0, .int .i64 0, .int .i64 0, .bool false, .bool false], none, false, []⟩,
⟨none, .store 6 (.t 9) (.t 46), none, false, []⟩]) (.seq (.region false [
⟨some 47, .faddr 2 (.t 9), none, false, []⟩,
⟨some 48, .load 1 false (.t 47), none, false, []⟩,
⟨some 10, .mv (.t 48), none, false, []⟩]) (.seq (.seq (.region false [
⟨some 49, .load 1 false (.t 5), none, false, []⟩,
⟨some 50, .faddr 2 (.t 9), none, false, []⟩,
⟨some 51, .load 1 false (.t 50), none, false, []⟩,
⟨some 52, .iaddr 1 (.t 49) (.t 51), none, false, []⟩,
⟨some 53, .load 1 false (.t 52), none, false, []⟩]) (.cond (.t 53) (.region false [
⟨some 54, .faddr 1 (.t 9), none, false, []⟩,
⟨some 55, .load 1 false (.t 54), none, false, []⟩,
⟨some 10, .mv (.t 55), none, false, []⟩]) .skip)) (.seq (.region false [
⟨some 56, .load 1 false (.t 5), none, false, []⟩,
⟨some 57, .mv (.t 10), none, false, []⟩,
⟨some 58, .iaddr 1 (.t 56) (.t 57), none, false, []⟩,
⟨none, .store 1 (.t 58) (.c (.bool true)), none, false, []⟩]) (.region false [
⟨some 59, .faddr 2 (.t 4), none, false, []⟩,
⟨some 60, .load 1 false (.t 59), none, false, []⟩,
⟨some 61, .mv (.t 8), none, false, []⟩,
⟨some 62, .mv (.t 10), none, false, []⟩,
⟨some 63, .build [.int .i64 0, .int .i64 0] [(0, 1, (.t 61)), (1, 1, (.t 62))], none, false, []⟩,
⟨some 64, .bslice 168 2 1 [.int .i64 0, .int .i64 0] [(0, (.t 63))], none, false, []⟩,
⟨some 65, .app 168 2 16 [.int .i64 0, .int .i64 0] (.t 60) (.t 64), none, false, []⟩,
⟨some 66, .faddr 2 (.t 4), none, false, []⟩,
⟨none, .store 1 (.t 66) (.t 65), none, false, []⟩]))))))))
def a151l1 : ACode := .loop [1, 2, 4, 5] [2, 3] a151l1b
def a151 : AFunc := ⟨67, [.cell 2 4 true, .tmp 3], (.seq (.region false [
⟨some 1, .box 120 (.t 0), none, false, []⟩,
⟨some 2, .nalloc [4, 6, 2, 0] 132 [.nilSlice, .nilSlice, .nilSlice, .int .i64 0], none, false, []⟩,
⟨some 3, .mv (.c (.int .i64 0)), none, false, []⟩]) (.seq (.region false [
⟨some 11, .load 2 true (.t 1), none, false, []⟩,
⟨some 12, .nbuild [4, 6, 2, 0] [.nilSlice, .nilSlice, .nilSlice, .int .i64 0] [(0, 2, (.t 11)), (3, 1, (.c (.int .i64 (-1))))], none, false, []⟩,
⟨some 4, .nalloc [4, 6, 2, 0] 132 [.nilSlice, .nilSlice, .nilSlice, .int .i64 0], none, false, []⟩,
⟨none, .store 4 (.t 4) (.t 12), none, false, []⟩]) (.seq (.region false [
⟨some 13, .faddr 0 (.t 1), none, false, []⟩,
⟨some 14, .faddr 0 (.t 13), none, false, []⟩,
⟨some 15, .load 1 false (.t 14), none, false, []⟩,
⟨some 16, .len false (.t 15), none, false, []⟩,
⟨some 17, .mkslice 4 1 1 [.bool false] (.t 16) (.t 16), none, false, []⟩,
⟨some 5, .nalloc [1] 124 [.nilSlice], none, false, []⟩,
⟨none, .store 1 (.t 5) (.t 17), none, false, []⟩]) (.seq (.seq (.region false [
⟨some 18, .load 2 true (.t 1), none, false, []⟩,
⟨some 19, .call 135 [(.t 18)], none, false, []⟩,
⟨some 20, .len false (.t 19), none, false, []⟩,
⟨some 21, .mv (.c (.int .i64 0)), none, false, []⟩]) (.block 0 a151l0)) (.block 2 a151l1)))))⟩
def a152 : AFunc := ⟨9, [.tmp 4], (.seq (.region false [
⟨some 4, .mv (.c (.bool false)), none, false, []⟩]) (.seq (.region false [
⟨some 5, .mv (.t 0), none, false, []⟩,
⟨some 6, .mv (.t 1), none, false, []⟩,
⟨some 7, .call 161 [(.t 5), (.t 6)], none, false, []⟩,
⟨some 8, .bin .geq (.t 7) (.c (.int .i64 0)), none, false, []⟩,
⟨some 4, .mv (.t 8), none, false, []⟩]) .ret))⟩
def a153 : AFunc := ⟨8, [.tmp 3], (.seq (.region false [
⟨some 2, .box 168 (.t 0), none, false, []⟩,
⟨some 3, .mv (.c (.bool false)), none, false, []⟩]) (.seq (.region false [
⟨some 4, .faddr 0 (.t 2), none, false, []⟩,
⟨some 5, .load 1 false (.t 4), none, false, []⟩,
⟨some 6, .load 1 false (.t 1), none, false, []⟩,
⟨some 7, .bin .eql (.t 5) (.t 6), none, false, []⟩,
⟨some 3, .mv (.t 7), none, false, []⟩]) .ret))⟩
def a154l0b : ACode := (.seq (.seq (.region false [
⟨some 7, .mv (.t 3), none, false, []⟩,
⟨some 8, .bin .geq (.t 7) (.c (.int .i64 0)), none, false, []⟩]) (.cond (.t 8) .skip (.exit 0))) (.seq (.block 1 (.seq (.region false [
⟨some 11, .mv (.t 0), none, false, []⟩,
⟨some 12, .mv (.t 3), none, false, []⟩,
⟨some 13, .load 1 false (.t 1), none, false, []⟩,
⟨some 14, .mv (.t 3), none, false, []⟩,
⟨some 15, .iaddr 2 (.t 13) (.t 14), none, false, []⟩,
⟨some 16, .load 2 true (.t 15), none, false, []⟩,
⟨some 17, .callv (.t 11) [(.t 12), (.t 16)], none, false, []⟩,
⟨some 18, .un .not (.t 17), none, false, []⟩]) (.cond (.t 18) .ret .skip))) (.region false [
⟨some 9, .mv (.t 3), none, false, []⟩,
⟨some 10, .bin .sub (.t 9) (.c (.int .i64 1)), none, false, []⟩,
⟨some 3, .mv (.t 10), none, false, []⟩])))
def a154l0 : ACode := .loop [0, 1, 3] [] a154l0b
def a154 : AFunc := ⟨19, [], (.seq (.region false [
⟨some 4, .load 1 false (.t 1), none, false, []⟩,
⟨some 5, .len false (.t 4), none, false, []⟩,
⟨some 6, .bin .sub (.t 5) (.c (.int .i64 1)), none, false, []⟩,
⟨some 3, .mv (.t 6), none, false, []⟩]) (.block 0 a154l0))⟩
def a156l0b : ACode := (.seq (.region false [
⟨some 9, .bin .lss (.t 8) (.t 7), none, false, []⟩]) (.seq (.cond (.t 9) .skip (.exit 0)) (.seq (.block 1 (.seq (.region false [
⟨some 10, .mv (.t 8), none, false, []⟩,
⟨some 5, .mv (.t 10), none, false, []⟩]) (.seq (.region false [
⟨some 11, .mv (.t 1), none, false, []⟩,
⟨some 12, .mv (.t 0), none, false, []⟩,
⟨some 13, .mv (.t 5), none, false, []⟩,
⟨some 14, .iaddr 1 (.t 12) (.t 13), none, false, []⟩,
⟨some 15, .load 1 false (.t 14), none, false, []⟩,
⟨some 16, .bin .eql (.t 11) (.t 15), none, false, []⟩]) (.cond (.t 16) (.seq (.region false [
⟨some 17, .mv (.t 5), none, false, []⟩,
⟨some 4, .mv (.t 17), none, false, []⟩]) .ret) .skip)))) (.region false [
⟨some 18, .bin .add (.t 8) (.c (.int .i64 1)), none, false, []⟩,
⟨some 8, .mv (.t 18), none, false, []⟩]))))
def a156l0 : ACode := .loop [0, 1, 7, 8] [4] a156l0b
def a156 : AFunc := ⟨19, [.tmp 4], (.seq (.region false [
⟨some 4, .mv (.c (.int .i64 0)), none, false, []⟩]) (.seq (.seq (.region false [
⟨some 6, .mv (.t 0), none, false, []⟩,
⟨some 7, .len false (.t 6), none, false, []⟩,
⟨some 8, .mv (.c (.int .i64 0)), none, false, []⟩]) (.block 0 a156l0)) (.seq (.region false [
⟨some 4, .mv (.c (.int .i64 (-1))), none, false, []⟩]) .ret)))⟩
def a157 : AFunc := ⟨9, [.tmp 2], (.seq (.region false [
⟨some 2, .nils 1 (.c (.nilSlice)), none, false, []⟩]) (.seq (.region false [
⟨some 3, .mv (.t 0), none, false, []⟩,
⟨some 4, .mv (.t 0), none, false, []⟩,
⟨some 5, .len false (.t 4), none, false, []⟩,
⟨some 6, .mv (.t 0), none, false, []⟩,
⟨some 7, .len false (.t 6), none, false, []⟩,
⟨some 8, .slice 1 (.t 3) none (some (.t 5)) (some (.t 7)), none, false, []⟩,
⟨some 2, .mv (.t 8), none, false, []⟩]) .ret))⟩
def a158l0b : ACode := (.seq (.region false [
⟨some 9, .bin .lss (.t 8) (.t 7), none, false, []⟩]) (.seq (.cond (.t 9) .skip (.exit 0)) (.seq (.block 1 (.seq (.region false [
⟨some 10, .mv (.t 8), none, false, []⟩,
⟨some 5, .mv (.t 10), none, false, []⟩]) (.seq (.region false [
⟨some 11, .mv (.t 1), none, false, []⟩,
⟨some 12, .mv (.t 0), none, false, []⟩,
⟨some 13, .mv (.t 5), none, false, []⟩,
⟨some 14, .iaddr 6 (.t 12) (.t 13), none, false, []⟩,
⟨some 15, .load 6 true (.t 14), none, false, []⟩,
⟨some 16, .callv (.t 11) [(.t 15)], none, false, []⟩]) (.cond (.t 16) (.seq (.region false [
⟨some 17, .mv (.t 5), none, false, []⟩,
⟨some 4, .mv (.t 17), none, false, []⟩]) .ret) .skip)))) (.region false [
⟨some 18, .bin .add (.t 8) (.c (.int .i64 1)), none, false, []⟩,
⟨some 8, .mv (.t 18), none, false, []⟩]))))
def a158l0 : ACode := .loop [0, 1, 7, 8] [4] a158l0b
def a158 : AFunc := ⟨19, [.tmp 4], (.seq (.region false [
⟨some 4, .mv (.c (.int .i64 0)), none, false, []⟩]) (.seq (.seq (.region false [
⟨some 6, .mv (.t 0), none, false, []⟩,
⟨some 7, .len false (.t 6), none, false, []⟩,
⟨some 8, .mv (.c (.int .i64 0)), none, false, []⟩]) (.block 0 a158l0)) (.seq (.region false [
⟨some 4, .mv (.c (.int .i64 (-1))), none, false, []⟩]) .ret)))⟩
def a159 : AFunc := ⟨19, [.tmp 3], (.seq (.region false [
⟨some 2, .box 58 (.t 0), none, false, []⟩,
⟨some 3, .mv (.c (.bool false)), none, false, []⟩]) (.seq (.region true [
⟨some 4, .faddr 5 (.t 2), none, false, []⟩,
⟨some 5, .load 1 false (.t 4), none, false, []⟩,
⟨some 6, .mv (.t 5), none, false, []⟩,
⟨some 7, .load 1 false (.t 1), some (6, true), false, []⟩,
⟨some 8, .faddr 1 (.t 2), some (6, true), false, []⟩,
⟨some 9, .load 1 false (.t 8), some (6, true), false, []⟩,
⟨some 10, .iaddr 1 (.t 7) (.t 9), some (6, true), false, []⟩,
⟨some 11, .load 1 false (.t 10), some (6, true), false, []⟩,
⟨some 12, .load 1 false (.t 1), some (6, true), false, []⟩,
⟨some 13, .faddr 2 (.t 2), some (6, true), false, []⟩,
⟨some 14, .load 1 false (.t 13), some (6, true), false, []⟩,
⟨some 15, .iaddr 1 (.t 12) (.t 14), some (6, true), false, []⟩,
⟨some 16, .load 1 false (.t 15), some (6, true), false, []⟩,
⟨some 17, .eq true [0] (.t 11) (.t 16), some (6, true), false, []⟩,
⟨some 18, .pick (.t 6) (.t 17) (.c (.bool false)), none, false, []⟩,
⟨some 3, .mv (.t 18), none, false, []⟩]) .ret))⟩
def a160 : AFunc := ⟨9, [.tmp 4], (.seq (.region false [
⟨some 4, .mv (.c (.bool false)), none, false, []⟩]) (.seq (.region false [
⟨some 5, .mv (.t 0), none, false, []⟩,
⟨some 6, .mv (.t 1), none, false, []⟩,
⟨some 7, .call 162 [(.t 5), (.t 6)], none, false, []⟩,
⟨some 8, .bin .geq (.t 7) (.c (.int .i64 0)), none, false, []⟩,
⟨some 4, .mv (.t 8), none, false, []⟩]) .ret))⟩
def a161l0b : ACode := (.seq (.region false [
⟨some 9, .bin .lss (.t 8) (.t 7), none, false, []⟩]) (.seq (.cond (.t 9) .skip (.exit 0)) (.seq (.block 1 (.seq (.region false [
⟨some 10, .mv (.t 8), none, false, []⟩,
⟨some 5, .mv (.t 10), none, false, []⟩]) (.seq (.region false [
⟨some 11, .mv (.t 1), none, false, []⟩,
⟨some 12, .mv (.t 0), none, false, []⟩,
⟨some 13, .mv (.t 5), none, false, []⟩,
⟨some 14, .iaddr 2 (.t 12) (.t 13), none, false, []⟩,
⟨some 15, .load 2 true (.t 14), none, false, []⟩,
⟨some 16, .callv (.t 11) [(.t 15)], none, false, []⟩]) (.cond (.t 16) (.seq (.region false [
⟨some 17, .mv (.t 5), none, false, []⟩,
⟨some 4, .mv (.t 17), none, false, []⟩]) .ret) .skip)))) (.region false [
⟨some 18, .bin .add (.t 8) (.c (.int .i64 1)), none, false, []⟩,
⟨some 8, .mv (.t 18), none, false, []⟩]))))
def a161l0 : ACode := .loop [0, 1, 7, 8] [4] a161l0b
def a161 : AFunc := ⟨19, [.tmp 4], (.seq (.region false [
⟨some 4, .mv (.c (.int .i64 0)), none, false, []⟩]) (.seq (.seq (.region false [
⟨some 6, .mv (.t 0), none, false, []⟩,
⟨some 7, .len false (.t 6), none, false, []⟩,
⟨some 8, .mv (.c (.int .i64 0)), none, false, []⟩]) (.block 0 a161l0)) (.seq (.region false [
⟨some 4, .mv (.c (.int .i64 (-1))), none, false, []⟩]) .ret)))⟩
def a162l0b : ACode := (.seq (.region false [
⟨some 9, .bin .lss (.t 8) (.t 7), none, false, []⟩]) (.seq (.cond (.t 9) .skip (.exit 0)) (.seq (.block 1 (.seq (.region false [
⟨some 10, .mv (.t 8), none, false, []⟩,
⟨some 5, .mv (.t 10), none, false, []⟩]) (.seq (.region false [
⟨some 11, .mv (.t 1), none, false, []⟩,
⟨some 12, .mv (.t 0), none, false, []⟩,
⟨some 13, .mv (.t 5), none, false, []⟩,
⟨some 14, .iaddr 1 (.t 12) (.t 13), none, false, []⟩,
⟨some 15, .load 1 false (.t 14), none, false, []⟩,
⟨some 16, .eq false [0] (.t 11) (.t 15), none, false, []⟩]) (.cond (.t 16) (.seq (.region false [
⟨some 17, .mv (.t 5), none, false, []⟩,
⟨some 4, .mv (.t 17), none, false, []⟩]) .ret) .skip)))) (.region false [
⟨some 18, .bin .add (.t 8) (.c (.int .i64 1)), none, false, []⟩,
⟨some 8, .mv (.t 18), none, false, []⟩]))))
def a162l0 : ACode := .loop [0, 1, 7, 8] [4] a162l0b
def a162 : AFunc := ⟨19, [.tmp 4], (.seq (.region false [
⟨some 4, .mv (.c (.int .i64 0)), none, false, []⟩]) (.seq (.seq (.region false [
⟨some 6, .mv (.t 0), none, false, []⟩,
⟨some 7, .len false (.t 6), none, false, []⟩,
⟨some 8, .mv (.c (.int .i64 0)), none, false, []⟩]) (.block 0 a162l0)) (.seq (.region false [
⟨some 4, .mv (.c (.int .i64 (-1))), none, false, []⟩]) .ret)))⟩
def tab : Nat → Option AFunc
  | 6 => some a6
  | 14 => some a14
  | 15 => some a15
  | 16 => some a16
  | 17 => some a17
  | 19 => some a19
  | 20 => some a20
  | 21 => some a21
  | 28 => some a28
  | 31 => some a31
  | 32 => some a32
  | 34 => some a34
  | 38 => some a38
  | 39 => some a39
  | 40 => some a40
  | 41 => some a41
  | 42 => some a42
  | 48 => some a48
  | 55 => some a55
  | 68 => some a68
  | 69 => some a69
  | 70 => some a70
  | 71 => some a71
  | 72 => some a72
  | 73 => some a73
  | 74 => some a74
  | 75 => some a75
  | 76 => some a76
  | 77 => some a77
  | 78 => some a78
  | 79 => some a79
  | 80 => some a80
  | 82 => some a82
  | 83 => some a83
  | 84 => some a84
  | 85 => some a85
  | 86 => some a86
  | 87 => some a87
  | 88 => some a88
  | 89 => some a89
  | 90 => some a90
  | 91 => some a91
  | 92 => some a92
  | 93 => some a93
  | 97 => some a97
  | 98 => some a98
  | 99 => some a99
  | 100 => some a100
  | 101 => some a101
  | 102 => some a102
  | 106 => some a106
  | 107 => some a107
  | 108 => some a108
  | 115 => some a115
  | 116 => some a116
  | 117 => some a117
  | 119 => some a119
  | 131 => some a131
  | 132 => some a132
  | 133 => some a133
  | 134 => some a134
  | 135 => some a135
  | 136 => some a136
  | 137 => some a137
  | 138 => some a138
  | 139 => some a139
  | 140 => some a140
  | 141 => some a141
  | 144 => some a144
  | 145 => some a145
  | 146 => some a146
  | 147 => some a147
  | 148 => some a148
  | 149 => some a149
  | 151 => some a151
  | 152 => some a152
  | 153 => some a153
  | 154 => some a154
  | 156 => some a156
  | 157 => some a157
  | 158 => some a158
  | 159 => some a159
  | 160 => some a160
  | 161 => some a161
  | 162 => some a162
  | _ => none
end Go.AI
