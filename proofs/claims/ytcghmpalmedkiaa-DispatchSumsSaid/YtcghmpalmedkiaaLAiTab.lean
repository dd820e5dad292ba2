/-
  The functions, as the interpreter reads them.
-/
import Derived.Test.YtcghmpalmedkiaaLAiDef
namespace Go.AI
def a4l0b : ACode := (.seq (.seq (.region false [
⟨some 179, .mv (.t 21), none, false, []⟩,
⟨some 180, .mv (.t 1), none, false, []⟩,
⟨some 181, .len false (.t 180), none, false, []⟩,
⟨some 182, .bin .lss (.t 179) (.t 181), none, false, []⟩]) (.cond (.t 182) .skip (.exit 0))) (.seq (.block 1 (.seq (.region true [
⟨some 185, .mv (.t 18), none, false, []⟩,
⟨some 186, .mv (.t 1), none, false, []⟩,
⟨some 187, .mv (.t 21), none, false, []⟩,
⟨some 188, .iaddr 1 (.t 186) (.t 187), none, false, []⟩,
⟨some 189, .load 1 false (.t 188), none, false, []⟩,
⟨some 190, .call 15 [(.t 189)], none, true, []⟩,
⟨some 191, .bin .add (.t 185) (.t 190), none, false, []⟩,
⟨some 192, .mv (.t 19), none, false, []⟩,
⟨some 193, .mv (.t 2), none, false, []⟩,
⟨some 194, .mv (.t 21), none, false, []⟩,
⟨some 195, .iaddr 1 (.t 193) (.t 194), none, false, []⟩,
⟨some 196, .load 1 false (.t 195), none, true, [5]⟩,
⟨some 197, .call 15 [(.t 196)], none, false, []⟩,
⟨some 198, .bin .add (.t 192) (.t 197), none, false, []⟩,
⟨some 18, .mv (.t 191), none, false, []⟩,
⟨some 19, .mv (.t 198), none, false, []⟩]) (.seq (.seq (.region true [
⟨some 199, .mv (.t 14), none, false, []⟩,
⟨some 200, .mv (.t 21), none, false, []⟩,
⟨some 201, .iaddr 1 (.t 199) (.t 200), none, false, []⟩,
⟨some 202, .load 1 false (.t 201), none, false, []⟩,
⟨some 203, .mv (.t 20), none, false, []⟩,
⟨some 204, .faddr 1 (.t 3), none, false, []⟩,
⟨some 205, .load 1 false (.t 204), none, false, []⟩,
⟨some 206, .bin .sub (.t 203) (.t 205), none, false, []⟩,
⟨some 207, .mv (.t 20), none, false, []⟩,
⟨some 208, .faddr 1 (.t 3), none, false, []⟩,
⟨some 209, .load 1 false (.t 208), none, false, []⟩,
⟨some 210, .bin .add (.t 207) (.t 209), none, false, []⟩,
⟨some 211, .call 16 [(.t 202), (.t 206), (.t 210)], none, false, []⟩,
⟨some 212, .un .not (.t 211), none, false, []⟩,
⟨some 213, .mv (.t 212), none, false, []⟩,
⟨some 214, .mv (.t 14), some (213, false), false, []⟩,
⟨some 215, .mv (.t 21), some (213, false), false, []⟩,
⟨some 216, .iaddr 1 (.t 214) (.t 215), some (213, false), false, []⟩,
⟨some 217, .load 1 false (.t 216), some (213, false), false, []⟩,
⟨some 218, .mv (.t 1), some (213, false), false, []⟩,
⟨some 219, .mv (.t 21), some (213, false), false, []⟩,
⟨some 220, .iaddr 1 (.t 218) (.t 219), some (213, false), false, []⟩,
⟨some 221, .load 1 false (.t 220), some (213, false), false, []⟩,
⟨some 222, .bin .neq (.t 217) (.t 221), some (213, false), false, []⟩,
⟨some 223, .mv (.t 222), some (213, false), false, []⟩,
⟨some 224, .mv (.t 14), some (223, true), false, []⟩,
⟨some 225, .mv (.t 21), some (223, true), false, []⟩,
⟨some 226, .iaddr 1 (.t 224) (.t 225), some (223, true), false, []⟩,
⟨some 227, .load 1 false (.t 226), some (223, true), false, []⟩,
⟨some 228, .mv (.t 20), some (223, true), false, []⟩,
⟨some 229, .bin .sub (.t 227) (.t 228), some (223, true), false, []⟩,
⟨some 230, .call 15 [(.t 229)], some (223, true), true, []⟩,
⟨some 231, .faddr 1 (.t 3), some (223, true), false, []⟩,
⟨some 232, .load 1 false (.t 231), some (223, true), true, [31]⟩,
⟨some 233, .bin .neq (.t 230) (.t 232), some (223, true), false, []⟩,
⟨some 234, .pick (.t 223) (.t 233) (.c (.bool false)), some (213, false), false, []⟩,
⟨some 235, .pick (.t 213) (.c (.bool true)) (.t 234), none, false, []⟩]) (.cond (.t 235) (.seq (.region false [
⟨some 6, .mv (.c (.bool false)), none, false, []⟩]) .ret) .skip)) (.region false [
⟨some 236, .mv (.t 14), none, false, []⟩,
⟨some 237, .mv (.t 21), none, false, []⟩,
⟨some 238, .iaddr 1 (.t 236) (.t 237), none, false, []⟩,
⟨some 239, .load 1 false (.t 238), none, false, []⟩,
⟨some 20, .mv (.t 239), none, false, []⟩])))) (.region false [
⟨some 183, .mv (.t 21), none, false, []⟩,
⟨some 184, .bin .add (.t 183) (.c (.int .i64 1)), none, false, []⟩,
⟨some 21, .mv (.t 184), none, false, []⟩])))
def a4l0 : ACode := .loop [1, 2, 3, 7, 14, 16, 18, 19, 20, 21] [1, 3, 6, 7, 16, 18, 19] a4l0b
def a4l1b : ACode := (.seq (.seq (.region false [
⟨some 270, .mv (.t 23), none, false, []⟩,
⟨some 271, .bin .lss (.t 270) (.c (.int .i64 80)), none, false, []⟩]) (.cond (.t 271) .skip (.exit 2))) (.seq (.block 3 (.region false [
⟨some 274, .mv (.t 22), none, false, []⟩,
⟨some 275, .mv (.t 1), none, false, []⟩,
⟨some 276, .iaddr 1 (.t 275) (.c (.int .i64 0)), none, false, []⟩,
⟨some 277, .load 1 false (.t 276), none, false, []⟩,
⟨some 278, .bslice 3 1 1 [.int .i64 0] [(0, (.t 277))], none, false, []⟩,
⟨some 279, .app 3 1 8 [.int .i64 0] (.t 274) (.t 278), none, false, []⟩,
⟨some 22, .mv (.t 279), none, false, []⟩])) (.region false [
⟨some 272, .mv (.t 23), none, false, []⟩,
⟨some 273, .bin .add (.t 272) (.c (.int .i64 1)), none, false, []⟩,
⟨some 23, .mv (.t 273), none, false, []⟩])))
def a4l1 : ACode := .loop [1, 3, 22, 23] [1, 3, 6, 22] a4l1b
def a4 : AFunc := ⟨318, [.tmp 6], (.seq (.region false [
⟨some 3, .box 23 (.t 0), none, false, []⟩,
⟨some 6, .mv (.c (.bool false)), none, false, []⟩]) (.seq (.seq (.region false [
⟨some 26, .call 5 [], none, false, []⟩,
⟨some 27, .un .not (.t 26), none, false, []⟩]) (.cond (.t 27) (.seq (.region false [
⟨some 6, .mv (.c (.bool false)), none, false, []⟩]) .ret) .skip)) (.seq (.seq (.region false [
⟨some 28, .mv (.t 1), none, false, []⟩,
⟨some 29, .len false (.t 28), none, false, []⟩,
⟨some 30, .bin .gtr (.t 29) (.c (.int .i64 80)), none, false, []⟩,
⟨some 31, .mv (.t 30), none, false, []⟩,
⟨some 32, .mv (.t 2), some (31, false), false, []⟩,
⟨some 33, .len false (.t 32), some (31, false), false, []⟩,
⟨some 34, .mv (.t 1), some (31, false), false, []⟩,
⟨some 35, .len false (.t 34), some (31, false), false, []⟩,
⟨some 36, .bin .neq (.t 33) (.t 35), some (31, false), false, []⟩,
⟨some 37, .pick (.t 31) (.c (.bool true)) (.t 36), none, false, []⟩,
⟨some 38, .mv (.t 37), none, false, []⟩,
⟨some 39, .mv (.t 1), some (38, false), false, []⟩,
⟨some 40, .call 11 [(.t 39)], some (38, false), false, []⟩,
⟨some 41, .bin .neq (.t 40) (.c (.int .i64 0)), some (38, false), false, []⟩,
⟨some 42, .pick (.t 38) (.c (.bool true)) (.t 41), none, false, []⟩,
⟨some 43, .mv (.t 42), none, false, []⟩,
⟨some 44, .mv (.t 2), some (43, false), false, []⟩,
⟨some 45, .call 11 [(.t 44)], some (43, false), false, []⟩,
⟨some 46, .bin .neq (.t 45) (.c (.int .i64 0)), some (43, false), false, []⟩,
⟨some 47, .pick (.t 43) (.c (.bool true)) (.t 46), none, false, []⟩,
⟨some 48, .mv (.t 47), none, false, []⟩,
⟨some 49, .faddr 0 (.t 3), some (48, false), false, []⟩,
⟨some 50, .load 1 false (.t 49), some (48, false), false, []⟩,
⟨some 51, .faddr 1 (.t 3), some (48, false), false, []⟩,
⟨some 52, .load 1 false (.t 51), some (48, false), false, []⟩,
⟨some 53, .call 10 [(.t 50), (.t 52)], some (48, false), false, []⟩,
⟨some 54, .bin .neq (.t 53) (.c (.int .i64 0)), some (48, false), false, []⟩,
⟨some 55, .pick (.t 48) (.c (.bool true)) (.t 54), none, false, []⟩]) (.cond (.t 55) (.seq (.region false [
⟨some 6, .mv (.c (.bool true)), none, false, []⟩]) .ret) .skip)) (.seq (.region false [
⟨some 57, .mv (.t 1), none, false, []⟩,
⟨some 58, .call 8 [(.t 57)], none, false, []⟩,
⟨some 59, .mv (.t 2), none, false, []⟩,
⟨some 60, .call 8 [(.t 59)], none, false, []⟩,
⟨some 61, .call 9 [(.t 58), (.t 60)], none, false, []⟩,
⟨some 56, .mv (.t 61), none, false, []⟩,
⟨some 62, .ext (.t 56) 0, none, false, []⟩,
⟨some 63, .ext (.t 56) 1, none, false, []⟩,
⟨some 7, .alloc 32 [.int .i64 0, .int .i64 0, .int .i64 0], none, false, []⟩,
⟨none, .store 3 (.t 7) (.t 62), none, false, []⟩,
⟨some 8, .mv (.t 63), none, false, []⟩]) (.seq (.region false [
⟨some 64, .mv (.t 1), none, false, []⟩,
⟨some 65, .len false (.t 64), none, false, []⟩,
⟨some 66, .bin .quo (.t 65) (.c (.int .i64 2)), none, false, []⟩,
⟨some 9, .mv (.t 66), none, false, []⟩]) (.seq (.region true [
⟨some 68, .mv (.t 1), none, false, []⟩,
⟨some 69, .mv (.t 9), none, false, []⟩,
⟨some 70, .slice 1 (.t 68) none (some (.t 69)) none, none, false, []⟩,
⟨some 71, .call 8 [(.t 70)], none, true, []⟩,
⟨some 72, .mv (.t 2), none, false, []⟩,
⟨some 73, .mv (.t 9), none, false, []⟩,
⟨some 74, .slice 1 (.t 72) none (some (.t 73)) none, none, false, []⟩,
⟨some 75, .call 8 [(.t 74)], none, true, []⟩,
⟨some 76, .call 9 [(.t 71), (.t 75)], none, true, []⟩,
⟨some 67, .mv (.t 76), none, false, []⟩,
⟨some 77, .ext (.t 67) 0, none, false, []⟩,
⟨some 78, .ext (.t 67) 1, none, false, []⟩,
⟨some 10, .alloc 32 [.int .i64 0, .int .i64 0, .int .i64 0], none, true, [3, 7, 8]⟩,
⟨none, .store 3 (.t 10) (.t 77), none, false, []⟩,
⟨some 11, .mv (.t 78), none, false, []⟩]) (.seq (.region true [
⟨some 80, .mv (.t 1), none, false, []⟩,
⟨some 81, .mv (.t 9), none, false, []⟩,
⟨some 82, .slice 1 (.t 80) (some (.t 81)) none none, none, false, []⟩,
⟨some 83, .call 8 [(.t 82)], none, true, []⟩,
⟨some 84, .mv (.t 2), none, false, []⟩,
⟨some 85, .mv (.t 9), none, false, []⟩,
⟨some 86, .slice 1 (.t 84) (some (.t 85)) none none, none, false, []⟩,
⟨some 87, .call 8 [(.t 86)], none, true, []⟩,
⟨some 88, .call 9 [(.t 83), (.t 87)], none, true, []⟩,
⟨some 79, .mv (.t 88), none, false, []⟩,
⟨some 89, .ext (.t 79) 0, none, false, []⟩,
⟨some 90, .ext (.t 79) 1, none, false, []⟩,
⟨some 12, .alloc 32 [.int .i64 0, .int .i64 0, .int .i64 0], none, true, [3, 7, 8]⟩,
⟨none, .store 3 (.t 12) (.t 89), none, false, []⟩,
⟨some 13, .mv (.t 90), none, false, []⟩]) (.seq (.region true [
⟨some 92, .faddr 0 (.t 3), none, false, []⟩,
⟨some 93, .load 1 false (.t 92), none, true, []⟩,
⟨some 94, .faddr 1 (.t 3), none, false, []⟩,
⟨some 95, .load 1 false (.t 94), none, true, []⟩,
⟨some 96, .mv (.t 1), none, false, []⟩,
⟨some 97, .call 8 [(.t 96)], none, true, []⟩,
⟨some 98, .call 7 [(.t 93), (.t 95), (.t 97)], none, false, []⟩,
⟨some 91, .mv (.t 98), none, false, []⟩,
⟨some 99, .ext (.t 91) 0, none, false, []⟩,
⟨some 100, .ext (.t 91) 1, none, false, []⟩,
⟨some 14, .mv (.t 99), none, false, []⟩,
⟨some 15, .mv (.t 100), none, false, []⟩]) (.seq (.region false [
⟨some 102, .mv (.t 1), none, false, []⟩,
⟨some 103, .call 8 [(.t 102)], none, false, []⟩,
⟨some 104, .mv (.t 1), none, false, []⟩,
⟨some 105, .call 8 [(.t 104)], none, false, []⟩,
⟨some 106, .call 9 [(.t 103), (.t 105)], none, false, []⟩,
⟨some 101, .mv (.t 106), none, false, []⟩,
⟨some 107, .ext (.t 101) 0, none, false, []⟩,
⟨some 108, .ext (.t 101) 1, none, false, []⟩,
⟨some 16, .alloc 32 [.int .i64 0, .int .i64 0, .int .i64 0], none, false, []⟩,
⟨none, .store 3 (.t 16) (.t 107), none, false, []⟩,
⟨some 17, .mv (.t 108), none, false, []⟩]) (.seq (.seq (.region false [
⟨some 109, .mv (.t 8), none, false, []⟩,
⟨some 110, .bin .neq (.t 109) (.c (.int .i64 0)), none, false, []⟩,
⟨some 111, .mv (.t 110), none, false, []⟩,
⟨some 112, .mv (.t 11), some (111, false), false, []⟩,
⟨some 113, .bin .neq (.t 112) (.c (.int .i64 0)), some (111, false), false, []⟩,
⟨some 114, .pick (.t 111) (.c (.bool true)) (.t 113), none, false, []⟩,
⟨some 115, .mv (.t 114), none, false, []⟩,
⟨some 116, .mv (.t 13), some (115, false), false, []⟩,
⟨some 117, .bin .neq (.t 116) (.c (.int .i64 0)), some (115, false), false, []⟩,
⟨some 118, .pick (.t 115) (.c (.bool true)) (.t 117), none, false, []⟩,
⟨some 119, .mv (.t 118), none, false, []⟩,
⟨some 120, .mv (.t 15), some (119, false), false, []⟩,
⟨some 121, .bin .neq (.t 120) (.c (.int .i64 0)), some (119, false), false, []⟩,
⟨some 122, .pick (.t 119) (.c (.bool true)) (.t 121), none, false, []⟩,
⟨some 123, .mv (.t 122), none, false, []⟩,
⟨some 124, .mv (.t 17), some (123, false), false, []⟩,
⟨some 125, .bin .neq (.t 124) (.c (.int .i64 0)), some (123, false), false, []⟩,
⟨some 126, .pick (.t 123) (.c (.bool true)) (.t 125), none, false, []⟩,
⟨some 127, .mv (.t 126), none, false, []⟩,
⟨some 128, .mv (.t 14), some (127, false), false, []⟩,
⟨some 129, .len false (.t 128), some (127, false), false, []⟩,
⟨some 130, .mv (.t 1), some (127, false), false, []⟩,
⟨some 131, .len false (.t 130), some (127, false), false, []⟩,
⟨some 132, .bin .neq (.t 129) (.t 131), some (127, false), false, []⟩,
⟨some 133, .pick (.t 127) (.c (.bool true)) (.t 132), none, false, []⟩]) (.cond (.t 133) (.seq (.region false [
⟨some 6, .mv (.c (.bool false)), none, false, []⟩]) .ret) .skip)) (.seq (.seq (.region false [
⟨some 134, .faddr 0 (.t 7), none, false, []⟩,
⟨some 135, .load 1 false (.t 134), none, false, []⟩,
⟨some 136, .faddr 0 (.t 10), none, false, []⟩,
⟨some 137, .load 1 false (.t 136), none, false, []⟩,
⟨some 138, .faddr 0 (.t 12), none, false, []⟩,
⟨some 139, .load 1 false (.t 138), none, false, []⟩,
⟨some 140, .bin .add (.t 137) (.t 139), none, false, []⟩,
⟨some 141, .bin .neq (.t 135) (.t 140), none, false, []⟩,
⟨some 142, .mv (.t 141), none, false, []⟩,
⟨some 143, .faddr 1 (.t 7), some (142, false), false, []⟩,
⟨some 144, .load 1 false (.t 143), some (142, false), false, []⟩,
⟨some 145, .faddr 1 (.t 10), some (142, false), false, []⟩,
⟨some 146, .load 1 false (.t 145), some (142, false), false, []⟩,
⟨some 147, .faddr 1 (.t 12), some (142, false), false, []⟩,
⟨some 148, .load 1 false (.t 147), some (142, false), false, []⟩,
⟨some 149, .bin .add (.t 146) (.t 148), some (142, false), false, []⟩,
⟨some 150, .bin .neq (.t 144) (.t 149), some (142, false), false, []⟩,
⟨some 151, .pick (.t 142) (.c (.bool true)) (.t 150), none, false, []⟩,
⟨some 152, .mv (.t 151), none, false, []⟩,
⟨some 153, .faddr 2 (.t 7), some (152, false), false, []⟩,
⟨some 154, .load 1 false (.t 153), some (152, false), false, []⟩,
⟨some 155, .faddr 2 (.t 10), some (152, false), false, []⟩,
⟨some 156, .load 1 false (.t 155), some (152, false), false, []⟩,
⟨some 157, .faddr 2 (.t 12), some (152, false), false, []⟩,
⟨some 158, .load 1 false (.t 157), some (152, false), false, []⟩,
⟨some 159, .bin .add (.t 156) (.t 158), some (152, false), false, []⟩,
⟨some 160, .bin .neq (.t 154) (.t 159), some (152, false), false, []⟩,
⟨some 161, .pick (.t 152) (.c (.bool true)) (.t 160), none, false, []⟩,
⟨some 162, .mv (.t 161), none, false, []⟩,
⟨some 163, .faddr 0 (.t 7), some (162, false), false, []⟩,
⟨some 164, .load 1 false (.t 163), some (162, false), false, []⟩,
⟨some 165, .bin .lss (.t 164) (.c (.int .i64 0)), some (162, false), false, []⟩,
⟨some 166, .pick (.t 162) (.c (.bool true)) (.t 165), none, false, []⟩,
⟨some 167, .mv (.t 166), none, false, []⟩,
⟨some 168, .faddr 1 (.t 7), some (167, false), false, []⟩,
⟨some 169, .load 1 false (.t 168), some (167, false), false, []⟩,
⟨some 170, .bin .lss (.t 169) (.c (.int .i64 0)), some (167, false), false, []⟩,
⟨some 171, .pick (.t 167) (.c (.bool true)) (.t 170), none, false, []⟩,
⟨some 172, .mv (.t 171), none, false, []⟩,
⟨some 173, .faddr 2 (.t 7), some (172, false), false, []⟩,
⟨some 174, .load 1 false (.t 173), some (172, false), false, []⟩,
⟨some 175, .bin .lss (.t 174) (.c (.int .i64 0)), some (172, false), false, []⟩,
⟨some 176, .pick (.t 172) (.c (.bool true)) (.t 175), none, false, []⟩]) (.cond (.t 176) (.seq (.region false [
⟨some 6, .mv (.c (.bool false)), none, false, []⟩]) .ret) .skip)) (.seq (.region false [
⟨some 18, .mv (.c (.int .i64 0)), none, false, []⟩,
⟨some 19, .mv (.c (.int .i64 0)), none, false, []⟩]) (.seq (.region false [
⟨some 177, .faddr 0 (.t 3), none, false, []⟩,
⟨some 178, .load 1 false (.t 177), none, false, []⟩,
⟨some 20, .mv (.t 178), none, false, []⟩]) (.seq (.seq (.region false [
⟨some 21, .mv (.c (.int .i64 0)), none, false, []⟩]) (.block 0 a4l0)) (.seq (.seq (.region false [
⟨some 240, .faddr 0 (.t 7), none, false, []⟩,
⟨some 241, .load 1 false (.t 240), none, false, []⟩,
⟨some 242, .faddr 1 (.t 7), none, false, []⟩,
⟨some 243, .load 1 false (.t 242), none, false, []⟩,
⟨some 244, .bin .add (.t 241) (.t 243), none, false, []⟩,
⟨some 245, .mv (.t 18), none, false, []⟩,
⟨some 246, .bin .neq (.t 244) (.t 245), none, false, []⟩,
⟨some 247, .mv (.t 246), none, false, []⟩,
⟨some 248, .faddr 0 (.t 7), some (247, false), false, []⟩,
⟨some 249, .load 1 false (.t 248), some (247, false), false, []⟩,
⟨some 250, .faddr 2 (.t 7), some (247, false), false, []⟩,
⟨some 251, .load 1 false (.t 250), some (247, false), false, []⟩,
⟨some 252, .bin .add (.t 249) (.t 251), some (247, false), false, []⟩,
⟨some 253, .mv (.t 19), some (247, false), false, []⟩,
⟨some 254, .bin .neq (.t 252) (.t 253), some (247, false), false, []⟩,
⟨some 255, .pick (.t 247) (.c (.bool true)) (.t 254), none, false, []⟩,
⟨some 256, .mv (.t 255), none, false, []⟩,
⟨some 257, .load 3 true (.t 16), some (256, false), false, []⟩,
⟨some 258, .mv (.t 18), some (256, false), false, []⟩,
⟨some 259, .build [.int .i64 0, .int .i64 0, .int .i64 0] [(0, 1, (.t 258))], some (256, false), false, []⟩,
⟨some 260, .eq true [1, 1, 1] (.t 257) (.t 259), some (256, false), false, []⟩,
⟨some 261, .pick (.t 256) (.c (.bool true)) (.t 260), none, false, []⟩]) (.cond (.t 261) (.seq (.region false [
⟨some 6, .mv (.c (.bool false)), none, false, []⟩]) .ret) .skip)) (.seq (.seq (.region false [
⟨some 262, .faddr 1 (.t 3), none, false, []⟩,
⟨some 263, .load 1 false (.t 262), none, false, []⟩,
⟨some 264, .bin .eql (.t 263) (.c (.int .i64 0)), none, false, []⟩,
⟨some 265, .mv (.t 264), none, false, []⟩,
⟨some 266, .mv (.t 1), some (265, false), false, []⟩,
⟨some 267, .len false (.t 266), some (265, false), false, []⟩,
⟨some 268, .bin .eql (.t 267) (.c (.int .i64 0)), some (265, false), false, []⟩,
⟨some 269, .pick (.t 265) (.c (.bool true)) (.t 268), none, false, []⟩]) (.cond (.t 269) (.seq (.region false [
⟨some 6, .mv (.c (.bool true)), none, false, []⟩]) .ret) .skip)) (.seq (.region false [
⟨some 22, .nils 1 (.c (.nilSlice)), none, false, []⟩]) (.seq (.seq (.region false [
⟨some 23, .mv (.c (.int .i64 0)), none, false, []⟩]) (.block 2 a4l1)) (.seq (.region false [
⟨some 281, .faddr 0 (.t 3), none, false, []⟩,
⟨some 282, .load 1 false (.t 281), none, false, []⟩,
⟨some 283, .faddr 1 (.t 3), none, false, []⟩,
⟨some 284, .load 1 false (.t 283), none, false, []⟩,
⟨some 285, .mv (.t 22), none, false, []⟩,
⟨some 286, .call 7 [(.t 282), (.t 284), (.t 285)], none, false, []⟩,
⟨some 280, .mv (.t 286), none, false, []⟩,
⟨some 287, .ext (.t 280) 0, none, false, []⟩,
⟨some 288, .ext (.t 280) 1, none, false, []⟩,
⟨some 24, .mv (.t 287), none, false, []⟩,
⟨some 25, .mv (.t 288), none, false, []⟩]) (.seq (.region true [
⟨some 289, .mv (.t 25), none, false, []⟩,
⟨some 290, .bin .eql (.t 289) (.c (.int .i64 0)), none, false, []⟩,
⟨some 291, .mv (.t 290), none, false, []⟩,
⟨some 292, .mv (.t 24), some (291, true), false, []⟩,
⟨some 293, .len false (.t 292), some (291, true), false, []⟩,
⟨some 294, .bin .eql (.t 293) (.c (.int .i64 80)), some (291, true), false, []⟩,
⟨some 295, .pick (.t 291) (.t 294) (.c (.bool false)), none, false, []⟩,
⟨some 296, .mv (.t 295), none, false, []⟩,
⟨some 297, .faddr 1 (.t 3), some (296, true), false, []⟩,
⟨some 298, .load 1 false (.t 297), some (296, true), true, []⟩,
⟨some 299, .bin .mul (.c (.int .i64 80)) (.t 298), some (296, true), false, []⟩,
⟨some 300, .mv (.t 1), some (296, true), false, []⟩,
⟨some 301, .iaddr 1 (.t 300) (.c (.int .i64 0)), some (296, true), false, []⟩,
⟨some 302, .load 1 false (.t 301), some (296, true), false, []⟩,
⟨some 303, .faddr 0 (.t 3), some (296, true), false, []⟩,
⟨some 304, .load 1 false (.t 303), some (296, true), false, []⟩,
⟨some 305, .bin .sub (.t 302) (.t 304), some (296, true), false, []⟩,
⟨some 306, .call 15 [(.t 305)], some (296, true), true, []⟩,
⟨some 307, .bin .lss (.t 299) (.t 306), some (296, true), false, []⟩,
⟨some 308, .mv (.t 307), some (296, true), false, []⟩,
⟨some 309, .mv (.t 24), some (308, false), false, []⟩,
⟨some 310, .iaddr 1 (.t 309) (.c (.int .i64 79)), some (308, false), false, []⟩,
⟨some 311, .load 1 false (.t 310), some (308, false), false, []⟩,
⟨some 312, .mv (.t 1), some (308, false), false, []⟩,
⟨some 313, .iaddr 1 (.t 312) (.c (.int .i64 0)), some (308, false), false, []⟩,
⟨some 314, .load 1 false (.t 313), some (308, false), false, []⟩,
⟨some 315, .bin .eql (.t 311) (.t 314), some (308, false), false, []⟩,
⟨some 316, .pick (.t 308) (.c (.bool true)) (.t 315), some (296, true), false, []⟩,
⟨some 317, .pick (.t 296) (.t 316) (.c (.bool false)), none, false, []⟩,
⟨some 6, .mv (.t 317), none, false, []⟩]) .ret))))))))))))))))))))⟩
def a5 : AFunc := ⟨97, [.tmp 0], (.seq (.region false [
⟨some 0, .mv (.c (.bool false)), none, false, []⟩]) (.seq (.region false [
⟨some 14, .call 18 [], none, false, []⟩,
⟨some 15, .call 19 [], none, false, []⟩,
⟨some 16, .call 17 [(.t 14), (.t 15)], none, false, []⟩,
⟨some 13, .mv (.t 16), none, false, []⟩,
⟨some 17, .ext (.t 13) 0, none, false, []⟩,
⟨some 18, .ext (.t 13) 1, none, false, []⟩,
⟨some 19, .ext (.t 13) 2, none, false, []⟩,
⟨some 1, .mv (.t 17), none, false, []⟩,
⟨some 2, .mv (.t 18), none, false, []⟩,
⟨some 3, .mv (.t 19), none, false, []⟩]) (.seq (.region false [
⟨some 21, .call 18 [], none, false, []⟩,
⟨some 22, .call 19 [], none, false, []⟩,
⟨some 23, .bslice 3 1 2 [.int .i64 0] [(0, (.c (.int .i64 0))), (1, (.c (.int .i64 2)))], none, false, []⟩,
⟨some 24, .nbuild [1, 0] [.nilSlice, .int .i64 0] [(0, 1, (.t 23)), (1, 1, (.c (.int .i64 2)))], none, false, []⟩,
⟨some 25, .call 20 [(.t 21), (.t 22), (.t 24)], none, false, []⟩,
⟨some 20, .mv (.t 25), none, false, []⟩,
⟨some 26, .ext (.t 20) 0, none, false, []⟩,
⟨some 27, .ext (.t 20) 1, none, false, []⟩,
⟨some 4, .mv (.t 26), none, false, []⟩,
⟨some 5, .mv (.t 27), none, false, []⟩]) (.seq (.region false [
⟨some 29, .bslice 3 1 3 [.int .i64 0] [(0, (.c (.int .i64 12))), (1, (.c (.int .i64 12))), (2, (.c (.int .i64 3)))], none, false, []⟩,
⟨some 30, .bslice 3 1 3 [.int .i64 0] [(0, (.c (.int .i64 5))), (1, (.c (.int .i64 10))), (2, (.c (.int .i64 5)))], none, false, []⟩,
⟨some 31, .call 9 [(.t 29), (.t 30)], none, false, []⟩,
⟨some 28, .mv (.t 31), none, false, []⟩,
⟨some 32, .ext (.t 28) 0, none, false, []⟩,
⟨some 33, .ext (.t 28) 1, none, false, []⟩,
⟨some 6, .alloc 32 [.int .i64 0, .int .i64 0, .int .i64 0], none, false, []⟩,
⟨none, .store 3 (.t 6) (.t 32), none, false, []⟩,
⟨some 7, .mv (.t 33), none, false, []⟩]) (.seq (.region false [
⟨some 35, .call 22 [], none, false, []⟩,
⟨some 36, .call 21 [(.t 35)], none, false, []⟩,
⟨some 34, .mv (.t 36), none, false, []⟩,
⟨some 37, .ext (.t 34) 0, none, false, []⟩,
⟨some 38, .ext (.t 34) 1, none, false, []⟩,
⟨some 39, .ext (.t 34) 2, none, false, []⟩,
⟨some 8, .mv (.t 37), none, false, []⟩,
⟨some 9, .mv (.t 38), none, false, []⟩,
⟨some 10, .mv (.t 39), none, false, []⟩]) (.seq (.region false [
⟨some 41, .call 18 [], none, false, []⟩,
⟨some 42, .call 19 [], none, false, []⟩,
⟨some 43, .call 23 [(.t 41), (.t 42), (.c (.int .i64 2))], none, false, []⟩,
⟨some 40, .mv (.t 43), none, false, []⟩,
⟨some 44, .ext (.t 40) 0, none, false, []⟩,
⟨some 45, .ext (.t 40) 1, none, false, []⟩,
⟨some 11, .mv (.t 44), none, false, []⟩,
⟨some 12, .mv (.t 45), none, false, []⟩]) (.seq (.region false [
⟨some 46, .mv (.t 3), none, false, []⟩,
⟨some 47, .bin .eql (.t 46) (.c (.int .i64 0)), none, false, []⟩,
⟨some 48, .mv (.t 47), none, false, []⟩,
⟨some 49, .mv (.t 1), some (48, true), false, []⟩,
⟨some 50, .bslice 3 1 2 [.int .i64 0] [(0, (.c (.int .i64 0))), (1, (.c (.int .i64 2)))], some (48, true), false, []⟩,
⟨some 51, .call 12 [(.t 49), (.t 50)], some (48, true), false, []⟩,
⟨some 52, .pick (.t 48) (.t 51) (.c (.bool false)), none, false, []⟩,
⟨some 53, .mv (.t 52), none, false, []⟩,
⟨some 54, .mv (.t 2), some (53, true), false, []⟩,
⟨some 55, .bin .eql (.t 54) (.c (.int .i64 30)), some (53, true), false, []⟩,
⟨some 56, .pick (.t 53) (.t 55) (.c (.bool false)), none, false, []⟩,
⟨some 57, .mv (.t 56), none, false, []⟩,
⟨some 58, .mv (.t 5), some (57, true), false, []⟩,
⟨some 59, .bin .eql (.t 58) (.c (.int .i64 0)), some (57, true), false, []⟩,
⟨some 60, .pick (.t 57) (.t 59) (.c (.bool false)), none, false, []⟩,
⟨some 61, .mv (.t 60), none, false, []⟩,
⟨some 62, .mv (.t 4), some (61, true), false, []⟩,
⟨some 63, .bslice 3 1 2 [.int .i64 0] [(0, (.c (.int .i64 1))), (1, (.c (.int .i64 1)))], some (61, true), false, []⟩,
⟨some 64, .call 12 [(.t 62), (.t 63)], some (61, true), false, []⟩,
⟨some 65, .pick (.t 61) (.t 64) (.c (.bool false)), none, false, []⟩,
⟨some 66, .mv (.t 65), none, false, []⟩,
⟨some 67, .mv (.t 7), some (66, true), false, []⟩,
⟨some 68, .bin .eql (.t 67) (.c (.int .i64 0)), some (66, true), false, []⟩,
⟨some 69, .pick (.t 66) (.t 68) (.c (.bool false)), none, false, []⟩,
⟨some 70, .mv (.t 69), none, false, []⟩,
⟨some 71, .load 3 true (.t 6), some (70, true), false, []⟩,
⟨some 72, .build [.int .i64 0, .int .i64 0, .int .i64 0] [(0, 1, (.c (.int .i64 18))), (1, 1, (.c (.int .i64 9))), (2, 1, (.c (.int .i64 2)))], some (70, true), false, []⟩,
⟨some 73, .eq false [1, 1, 1] (.t 71) (.t 72), some (70, true), false, []⟩,
⟨some 74, .pick (.t 70) (.t 73) (.c (.bool false)), none, false, []⟩,
⟨some 75, .mv (.t 74), none, false, []⟩,
⟨some 76, .mv (.t 10), some (75, true), false, []⟩,
⟨some 77, .bin .eql (.t 76) (.c (.int .i64 0)), some (75, true), false, []⟩,
⟨some 78, .pick (.t 75) (.t 77) (.c (.bool false)), none, false, []⟩,
⟨some 79, .mv (.t 78), none, false, []⟩,
⟨some 80, .mv (.t 8), some (79, true), false, []⟩,
⟨some 81, .bslice 3 1 3 [.int .i64 0] [(0, (.c (.int .i64 0))), (1, (.c (.int .i64 1))), (2, (.c (.int .i64 2)))], some (79, true), false, []⟩,
⟨some 82, .call 12 [(.t 80), (.t 81)], some (79, true), false, []⟩,
⟨some 83, .pick (.t 79) (.t 82) (.c (.bool false)), none, false, []⟩,
⟨some 84, .mv (.t 83), none, false, []⟩,
⟨some 85, .mv (.t 9), some (84, true), false, []⟩,
⟨some 86, .bin .eql (.t 85) (.c (.int .i64 1)), some (84, true), false, []⟩,
⟨some 87, .pick (.t 84) (.t 86) (.c (.bool false)), none, false, []⟩,
⟨some 88, .mv (.t 87), none, false, []⟩,
⟨some 89, .mv (.t 12), some (88, true), false, []⟩,
⟨some 90, .bin .eql (.t 89) (.c (.int .i64 0)), some (88, true), false, []⟩,
⟨some 91, .pick (.t 88) (.t 90) (.c (.bool false)), none, false, []⟩,
⟨some 92, .mv (.t 91), none, false, []⟩,
⟨some 93, .mv (.t 11), some (92, true), false, []⟩,
⟨some 94, .bslice 3 1 3 [.int .i64 0] [(0, (.c (.int .i64 2))), (1, (.c (.int .i64 5))), (2, (.c (.int .i64 8)))], some (92, true), false, []⟩,
⟨some 95, .call 12 [(.t 93), (.t 94)], some (92, true), false, []⟩,
⟨some 96, .pick (.t 92) (.t 95) (.c (.bool false)), none, false, []⟩,
⟨some 0, .mv (.t 96), none, false, []⟩]) .ret)))))))⟩
def a7l0b : ACode := (.seq (.region false [
⟨some 29, .bin .lss (.t 28) (.t 27), none, false, []⟩]) (.seq (.cond (.t 29) .skip (.exit 0)) (.seq (.block 1 (.seq (.region false [
⟨some 30, .iaddr 1 (.t 26) (.t 28), none, false, []⟩,
⟨some 31, .load 1 false (.t 30), none, false, []⟩,
⟨some 11, .mv (.t 31), none, false, []⟩]) (.seq (.region false [
⟨some 32, .mv (.t 11), none, false, []⟩,
⟨some 33, .mv (.t 0), none, false, []⟩,
⟨some 34, .mv (.t 1), none, false, []⟩,
⟨some 35, .bin .sub (.t 33) (.t 34), none, false, []⟩,
⟨some 36, .minmax true (.t 32) [(.t 35)], none, false, []⟩,
⟨some 37, .mv (.t 0), none, false, []⟩,
⟨some 38, .mv (.t 1), none, false, []⟩,
⟨some 39, .bin .add (.t 37) (.t 38), none, false, []⟩,
⟨some 40, .minmax false (.t 36) [(.t 39)], none, false, []⟩,
⟨some 0, .mv (.t 40), none, false, []⟩]) (.region false [
⟨some 41, .mv (.t 9), none, false, []⟩,
⟨some 42, .mv (.t 0), none, false, []⟩,
⟨some 43, .bslice 3 1 1 [.int .i64 0] [(0, (.t 42))], none, false, []⟩,
⟨some 44, .app 3 1 8 [.int .i64 0] (.t 41) (.t 43), none, false, []⟩,
⟨some 9, .mv (.t 44), none, false, []⟩])))) (.region false [
⟨some 45, .bin .add (.t 28) (.c (.int .i64 1)), none, false, []⟩,
⟨some 28, .mv (.t 45), none, false, []⟩]))))
def a7l0 : ACode := .loop [0, 1, 9, 26, 27, 28] [6, 7, 9] a7l0b
def a7 : AFunc := ⟨47, [.tmp 6, .tmp 7], (.seq (.region false [
⟨some 6, .nils 1 (.c (.nilSlice)), none, false, []⟩,
⟨some 7, .mv (.c (.int .i64 0)), none, false, []⟩]) (.seq (.seq (.region false [
⟨some 12, .mv (.t 0), none, false, []⟩,
⟨some 13, .call 26 [(.t 12)], none, false, []⟩,
⟨some 14, .mv (.t 13), none, false, []⟩,
⟨some 15, .mv (.t 1), some (14, true), false, []⟩,
⟨some 16, .call 27 [(.t 15), (.c (.int .i64 0)), (.c (.int .i64 1000000))], some (14, true), false, []⟩,
⟨some 17, .pick (.t 14) (.t 16) (.c (.bool false)), none, false, []⟩,
⟨some 18, .call 25 [(.t 17), (.c (.int .i64 2))], none, false, []⟩,
⟨some 19, .mv (.t 2), none, false, []⟩,
⟨some 20, .call 28 [(.t 19)], none, false, []⟩,
⟨some 21, .bslice 27 1 2 [.int .i64 0] [(0, (.t 18)), (1, (.t 20))], none, false, []⟩,
⟨some 22, .call 24 [(.t 21)], none, false, []⟩,
⟨some 8, .mv (.t 22), none, false, []⟩]) (.seq (.region false [
⟨some 23, .mv (.t 8), none, false, []⟩,
⟨some 24, .bin .neq (.t 23) (.c (.int .i64 0)), none, false, []⟩]) (.cond (.t 24) (.seq (.region false [
⟨some 25, .mv (.t 8), none, false, []⟩,
⟨some 6, .nils 1 (.c (.nilSlice)), none, false, []⟩,
⟨some 7, .mv (.t 25), none, false, []⟩]) .ret) .skip))) (.seq (.region false [
⟨some 9, .nils 1 (.c (.nilSlice)), none, false, []⟩]) (.seq (.seq (.region false [
⟨some 26, .mv (.t 2), none, false, []⟩,
⟨some 27, .len false (.t 26), none, false, []⟩,
⟨some 28, .mv (.c (.int .i64 0)), none, false, []⟩]) (.block 0 a7l0)) (.seq (.region false [
⟨some 46, .mv (.t 9), none, false, []⟩,
⟨some 6, .mv (.t 46), none, false, []⟩,
⟨some 7, .mv (.c (.int .i64 0)), none, false, []⟩]) .ret)))))⟩
def a8 : AFunc := ⟨6, [.tmp 2], (.seq (.region false [
⟨some 2, .nils 1 (.c (.nilSlice)), none, false, []⟩]) (.seq (.region false [
⟨some 3, .bslice 3 1 0 [.int .i64 0] [], none, false, []⟩,
⟨some 4, .mv (.t 0), none, false, []⟩,
⟨some 5, .app 3 1 8 [.int .i64 0] (.t 3) (.t 4), none, false, []⟩,
⟨some 2, .mv (.t 5), none, false, []⟩]) .ret))⟩
def a9l0b : ACode := (.seq (.region false [
⟨some 31, .bin .lss (.t 30) (.t 29), none, false, []⟩]) (.seq (.cond (.t 31) .skip (.exit 0)) (.seq (.block 1 (.seq (.region false [
⟨some 32, .mv (.t 30), none, false, []⟩,
⟨some 33, .iaddr 1 (.t 28) (.t 30), none, false, []⟩,
⟨some 34, .load 1 false (.t 33), none, false, []⟩,
⟨some 8, .mv (.t 32), none, false, []⟩,
⟨some 9, .mv (.t 34), none, false, []⟩]) (.seq (.region false [
⟨some 35, .mv (.t 1), none, false, []⟩,
⟨some 36, .mv (.t 8), none, false, []⟩,
⟨some 37, .iaddr 1 (.t 35) (.t 36), none, false, []⟩,
⟨some 38, .load 1 false (.t 37), none, false, []⟩,
⟨some 10, .mv (.t 38), none, false, []⟩]) (.seq (.region false [
⟨some 11, .mv (.c (.int .i64 0)), none, false, []⟩]) (.seq (.seq (.region false [
⟨some 39, .mv (.t 9), none, false, []⟩,
⟨some 40, .bin .gtr (.t 39) (.c (.int .i64 0)), none, false, []⟩,
⟨some 41, .mv (.t 40), none, false, []⟩,
⟨some 42, .mv (.t 10), some (41, true), false, []⟩,
⟨some 43, .bin .gtr (.t 42) (.c (.int .i64 0)), some (41, true), false, []⟩,
⟨some 44, .pick (.t 41) (.t 43) (.c (.bool false)), none, false, []⟩,
⟨some 45, .mv (.t 44), none, false, []⟩,
⟨some 46, .mv (.t 9), some (45, false), false, []⟩,
⟨some 47, .bin .lss (.t 46) (.c (.int .i64 0)), some (45, false), false, []⟩,
⟨some 48, .mv (.t 47), some (45, false), false, []⟩,
⟨some 49, .mv (.t 10), some (48, true), false, []⟩,
⟨some 50, .bin .lss (.t 49) (.c (.int .i64 0)), some (48, true), false, []⟩,
⟨some 51, .pick (.t 48) (.t 50) (.c (.bool false)), some (45, false), false, []⟩,
⟨some 52, .pick (.t 45) (.c (.bool true)) (.t 51), none, false, []⟩]) (.cond (.t 52) (.region false [
⟨some 53, .mv (.t 9), none, false, []⟩,
⟨some 54, .call 29 [(.t 53)], none, false, []⟩,
⟨some 55, .mv (.t 10), none, false, []⟩,
⟨some 56, .call 29 [(.t 55)], none, false, []⟩,
⟨some 57, .minmax false (.t 54) [(.t 56)], none, false, []⟩,
⟨some 11, .mv (.t 57), none, false, []⟩]) .skip)) (.seq (.region false [
⟨some 58, .faddr 0 (.t 7), none, false, []⟩,
⟨some 59, .load 1 false (.t 58), none, false, []⟩,
⟨some 60, .mv (.t 11), none, false, []⟩,
⟨some 61, .bin .add (.t 59) (.t 60), none, false, []⟩,
⟨some 62, .faddr 0 (.t 7), none, false, []⟩,
⟨none, .store 1 (.t 62) (.t 61), none, false, []⟩]) (.seq (.region true [
⟨some 63, .faddr 1 (.t 7), none, false, []⟩,
⟨some 64, .load 1 false (.t 63), none, true, []⟩,
⟨some 65, .mv (.t 9), none, false, []⟩,
⟨some 66, .call 29 [(.t 65)], none, true, []⟩,
⟨some 67, .mv (.t 11), none, false, []⟩,
⟨some 68, .bin .sub (.t 66) (.t 67), none, false, []⟩,
⟨some 69, .bin .add (.t 64) (.t 68), none, false, []⟩,
⟨some 70, .faddr 1 (.t 7), none, false, []⟩,
⟨none, .store 1 (.t 70) (.t 69), none, false, []⟩]) (.region true [
⟨some 71, .faddr 2 (.t 7), none, false, []⟩,
⟨some 72, .load 1 false (.t 71), none, true, []⟩,
⟨some 73, .mv (.t 10), none, false, []⟩,
⟨some 74, .call 29 [(.t 73)], none, true, []⟩,
⟨some 75, .mv (.t 11), none, false, []⟩,
⟨some 76, .bin .sub (.t 74) (.t 75), none, false, []⟩,
⟨some 77, .bin .add (.t 72) (.t 76), none, false, []⟩,
⟨some 78, .faddr 2 (.t 7), none, false, []⟩,
⟨none, .store 1 (.t 78) (.t 77), none, false, []⟩])))))))) (.region false [
⟨some 79, .bin .add (.t 30) (.c (.int .i64 1)), none, false, []⟩,
⟨some 30, .mv (.t 79), none, false, []⟩]))))
def a9l0 : ACode := .loop [1, 4, 7, 28, 29, 30] [4, 5, 7] a9l0b
def a9 : AFunc := ⟨81, [.cell 4 3 true, .tmp 5], (.seq (.region false [
⟨some 4, .alloc 32 [.int .i64 0, .int .i64 0, .int .i64 0], none, false, []⟩,
⟨some 5, .mv (.c (.int .i64 0)), none, false, []⟩]) (.seq (.seq (.region false [
⟨some 12, .mv (.t 0), none, false, []⟩,
⟨some 13, .call 28 [(.t 12)], none, false, []⟩,
⟨some 14, .mv (.t 1), none, false, []⟩,
⟨some 15, .call 28 [(.t 14)], none, false, []⟩,
⟨some 16, .mv (.t 0), none, false, []⟩,
⟨some 17, .len false (.t 16), none, false, []⟩,
⟨some 18, .mv (.t 1), none, false, []⟩,
⟨some 19, .len false (.t 18), none, false, []⟩,
⟨some 20, .bin .eql (.t 17) (.t 19), none, false, []⟩,
⟨some 21, .call 25 [(.t 20), (.c (.int .i64 10))], none, false, []⟩,
⟨some 22, .bslice 27 1 3 [.int .i64 0] [(0, (.t 13)), (1, (.t 15)), (2, (.t 21))], none, false, []⟩,
⟨some 23, .call 24 [(.t 22)], none, false, []⟩,
⟨some 6, .mv (.t 23), none, false, []⟩]) (.seq (.region false [
⟨some 24, .mv (.t 6), none, false, []⟩,
⟨some 25, .bin .neq (.t 24) (.c (.int .i64 0)), none, false, []⟩]) (.cond (.t 25) (.seq (.region false [
⟨some 26, .build [.int .i64 0, .int .i64 0, .int .i64 0] [], none, false, []⟩,
⟨some 27, .mv (.t 6), none, false, []⟩,
⟨none, .store 3 (.t 4) (.t 26), none, false, []⟩,
⟨some 5, .mv (.t 27), none, false, []⟩]) .ret) .skip))) (.seq (.region false [
⟨some 7, .alloc 32 [.int .i64 0, .int .i64 0, .int .i64 0], none, false, []⟩]) (.seq (.seq (.region false [
⟨some 28, .mv (.t 0), none, false, []⟩,
⟨some 29, .len false (.t 28), none, false, []⟩,
⟨some 30, .mv (.c (.int .i64 0)), none, false, []⟩]) (.block 0 a9l0)) (.seq (.region false [
⟨some 80, .load 3 true (.t 7), none, false, []⟩,
⟨none, .store 3 (.t 4) (.t 80), none, false, []⟩,
⟨some 5, .mv (.c (.int .i64 0)), none, false, []⟩]) .ret)))))⟩
def a10 : AFunc := ⟨13, [.tmp 4], (.seq (.region false [
⟨some 4, .mv (.c (.int .i64 0)), none, false, []⟩]) (.seq (.seq (.region false [
⟨some 5, .mv (.t 0), none, false, []⟩,
⟨some 6, .call 16 [(.t 5), (.c (.int .i64 (-1000000))), (.c (.int .i64 1000000))], none, false, []⟩,
⟨some 7, .un .not (.t 6), none, false, []⟩,
⟨some 8, .mv (.t 7), none, false, []⟩,
⟨some 9, .mv (.t 1), some (8, false), false, []⟩,
⟨some 10, .call 16 [(.t 9), (.c (.int .i64 0)), (.c (.int .i64 1000000))], some (8, false), false, []⟩,
⟨some 11, .un .not (.t 10), some (8, false), false, []⟩,
⟨some 12, .pick (.t 8) (.c (.bool true)) (.t 11), none, false, []⟩]) (.cond (.t 12) (.seq (.region false [
⟨some 4, .mv (.c (.int .i64 2)), none, false, []⟩]) .ret) .skip)) (.seq (.region false [
⟨some 4, .mv (.c (.int .i64 0)), none, false, []⟩]) .ret)))⟩
def a11l0b : ACode := (.seq (.seq (.region false [
⟨some 7, .mv (.t 3), none, false, []⟩,
⟨some 8, .mv (.t 0), none, false, []⟩,
⟨some 9, .len false (.t 8), none, false, []⟩,
⟨some 10, .bin .lss (.t 7) (.t 9), none, false, []⟩]) (.cond (.t 10) .skip (.exit 0))) (.seq (.block 1 (.seq (.region false [
⟨some 13, .mv (.t 0), none, false, []⟩,
⟨some 14, .mv (.t 3), none, false, []⟩,
⟨some 15, .iaddr 1 (.t 13) (.t 14), none, false, []⟩,
⟨some 16, .load 1 false (.t 15), none, false, []⟩,
⟨some 17, .call 16 [(.t 16), (.c (.int .i64 (-1000000))), (.c (.int .i64 1000000))], none, false, []⟩,
⟨some 18, .un .not (.t 17), none, false, []⟩]) (.cond (.t 18) (.seq (.region false [
⟨some 2, .mv (.c (.int .i64 2)), none, false, []⟩]) .ret) .skip))) (.region false [
⟨some 11, .mv (.t 3), none, false, []⟩,
⟨some 12, .bin .add (.t 11) (.c (.int .i64 1)), none, false, []⟩,
⟨some 3, .mv (.t 12), none, false, []⟩])))
def a11l0 : ACode := .loop [0, 3] [2] a11l0b
def a11 : AFunc := ⟨19, [.tmp 2], (.seq (.region false [
⟨some 2, .mv (.c (.int .i64 0)), none, false, []⟩]) (.seq (.seq (.region false [
⟨some 4, .mv (.t 0), none, false, []⟩,
⟨some 5, .len false (.t 4), none, false, []⟩,
⟨some 6, .bin .gtr (.t 5) (.c (.int .i64 300)), none, false, []⟩]) (.cond (.t 6) (.seq (.region false [
⟨some 2, .mv (.c (.int .i64 8)), none, false, []⟩]) .ret) .skip)) (.seq (.seq (.region false [
⟨some 3, .mv (.c (.int .i64 0)), none, false, []⟩]) (.block 0 a11l0)) (.seq (.region false [
⟨some 2, .mv (.c (.int .i64 0)), none, false, []⟩]) .ret))))⟩
def a12l0b : ACode := (.seq (.seq (.region false [
⟨some 11, .mv (.t 5), none, false, []⟩,
⟨some 12, .mv (.t 0), none, false, []⟩,
⟨some 13, .len false (.t 12), none, false, []⟩,
⟨some 14, .bin .lss (.t 11) (.t 13), none, false, []⟩]) (.cond (.t 14) .skip (.exit 0))) (.seq (.block 1 (.seq (.region true [
⟨some 17, .mv (.t 0), none, false, []⟩,
⟨some 18, .mv (.t 5), none, false, []⟩,
⟨some 19, .iaddr 1 (.t 17) (.t 18), none, false, []⟩,
⟨some 20, .load 1 false (.t 19), none, false, []⟩,
⟨some 21, .mv (.t 1), none, false, []⟩,
⟨some 22, .mv (.t 5), none, false, []⟩,
⟨some 23, .iaddr 1 (.t 21) (.t 22), none, false, []⟩,
⟨some 24, .load 1 false (.t 23), none, false, []⟩,
⟨some 25, .bin .neq (.t 20) (.t 24), none, false, []⟩]) (.cond (.t 25) (.seq (.region false [
⟨some 4, .mv (.c (.bool false)), none, false, []⟩]) .ret) .skip))) (.region false [
⟨some 15, .mv (.t 5), none, false, []⟩,
⟨some 16, .bin .add (.t 15) (.c (.int .i64 1)), none, false, []⟩,
⟨some 5, .mv (.t 16), none, false, []⟩])))
def a12l0 : ACode := .loop [0, 1, 5] [4] a12l0b
def a12 : AFunc := ⟨26, [.tmp 4], (.seq (.region false [
⟨some 4, .mv (.c (.bool false)), none, false, []⟩]) (.seq (.seq (.region false [
⟨some 6, .mv (.t 0), none, false, []⟩,
⟨some 7, .len false (.t 6), none, false, []⟩,
⟨some 8, .mv (.t 1), none, false, []⟩,
⟨some 9, .len false (.t 8), none, false, []⟩,
⟨some 10, .bin .neq (.t 7) (.t 9), none, false, []⟩]) (.cond (.t 10) (.seq (.region false [
⟨some 4, .mv (.c (.bool false)), none, false, []⟩]) .ret) .skip)) (.seq (.seq (.region false [
⟨some 5, .mv (.c (.int .i64 0)), none, false, []⟩]) (.block 0 a12l0)) (.seq (.region false [
⟨some 4, .mv (.c (.bool true)), none, false, []⟩]) .ret))))⟩
def a15 : AFunc := ⟨7, [.tmp 2], (.seq (.region false [
⟨some 2, .mv (.c (.int .i64 0)), none, false, []⟩]) (.seq (.region false [
⟨some 3, .mv (.t 0), none, false, []⟩,
⟨some 4, .mv (.t 0), none, false, []⟩,
⟨some 5, .un .neg (.t 4), none, false, []⟩,
⟨some 6, .minmax true (.t 3) [(.t 5)], none, false, []⟩,
⟨some 2, .mv (.t 6), none, false, []⟩]) .ret))⟩
def a16 : AFunc := ⟨15, [.tmp 6], (.seq (.region false [
⟨some 6, .mv (.c (.bool false)), none, false, []⟩]) (.seq (.region false [
⟨some 7, .mv (.t 1), none, false, []⟩,
⟨some 8, .mv (.t 0), none, false, []⟩,
⟨some 9, .bin .leq (.t 7) (.t 8), none, false, []⟩,
⟨some 10, .mv (.t 9), none, false, []⟩,
⟨some 11, .mv (.t 0), some (10, true), false, []⟩,
⟨some 12, .mv (.t 2), some (10, true), false, []⟩,
⟨some 13, .bin .leq (.t 11) (.t 12), some (10, true), false, []⟩,
⟨some 14, .pick (.t 10) (.t 13) (.c (.bool false)), none, false, []⟩,
⟨some 6, .mv (.t 14), none, false, []⟩]) .ret))⟩
def a17 : AFunc := ⟨32, [.tmp 4, .tmp 5, .tmp 6], (.seq (.region false [
⟨some 2, .box 47 (.t 0), none, false, []⟩,
⟨some 3, .box 51 (.t 1), none, false, []⟩,
⟨some 4, .nils 1 (.c (.nilSlice)), none, false, []⟩,
⟨some 5, .mv (.c (.int .i64 0)), none, false, []⟩,
⟨some 6, .mv (.c (.int .i64 0)), none, false, []⟩]) (.seq (.region false [
⟨some 13, .load 3 true (.t 2), none, false, []⟩,
⟨some 14, .load 4 true (.t 3), none, false, []⟩,
⟨some 15, .call 30 [(.t 13), (.t 14)], none, false, []⟩,
⟨some 12, .mv (.t 15), none, false, []⟩,
⟨some 16, .ext (.t 12) 0, none, false, []⟩,
⟨some 17, .ext (.t 12) 1, none, false, []⟩,
⟨some 7, .nalloc [0, 0, 4, 0, 0, 0, 3] 65 [.int .i64 0, .int .i64 0, .nilSlice, .int .i64 0, .int .i64 0, .int .i64 0, .nilSlice], none, false, []⟩,
⟨none, .store 7 (.t 7) (.t 16), none, false, []⟩,
⟨some 8, .mv (.t 17), none, false, []⟩]) (.seq (.seq (.region false [
⟨some 18, .mv (.t 8), none, false, []⟩,
⟨some 19, .bin .neq (.t 18) (.c (.int .i64 0)), none, false, []⟩]) (.cond (.t 19) (.seq (.region false [
⟨some 20, .mv (.t 8), none, false, []⟩,
⟨some 4, .nils 1 (.c (.nilSlice)), none, false, []⟩,
⟨some 5, .mv (.c (.int .i64 0)), none, false, []⟩,
⟨some 6, .mv (.t 20), none, false, []⟩]) .ret) .skip)) (.seq (.region false [
⟨some 22, .load 7 true (.t 7), none, false, []⟩,
⟨some 23, .build [.int .i64 0, .int .i64 0] [(0, 1, (.c (.int .i64 (-1))))], none, false, []⟩,
⟨some 24, .call 31 [(.t 22), (.t 23)], none, false, []⟩,
⟨some 21, .mv (.t 24), none, false, []⟩,
⟨some 25, .ext (.t 21) 0, none, false, []⟩,
⟨some 26, .ext (.t 21) 1, none, false, []⟩,
⟨some 27, .ext (.t 21) 2, none, false, []⟩,
⟨some 9, .mv (.t 25), none, false, []⟩,
⟨some 10, .mv (.t 26), none, false, []⟩,
⟨some 11, .mv (.t 27), none, false, []⟩]) (.seq (.region false [
⟨some 28, .mv (.t 9), none, false, []⟩,
⟨some 29, .mv (.t 10), none, false, []⟩,
⟨some 30, .mv (.t 11), none, false, []⟩,
⟨some 31, .call 25 [(.t 30), (.c (.int .i64 12))], none, false, []⟩,
⟨some 4, .mv (.t 28), none, false, []⟩,
⟨some 5, .mv (.t 29), none, false, []⟩,
⟨some 6, .mv (.t 31), none, false, []⟩]) .ret)))))⟩
def a18 : AFunc := ⟨6, [.cell 0 3 true], (.seq (.region false [
⟨some 0, .nalloc [0, 0, 4] 47 [.int .i64 0, .int .i64 0, .nilSlice], none, false, []⟩]) (.seq (.region false [
⟨some 1, .build [.str ByteArray.empty, .int .i64 0, .int .i64 0, .int .i64 0] [(0, 1, (.c (.str ⟨#[114, 101, 115, 116]⟩)))], none, false, []⟩,
⟨some 2, .build [.str ByteArray.empty, .int .i64 0, .int .i64 0, .int .i64 0] [(0, 1, (.c (.str ⟨#[112, 117, 109, 112]⟩))), (1, 1, (.c (.int .i64 3))), (2, 1, (.c (.int .i64 (-4)))), (3, 1, (.c (.int .i64 5)))], none, false, []⟩,
⟨some 3, .build [.str ByteArray.empty, .int .i64 0, .int .i64 0, .int .i64 0] [(0, 1, (.c (.str ⟨#[116, 117, 114, 98, 105, 110, 101]⟩))), (1, 1, (.c (.int .i64 (-3)))), (2, 1, (.c (.int .i64 3))), (3, 1, (.c (.int .i64 2)))], none, false, []⟩,
⟨some 4, .bslice 73 4 3 [.str ByteArray.empty, .int .i64 0, .int .i64 0, .int .i64 0] [(0, (.t 1)), (1, (.t 2)), (2, (.t 3))], none, false, []⟩,
⟨some 5, .nbuild [0, 0, 4] [.int .i64 0, .int .i64 0, .nilSlice] [(1, 1, (.c (.int .i64 10))), (2, 1, (.t 4))], none, false, []⟩,
⟨none, .store 3 (.t 0) (.t 5), none, false, []⟩]) .ret))⟩
def a19 : AFunc := ⟨5, [.cell 0 4 true], (.seq (.region false [
⟨some 0, .nalloc [0, 0, 0, 3] 51 [.int .i64 0, .int .i64 0, .int .i64 0, .nilSlice], none, false, []⟩]) (.seq (.region false [
⟨some 1, .build [.int .i64 0, .int .i64 0, .int .i64 0] [(0, 1, (.c (.int .i64 2))), (1, 1, (.c (.int .i64 1)))], none, false, []⟩,
⟨some 2, .build [.int .i64 0, .int .i64 0, .int .i64 0] [(0, 1, (.c (.int .i64 12))), (1, 1, (.c (.int .i64 10))), (2, 1, (.c (.int .i64 1)))], none, false, []⟩,
⟨some 3, .bslice 75 3 2 [.int .i64 0, .int .i64 0, .int .i64 0] [(0, (.t 1)), (1, (.t 2))], none, false, []⟩,
⟨some 4, .nbuild [0, 0, 0, 3] [.int .i64 0, .int .i64 0, .int .i64 0, .nilSlice] [(0, 1, (.c (.int .i64 4))), (2, 1, (.c (.int .i64 1))), (3, 1, (.t 3))], none, false, []⟩,
⟨none, .store 4 (.t 0) (.t 4), none, false, []⟩]) .ret))⟩
def a20l0b : ACode := (.seq (.region false [
⟨some 37, .bin .lss (.t 36) (.t 35), none, false, []⟩]) (.seq (.cond (.t 37) .skip (.exit 0)) (.seq (.block 1 (.seq (.region false [
⟨some 38, .mv (.t 36), none, false, []⟩,
⟨some 12, .mv (.t 38), none, false, []⟩]) (.region true [
⟨some 39, .mv (.t 11), none, false, []⟩,
⟨some 40, .load 7 true (.t 8), none, false, []⟩,
⟨some 41, .mv (.t 9), none, false, []⟩,
⟨some 42, .mv (.t 12), none, false, []⟩,
⟨some 43, .iaddr 1 (.t 41) (.t 42), none, false, []⟩,
⟨some 44, .load 1 false (.t 43), none, false, []⟩,
⟨some 45, .mv (.t 12), none, false, []⟩,
⟨some 46, .faddr 1 (.t 5), none, false, []⟩,
⟨some 47, .load 1 false (.t 46), none, false, []⟩,
⟨some 48, .call 34 [(.t 40), (.t 44), (.t 45), (.t 47)], none, false, []⟩,
⟨some 49, .bslice 3 1 1 [.int .i64 0] [(0, (.t 48))], none, false, []⟩,
⟨some 50, .app 3 1 8 [.int .i64 0] (.t 39) (.t 49), none, false, []⟩,
⟨some 11, .mv (.t 50), none, false, []⟩]))) (.region false [
⟨some 51, .bin .add (.t 36) (.c (.int .i64 1)), none, false, []⟩,
⟨some 36, .mv (.t 51), none, false, []⟩]))))
def a20l0 : ACode := .loop [5, 8, 9, 11, 35, 36] [6, 7, 11] a20l0b
def a20 : AFunc := ⟨53, [.tmp 6, .tmp 7], (.seq (.region false [
⟨some 3, .box 47 (.t 0), none, false, []⟩,
⟨some 4, .box 51 (.t 1), none, false, []⟩,
⟨some 5, .box 55 (.t 2), none, false, []⟩,
⟨some 6, .nils 1 (.c (.nilSlice)), none, false, []⟩,
⟨some 7, .mv (.c (.int .i64 0)), none, false, []⟩]) (.seq (.region false [
⟨some 14, .load 3 true (.t 3), none, false, []⟩,
⟨some 15, .load 4 true (.t 4), none, false, []⟩,
⟨some 16, .faddr 0 (.t 5), none, false, []⟩,
⟨some 17, .load 1 false (.t 16), none, false, []⟩,
⟨some 18, .call 32 [(.t 14), (.t 15), (.t 17)], none, false, []⟩,
⟨some 13, .mv (.t 18), none, false, []⟩,
⟨some 19, .ext (.t 13) 0, none, false, []⟩,
⟨some 20, .ext (.t 13) 1, none, false, []⟩,
⟨some 21, .ext (.t 13) 2, none, false, []⟩,
⟨some 8, .nalloc [0, 0, 4, 0, 0, 0, 3] 65 [.int .i64 0, .int .i64 0, .nilSlice, .int .i64 0, .int .i64 0, .int .i64 0, .nilSlice], none, false, []⟩,
⟨none, .store 7 (.t 8) (.t 19), none, false, []⟩,
⟨some 9, .mv (.t 20), none, false, []⟩,
⟨some 10, .mv (.t 21), none, false, []⟩]) (.seq (.seq (.region false [
⟨some 22, .mv (.t 10), none, false, []⟩,
⟨some 23, .load 7 true (.t 8), none, false, []⟩,
⟨some 24, .faddr 1 (.t 5), none, false, []⟩,
⟨some 25, .load 1 false (.t 24), none, false, []⟩,
⟨some 26, .call 33 [(.t 23), (.t 25)], none, false, []⟩,
⟨some 27, .call 25 [(.t 26), (.c (.int .i64 6))], none, false, []⟩,
⟨some 28, .bslice 27 1 2 [.int .i64 0] [(0, (.t 22)), (1, (.t 27))], none, false, []⟩,
⟨some 29, .call 24 [(.t 28)], none, false, []⟩,
⟨some 10, .mv (.t 29), none, false, []⟩]) (.seq (.region false [
⟨some 30, .mv (.t 10), none, false, []⟩,
⟨some 31, .bin .neq (.t 30) (.c (.int .i64 0)), none, false, []⟩]) (.cond (.t 31) (.seq (.region false [
⟨some 32, .mv (.t 10), none, false, []⟩,
⟨some 6, .nils 1 (.c (.nilSlice)), none, false, []⟩,
⟨some 7, .mv (.t 32), none, false, []⟩]) .ret) .skip))) (.seq (.region false [
⟨some 11, .nils 1 (.c (.nilSlice)), none, false, []⟩]) (.seq (.seq (.region false [
⟨some 33, .faddr 3 (.t 4), none, false, []⟩,
⟨some 34, .load 1 false (.t 33), none, false, []⟩,
⟨some 35, .len false (.t 34), none, false, []⟩,
⟨some 36, .mv (.c (.int .i64 0)), none, false, []⟩]) (.block 0 a20l0)) (.seq (.region false [
⟨some 52, .mv (.t 11), none, false, []⟩,
⟨some 6, .mv (.t 52), none, false, []⟩,
⟨some 7, .mv (.c (.int .i64 0)), none, false, []⟩]) .ret))))))⟩
def a21l0b : ACode := (.seq (.region false [
⟨some 35, .bin .lss (.t 34) (.t 33), none, false, []⟩]) (.seq (.cond (.t 35) .skip (.exit 2)) (.seq (.block 3 (.seq (.region false [
⟨some 36, .mv (.t 34), none, false, []⟩,
⟨some 37, .iaddr 1 (.t 32) (.t 34), none, false, []⟩,
⟨some 38, .load 1 false (.t 37), none, false, []⟩,
⟨some 11, .mv (.t 36), none, false, []⟩,
⟨some 12, .mv (.t 38), none, false, []⟩]) (.seq (.region false [
⟨some 39, .mv (.t 7), none, false, []⟩,
⟨some 40, .call 40 [(.t 39)], none, false, []⟩,
⟨some 41, .mv (.t 11), none, false, []⟩,
⟨some 42, .mv (.t 11), none, false, []⟩,
⟨some 43, .bin .add (.t 42) (.c (.int .i64 1)), none, false, []⟩,
⟨some 44, .call 39 [(.t 40), (.t 41), (.t 43)], none, false, []⟩,
⟨some 13, .mv (.t 44), none, false, []⟩]) (.seq (.region false [
⟨some 45, .mv (.t 5), none, false, []⟩,
⟨some 46, .mv (.t 12), none, false, []⟩,
⟨some 47, .bslice 3 1 1 [.int .i64 0] [(0, (.t 46))], none, false, []⟩,
⟨some 48, .mv (.t 5), none, false, []⟩,
⟨some 49, .mv (.t 13), none, false, []⟩,
⟨some 50, .call 38 [(.t 48), (.t 49)], none, false, []⟩,
⟨some 51, .app 3 1 8 [.int .i64 0] (.t 47) (.t 50), none, false, []⟩,
⟨some 52, .mv (.t 10), none, false, []⟩,
⟨some 53, .call 37 [(.t 45), (.t 51), (.t 52)], none, false, []⟩,
⟨some 54, .mv (.t 8), none, false, []⟩,
⟨some 55, .bin .leq (.t 53) (.t 54), none, false, []⟩]) (.cond (.t 55) (.seq (.region true [
⟨some 56, .mv (.t 9), none, false, []⟩,
⟨some 57, .mv (.t 12), none, false, []⟩,
⟨some 58, .bslice 3 1 1 [.int .i64 0] [(0, (.t 57))], none, true, []⟩,
⟨some 59, .app 3 1 8 [.int .i64 0] (.t 56) (.t 58), none, false, []⟩,
⟨some 60, .mv (.t 13), none, false, []⟩,
⟨some 61, .mv (.t 10), none, false, []⟩,
⟨some 62, .mv (.t 5), none, false, []⟩,
⟨some 63, .mv (.t 12), none, false, []⟩,
⟨some 64, .iaddr 3 (.t 62) (.t 63), none, false, []⟩,
⟨some 65, .faddr 2 (.t 64), none, false, []⟩,
⟨some 66, .load 1 false (.t 65), none, true, [2, 3]⟩,
⟨some 67, .bin .add (.t 61) (.t 66), none, false, []⟩,
⟨some 9, .mv (.t 59), none, false, []⟩,
⟨some 7, .mv (.t 60), none, false, []⟩,
⟨some 10, .mv (.t 67), none, false, []⟩]) (.exit 2)) .skip))))) (.region false [
⟨some 68, .bin .add (.t 34) (.c (.int .i64 1)), none, false, []⟩,
⟨some 34, .mv (.t 68), none, false, []⟩]))))
def a21l0 : ACode := .loop [5, 7, 8, 9, 10, 32, 33, 34] [2, 3, 4, 5, 7, 8, 9, 10] a21l0b
def a21l1b : ACode := (.seq (.seq (.region false [
⟨some 29, .mv (.t 7), none, false, []⟩,
⟨some 30, .len false (.t 29), none, false, []⟩,
⟨some 31, .bin .gtr (.t 30) (.c (.int .i64 0)), none, false, []⟩]) (.cond (.t 31) .skip (.exit 0))) (.block 1 (.seq (.region false [
⟨some 32, .mv (.t 7), none, false, []⟩,
⟨some 33, .len false (.t 32), none, false, []⟩,
⟨some 34, .mv (.c (.int .i64 0)), none, false, []⟩]) (.block 2 a21l0))))
def a21l1 : ACode := .loop [5, 7, 8, 9, 10] [2, 3, 4, 8, 9] a21l1b
def a21 : AFunc := ⟨71, [.tmp 2, .tmp 3, .tmp 4], (.seq (.region false [
⟨some 2, .nils 1 (.c (.nilSlice)), none, false, []⟩,
⟨some 3, .mv (.c (.int .i64 0)), none, false, []⟩,
⟨some 4, .mv (.c (.int .i64 0)), none, false, []⟩]) (.seq (.region false [
⟨some 15, .mv (.t 0), none, false, []⟩,
⟨some 16, .call 35 [(.t 15)], none, false, []⟩,
⟨some 14, .mv (.t 16), none, false, []⟩,
⟨some 17, .ext (.t 14) 0, none, false, []⟩,
⟨some 18, .ext (.t 14) 1, none, false, []⟩,
⟨some 5, .mv (.t 17), none, false, []⟩,
⟨some 6, .mv (.t 18), none, false, []⟩]) (.seq (.seq (.region false [
⟨some 19, .mv (.t 6), none, false, []⟩,
⟨some 20, .bin .neq (.t 19) (.c (.int .i64 0)), none, false, []⟩]) (.cond (.t 20) (.seq (.region false [
⟨some 21, .mv (.t 6), none, false, []⟩,
⟨some 2, .nils 1 (.c (.nilSlice)), none, false, []⟩,
⟨some 3, .mv (.c (.int .i64 0)), none, false, []⟩,
⟨some 4, .mv (.t 21), none, false, []⟩]) .ret) .skip)) (.seq (.region false [
⟨some 22, .mv (.t 5), none, false, []⟩,
⟨some 23, .call 36 [(.t 22)], none, false, []⟩,
⟨some 7, .mv (.t 23), none, false, []⟩]) (.seq (.region false [
⟨some 24, .mv (.t 5), none, false, []⟩,
⟨some 25, .mv (.t 5), none, false, []⟩,
⟨some 26, .mv (.t 7), none, false, []⟩,
⟨some 27, .call 38 [(.t 25), (.t 26)], none, false, []⟩,
⟨some 28, .call 37 [(.t 24), (.t 27), (.c (.int .i64 0))], none, false, []⟩,
⟨some 8, .mv (.t 28), none, false, []⟩]) (.seq (.region false [
⟨some 9, .nils 1 (.c (.nilSlice)), none, false, []⟩]) (.seq (.region false [
⟨some 10, .mv (.c (.int .i64 0)), none, false, []⟩]) (.seq (.block 0 a21l1) (.seq (.region false [
⟨some 69, .mv (.t 9), none, false, []⟩,
⟨some 70, .mv (.t 8), none, false, []⟩,
⟨some 2, .mv (.t 69), none, false, []⟩,
⟨some 3, .mv (.t 70), none, false, []⟩,
⟨some 4, .mv (.c (.int .i64 0)), none, false, []⟩]) .ret)))))))))⟩
def a22 : AFunc := ⟨5, [.tmp 0], (.seq (.region false [
⟨some 0, .nils 3 (.c (.nilSlice)), none, false, []⟩]) (.seq (.region false [
⟨some 1, .build [.str ByteArray.empty, .int .i64 0, .int .i64 0] [(0, 1, (.c (.str ⟨#[97]⟩))), (1, 1, (.c (.int .i64 5))), (2, 1, (.c (.int .i64 3)))], none, false, []⟩,
⟨some 2, .build [.str ByteArray.empty, .int .i64 0, .int .i64 0] [(0, 1, (.c (.str ⟨#[98]⟩))), (1, 1, (.c (.int .i64 4))), (2, 1, (.c (.int .i64 2)))], none, false, []⟩,
⟨some 3, .build [.str ByteArray.empty, .int .i64 0, .int .i64 0] [(0, 1, (.c (.str ⟨#[99]⟩))), (1, 1, (.c (.int .i64 9))), (2, 1, (.c (.int .i64 5)))], none, false, []⟩,
⟨some 4, .bslice 86 3 3 [.str ByteArray.empty, .int .i64 0, .int .i64 0] [(0, (.t 1)), (1, (.t 2)), (2, (.t 3))], none, false, []⟩,
⟨some 0, .mv (.t 4), none, false, []⟩]) .ret))⟩
def a23 : AFunc := ⟨37, [.tmp 6, .tmp 7], (.seq (.region false [
⟨some 3, .box 47 (.t 0), none, false, []⟩,
⟨some 4, .box 51 (.t 1), none, false, []⟩,
⟨some 5, .box 3 (.t 2), none, false, []⟩,
⟨some 6, .nils 1 (.c (.nilSlice)), none, false, []⟩,
⟨some 7, .mv (.c (.int .i64 0)), none, false, []⟩]) (.seq (.region false [
⟨some 12, .load 3 true (.t 3), none, false, []⟩,
⟨some 13, .load 4 true (.t 4), none, false, []⟩,
⟨some 14, .call 30 [(.t 12), (.t 13)], none, false, []⟩,
⟨some 11, .mv (.t 14), none, false, []⟩,
⟨some 15, .ext (.t 11) 0, none, false, []⟩,
⟨some 16, .ext (.t 11) 1, none, false, []⟩,
⟨some 8, .nalloc [0, 0, 4, 0, 0, 0, 3] 65 [.int .i64 0, .int .i64 0, .nilSlice, .int .i64 0, .int .i64 0, .int .i64 0, .nilSlice], none, false, []⟩,
⟨none, .store 7 (.t 8) (.t 15), none, false, []⟩,
⟨some 9, .mv (.t 16), none, false, []⟩]) (.seq (.seq (.region false [
⟨some 17, .mv (.t 9), none, false, []⟩,
⟨some 18, .load 1 false (.t 5), none, false, []⟩,
⟨some 19, .faddr 3 (.t 4), none, false, []⟩,
⟨some 20, .load 1 false (.t 19), none, false, []⟩,
⟨some 21, .len false (.t 20), none, false, []⟩,
⟨some 22, .call 27 [(.t 18), (.c (.int .i64 0)), (.t 21)], none, false, []⟩,
⟨some 23, .call 25 [(.t 22), (.c (.int .i64 2))], none, false, []⟩,
⟨some 24, .bslice 27 1 2 [.int .i64 0] [(0, (.t 17)), (1, (.t 23))], none, false, []⟩,
⟨some 25, .call 24 [(.t 24)], none, false, []⟩,
⟨some 9, .mv (.t 25), none, false, []⟩]) (.seq (.region false [
⟨some 26, .mv (.t 9), none, false, []⟩,
⟨some 27, .bin .neq (.t 26) (.c (.int .i64 0)), none, false, []⟩]) (.cond (.t 27) (.seq (.region false [
⟨some 28, .mv (.t 9), none, false, []⟩,
⟨some 6, .nils 1 (.c (.nilSlice)), none, false, []⟩,
⟨some 7, .mv (.t 28), none, false, []⟩]) .ret) .skip))) (.seq (.region false [
⟨some 29, .load 7 true (.t 8), none, false, []⟩,
⟨some 30, .build [.int .i64 0, .int .i64 0] [(0, 1, (.c (.int .i64 (-1))))], none, false, []⟩,
⟨some 31, .call 41 [(.t 29), (.t 30)], none, false, []⟩,
⟨some 10, .nalloc [1] 87 [.nilSlice], none, false, []⟩,
⟨none, .store 1 (.t 10) (.t 31), none, false, []⟩]) (.seq (.region false [
⟨some 32, .load 7 true (.t 8), none, false, []⟩,
⟨some 33, .load 1 false (.t 5), none, false, []⟩,
⟨some 34, .call 43 [(.t 32), (.t 33)], none, false, []⟩,
⟨some 35, .mkf 44 [] [(.t 10), (.t 5), (.t 8)], none, false, []⟩,
⟨some 36, .call 42 [(.t 34), (.t 35)], none, false, []⟩,
⟨some 6, .mv (.t 36), none, false, []⟩,
⟨some 7, .mv (.c (.int .i64 0)), none, false, []⟩]) .ret)))))⟩
def a24l0b : ACode := (.seq (.region false [
⟨some 8, .bin .lss (.t 7) (.t 6), none, false, []⟩]) (.seq (.cond (.t 8) .skip (.exit 0)) (.seq (.block 1 (.seq (.region false [
⟨some 9, .iaddr 1 (.t 5) (.t 7), none, false, []⟩,
⟨some 10, .load 1 false (.t 9), none, false, []⟩,
⟨some 4, .mv (.t 10), none, false, []⟩]) (.seq (.region false [
⟨some 11, .mv (.t 4), none, false, []⟩,
⟨some 12, .bin .neq (.t 11) (.c (.int .i64 0)), none, false, []⟩]) (.cond (.t 12) (.seq (.region false [
⟨some 13, .mv (.t 4), none, false, []⟩,
⟨some 2, .mv (.t 13), none, false, []⟩]) .ret) .skip)))) (.region false [
⟨some 14, .bin .add (.t 7) (.c (.int .i64 1)), none, false, []⟩,
⟨some 7, .mv (.t 14), none, false, []⟩]))))
def a24l0 : ACode := .loop [5, 6, 7] [2] a24l0b
def a24 : AFunc := ⟨15, [.tmp 2], (.seq (.region false [
⟨some 2, .mv (.c (.int .i64 0)), none, false, []⟩]) (.seq (.seq (.region false [
⟨some 5, .mv (.t 0), none, false, []⟩,
⟨some 6, .len false (.t 5), none, false, []⟩,
⟨some 7, .mv (.c (.int .i64 0)), none, false, []⟩]) (.block 0 a24l0)) (.seq (.region false [
⟨some 2, .mv (.c (.int .i64 0)), none, false, []⟩]) .ret)))⟩
def a25 : AFunc := ⟨7, [.tmp 4], (.seq (.region false [
⟨some 4, .mv (.c (.int .i64 0)), none, false, []⟩]) (.seq (.seq (.region false [
⟨some 5, .mv (.t 0), none, false, []⟩]) (.cond (.t 5) (.seq (.region false [
⟨some 4, .mv (.c (.int .i64 0)), none, false, []⟩]) .ret) .skip)) (.seq (.region false [
⟨some 6, .mv (.t 1), none, false, []⟩,
⟨some 4, .mv (.t 6), none, false, []⟩]) .ret)))⟩
def a26 : AFunc := ⟨5, [.tmp 2], (.seq (.region false [
⟨some 2, .mv (.c (.bool false)), none, false, []⟩]) (.seq (.region false [
⟨some 3, .mv (.t 0), none, false, []⟩,
⟨some 4, .call 47 [(.t 3), (.c (.int .i64 1000000))], none, false, []⟩,
⟨some 2, .mv (.t 4), none, false, []⟩]) .ret))⟩
def a27 : AFunc := ⟨15, [.tmp 6], (.seq (.region false [
⟨some 6, .mv (.c (.bool false)), none, false, []⟩]) (.seq (.region false [
⟨some 7, .mv (.t 1), none, false, []⟩,
⟨some 8, .mv (.t 0), none, false, []⟩,
⟨some 9, .bin .leq (.t 7) (.t 8), none, false, []⟩,
⟨some 10, .mv (.t 9), none, false, []⟩,
⟨some 11, .mv (.t 0), some (10, true), false, []⟩,
⟨some 12, .mv (.t 2), some (10, true), false, []⟩,
⟨some 13, .bin .leq (.t 11) (.t 12), some (10, true), false, []⟩,
⟨some 14, .pick (.t 10) (.t 13) (.c (.bool false)), none, false, []⟩,
⟨some 6, .mv (.t 14), none, false, []⟩]) .ret))⟩
def a28 : AFunc := ⟨15, [.tmp 2], (.seq (.region false [
⟨some 2, .mv (.c (.int .i64 0)), none, false, []⟩]) (.seq (.region false [
⟨some 4, .mv (.t 0), none, false, []⟩,
⟨some 5, .call 48 [(.t 4), (.c (.func 49 [] []))], none, false, []⟩,
⟨some 3, .mv (.t 5), none, false, []⟩]) (.seq (.region false [
⟨some 6, .mv (.t 0), none, false, []⟩,
⟨some 7, .len false (.t 6), none, false, []⟩,
⟨some 8, .bin .leq (.t 7) (.c (.int .i64 300)), none, false, []⟩,
⟨some 9, .call 25 [(.t 8), (.c (.int .i64 8))], none, false, []⟩,
⟨some 10, .mv (.t 3), none, false, []⟩,
⟨some 11, .un .not (.t 10), none, false, []⟩,
⟨some 12, .call 25 [(.t 11), (.c (.int .i64 2))], none, false, []⟩,
⟨some 13, .bslice 27 1 2 [.int .i64 0] [(0, (.t 9)), (1, (.t 12))], none, false, []⟩,
⟨some 14, .call 24 [(.t 13)], none, false, []⟩,
⟨some 2, .mv (.t 14), none, false, []⟩]) .ret)))⟩
def a29 : AFunc := ⟨7, [.tmp 2], (.seq (.region false [
⟨some 2, .mv (.c (.int .i64 0)), none, false, []⟩]) (.seq (.region false [
⟨some 3, .mv (.t 0), none, false, []⟩,
⟨some 4, .mv (.t 0), none, false, []⟩,
⟨some 5, .un .neg (.t 4), none, false, []⟩,
⟨some 6, .minmax true (.t 3) [(.t 5)], none, false, []⟩,
⟨some 2, .mv (.t 6), none, false, []⟩]) .ret))⟩
def a30 : AFunc := ⟨18, [.cell 4 7 true, .tmp 5], (.seq (.region false [
⟨some 2, .box 47 (.t 0), none, false, []⟩,
⟨some 3, .box 51 (.t 1), none, false, []⟩,
⟨some 4, .nalloc [0, 0, 4, 0, 0, 0, 3] 65 [.int .i64 0, .int .i64 0, .nilSlice, .int .i64 0, .int .i64 0, .int .i64 0, .nilSlice], none, false, []⟩,
⟨some 5, .mv (.c (.int .i64 0)), none, false, []⟩]) (.seq (.region false [
⟨some 9, .load 3 true (.t 2), none, false, []⟩,
⟨some 10, .load 4 true (.t 3), none, false, []⟩,
⟨some 11, .call 50 [(.t 9), (.t 10)], none, false, []⟩,
⟨some 8, .mv (.t 11), none, false, []⟩,
⟨some 12, .ext (.t 8) 0, none, false, []⟩,
⟨some 13, .ext (.t 8) 1, none, false, []⟩,
⟨some 6, .mv (.t 12), none, false, []⟩,
⟨some 7, .mv (.t 13), none, false, []⟩]) (.seq (.region false [
⟨some 14, .load 3 true (.t 2), none, false, []⟩,
⟨some 15, .load 4 true (.t 3), none, false, []⟩,
⟨some 16, .nbuild [0, 0, 4, 0, 0, 0, 3] [.int .i64 0, .int .i64 0, .nilSlice, .int .i64 0, .int .i64 0, .int .i64 0, .nilSlice] [(0, 3, (.t 14)), (3, 4, (.t 15))], none, false, []⟩,
⟨some 17, .mv (.t 7), none, false, []⟩,
⟨none, .store 7 (.t 4) (.t 16), none, false, []⟩,
⟨some 5, .mv (.t 17), none, false, []⟩]) .ret)))⟩
def a31r0A : ACode := (.seq (.region false [
⟨some 14, .mv (.t 62), none, false, []⟩]) (.region false [
⟨some 15, .mv (.t 63), none, false, []⟩]))
def a31r0a : ACode := a31r0A
def a31r0B : ACode := (.block 3 (.seq (.region true [
⟨some 64, .load 7 true (.t 2), none, false, []⟩,
⟨some 65, .load 1 false (.t 12), none, false, []⟩,
⟨some 66, .load 1 false (.t 11), none, false, []⟩,
⟨some 67, .mv (.t 14), none, false, []⟩,
⟨some 68, .call 52 [(.t 64), (.t 65), (.t 66), (.t 67)], none, true, []⟩,
⟨some 69, .load 1 false (.t 7), none, true, [4]⟩,
⟨some 70, .load 1 false (.t 12), none, true, [4]⟩,
⟨some 71, .bin .add (.t 70) (.c (.int .i64 1)), none, false, []⟩,
⟨some 72, .iaddr 1 (.t 69) (.t 71), none, false, []⟩,
⟨some 73, .load 1 false (.t 72), none, true, [4]⟩,
⟨some 74, .load 7 true (.t 2), none, true, [4]⟩,
⟨some 75, .mv (.t 15), none, false, []⟩,
⟨some 76, .mv (.t 14), none, false, []⟩,
⟨some 77, .call 46 [(.t 74), (.t 75), (.t 76)], none, true, []⟩,
⟨some 78, .iaddr 1 (.t 73) (.t 77), none, false, []⟩,
⟨some 79, .load 1 false (.t 78), none, false, []⟩,
⟨some 80, .bin .add (.t 68) (.t 79), none, false, []⟩,
⟨some 81, .load 1 false (.t 13), none, true, [4, 13]⟩,
⟨some 82, .bin .eql (.t 80) (.t 81), none, false, []⟩]) (.cond (.t 82) (.seq (.region false [
⟨some 83, .load 1 false (.t 9), none, false, []⟩,
⟨some 84, .mv (.t 14), none, false, []⟩,
⟨some 85, .bslice 3 1 1 [.int .i64 0] [(0, (.t 84))], none, false, []⟩,
⟨some 86, .app 3 1 8 [.int .i64 0] (.t 83) (.t 85), none, false, []⟩,
⟨some 87, .mv (.t 15), none, false, []⟩,
⟨some 88, .mv (.t 14), none, false, []⟩,
⟨none, .store 1 (.t 9) (.t 86), none, false, []⟩,
⟨none, .store 1 (.t 10) (.t 87), none, false, []⟩,
⟨none, .store 1 (.t 11) (.t 88), none, false, []⟩]) (.exit 2)) .skip)))
def a31r0b : ACode := a31r0B
def a31l1b : ACode := (.seq (.region false [
⟨some 46, .bin .lss (.t 45) (.t 44), none, false, []⟩]) (.seq (.cond (.t 46) .skip (.exit 0)) (.seq (.block 1 (.seq (.region false [
⟨some 47, .mv (.t 45), none, false, []⟩,
⟨some 12, .alloc 3 [.int .i64 0], none, false, []⟩,
⟨none, .store 1 (.t 12) (.t 47), none, false, []⟩]) (.seq (.region true [
⟨some 48, .load 1 false (.t 7), none, true, []⟩,
⟨some 49, .load 1 false (.t 12), none, true, []⟩,
⟨some 50, .iaddr 1 (.t 48) (.t 49), none, false, []⟩,
⟨some 51, .load 1 false (.t 50), none, true, []⟩,
⟨some 52, .load 7 true (.t 2), none, true, []⟩,
⟨some 53, .load 1 false (.t 10), none, true, []⟩,
⟨some 54, .load 1 false (.t 11), none, true, []⟩,
⟨some 55, .call 46 [(.t 52), (.t 53), (.t 54)], none, true, []⟩,
⟨some 56, .iaddr 1 (.t 51) (.t 55), none, false, []⟩,
⟨some 57, .load 1 false (.t 56), none, true, []⟩,
⟨some 13, .alloc 3 [.int .i64 0], none, true, [7]⟩,
⟨none, .store 1 (.t 13) (.t 57), none, false, []⟩]) (.seq (.region false [
⟨some 58, .load 7 true (.t 2), none, false, []⟩,
⟨some 59, .load 1 false (.t 10), none, false, []⟩,
⟨some 60, .load 1 false (.t 12), none, false, []⟩,
⟨some 61, .call 51 [(.t 58), (.t 59), (.t 60)], none, false, []⟩]) (.block 2 (.rangeFunc [2, 4, 5, 6, 7, 8, 9, 10, 11, 12, 13, 44, 45] (.t 61) [62, 63] a31r0a a31r0b)))))) (.region false [
⟨some 89, .bin .add (.t 45) (.c (.int .i64 1)), none, false, []⟩,
⟨some 45, .mv (.t 89), none, false, []⟩]))))
def a31l1 : ACode := .loop [2, 4, 5, 6, 7, 8, 9, 10, 11, 44, 45] [4, 5, 6, 8, 9] a31l1b
def a31 : AFunc := ⟨92, [.tmp 4, .tmp 5, .tmp 6], (.seq (.region false [
⟨some 2, .box 65 (.t 0), none, false, []⟩,
⟨some 3, .box 71 (.t 1), none, false, []⟩,
⟨some 4, .nils 1 (.c (.nilSlice)), none, false, []⟩,
⟨some 5, .mv (.c (.int .i64 0)), none, false, []⟩,
⟨some 6, .mv (.c (.bool false)), none, false, []⟩]) (.seq (.region false [
⟨some 16, .load 7 true (.t 2), none, false, []⟩,
⟨some 17, .load 2 true (.t 3), none, false, []⟩,
⟨some 18, .call 41 [(.t 16), (.t 17)], none, false, []⟩,
⟨some 7, .nalloc [1] 87 [.nilSlice], none, false, []⟩,
⟨none, .store 1 (.t 7) (.t 18), none, false, []⟩]) (.seq (.region true [
⟨some 19, .load 1 false (.t 7), none, true, []⟩,
⟨some 20, .iaddr 1 (.t 19) (.c (.int .i64 0)), none, false, []⟩,
⟨some 21, .load 1 false (.t 20), none, true, []⟩,
⟨some 22, .load 7 true (.t 2), none, false, []⟩,
⟨some 23, .faddr 3 (.t 2), none, false, []⟩,
⟨some 24, .faddr 0 (.t 23), none, false, []⟩,
⟨some 25, .load 1 false (.t 24), none, false, []⟩,
⟨some 26, .faddr 3 (.t 2), none, false, []⟩,
⟨some 27, .faddr 1 (.t 26), none, false, []⟩,
⟨some 28, .load 1 false (.t 27), none, false, []⟩,
⟨some 29, .call 46 [(.t 22), (.t 25), (.t 28)], none, true, []⟩,
⟨some 30, .iaddr 1 (.t 21) (.t 29), none, false, []⟩,
⟨some 31, .load 1 false (.t 30), none, false, []⟩,
⟨some 8, .mv (.t 31), none, false, []⟩]) (.seq (.seq (.region false [
⟨some 32, .mv (.t 8), none, false, []⟩,
⟨some 33, .call 45 [(.t 32)], none, false, []⟩,
⟨some 34, .un .not (.t 33), none, false, []⟩]) (.cond (.t 34) (.seq (.region false [
⟨some 4, .nils 1 (.c (.nilSlice)), none, false, []⟩,
⟨some 5, .mv (.c (.int .i64 0)), none, false, []⟩,
⟨some 6, .mv (.c (.bool false)), none, false, []⟩]) .ret) .skip)) (.seq (.region false [
⟨some 9, .nalloc [1] 24 [.nilSlice], none, false, []⟩]) (.seq (.region true [
⟨some 35, .faddr 3 (.t 2), none, false, []⟩,
⟨some 36, .faddr 0 (.t 35), none, false, []⟩,
⟨some 37, .load 1 false (.t 36), none, true, []⟩,
⟨some 38, .faddr 3 (.t 2), none, false, []⟩,
⟨some 39, .faddr 1 (.t 38), none, false, []⟩,
⟨some 40, .load 1 false (.t 39), none, true, []⟩,
⟨some 10, .alloc 3 [.int .i64 0], none, true, []⟩,
⟨some 11, .alloc 3 [.int .i64 0], none, true, [6]⟩,
⟨none, .store 1 (.t 10) (.t 37), none, true, [5]⟩,
⟨none, .store 1 (.t 11) (.t 40), none, false, []⟩]) (.seq (.seq (.region false [
⟨some 41, .faddr 3 (.t 2), none, false, []⟩,
⟨some 42, .faddr 3 (.t 41), none, false, []⟩,
⟨some 43, .load 1 false (.t 42), none, false, []⟩,
⟨some 44, .len false (.t 43), none, false, []⟩,
⟨some 45, .mv (.c (.int .i64 0)), none, false, []⟩]) (.block 0 a31l1)) (.seq (.region false [
⟨some 90, .load 1 false (.t 9), none, false, []⟩,
⟨some 91, .mv (.t 8), none, false, []⟩,
⟨some 4, .mv (.t 90), none, false, []⟩,
⟨some 5, .mv (.t 91), none, false, []⟩,
⟨some 6, .mv (.c (.bool true)), none, false, []⟩]) .ret))))))))⟩
def a32 : AFunc := ⟨50, [.cell 6 7 true, .tmp 7, .tmp 8], (.seq (.region false [
⟨some 3, .box 47 (.t 0), none, false, []⟩,
⟨some 4, .box 51 (.t 1), none, false, []⟩,
⟨some 6, .nalloc [0, 0, 4, 0, 0, 0, 3] 65 [.int .i64 0, .int .i64 0, .nilSlice, .int .i64 0, .int .i64 0, .int .i64 0, .nilSlice], none, false, []⟩,
⟨some 7, .nils 1 (.c (.nilSlice)), none, false, []⟩,
⟨some 8, .mv (.c (.int .i64 0)), none, false, []⟩]) (.seq (.region false [
⟨some 15, .load 3 true (.t 3), none, false, []⟩,
⟨some 16, .load 4 true (.t 4), none, false, []⟩,
⟨some 17, .call 30 [(.t 15), (.t 16)], none, false, []⟩,
⟨some 14, .mv (.t 17), none, false, []⟩,
⟨some 18, .ext (.t 14) 0, none, false, []⟩,
⟨some 19, .ext (.t 14) 1, none, false, []⟩,
⟨some 9, .nalloc [0, 0, 4, 0, 0, 0, 3] 65 [.int .i64 0, .int .i64 0, .nilSlice, .int .i64 0, .int .i64 0, .int .i64 0, .nilSlice], none, false, []⟩,
⟨none, .store 7 (.t 9) (.t 18), none, false, []⟩,
⟨some 10, .mv (.t 19), none, false, []⟩]) (.seq (.region false [
⟨some 20, .mv (.t 2), none, false, []⟩,
⟨some 21, .mkf 53 [] [(.t 9)], none, false, []⟩,
⟨some 22, .call 48 [(.t 20), (.t 21)], none, false, []⟩,
⟨some 11, .mv (.t 22), none, false, []⟩]) (.seq (.seq (.region false [
⟨some 23, .mv (.t 10), none, false, []⟩,
⟨some 24, .mv (.t 2), none, false, []⟩,
⟨some 25, .len false (.t 24), none, false, []⟩,
⟨some 26, .faddr 3 (.t 4), none, false, []⟩,
⟨some 27, .load 1 false (.t 26), none, false, []⟩,
⟨some 28, .len false (.t 27), none, false, []⟩,
⟨some 29, .bin .eql (.t 25) (.t 28), none, false, []⟩,
⟨some 30, .call 25 [(.t 29), (.c (.int .i64 10))], none, false, []⟩,
⟨some 31, .mv (.t 11), none, false, []⟩,
⟨some 32, .un .not (.t 31), none, false, []⟩,
⟨some 33, .call 25 [(.t 32), (.c (.int .i64 6))], none, false, []⟩,
⟨some 34, .bslice 27 1 3 [.int .i64 0] [(0, (.t 23)), (1, (.t 30)), (2, (.t 33))], none, false, []⟩,
⟨some 35, .call 24 [(.t 34)], none, false, []⟩,
⟨some 10, .mv (.t 35), none, false, []⟩]) (.seq (.region false [
⟨some 36, .mv (.t 10), none, false, []⟩,
⟨some 37, .bin .neq (.t 36) (.c (.int .i64 0)), none, false, []⟩]) (.cond (.t 37) (.seq (.region false [
⟨some 38, .load 7 true (.t 9), none, false, []⟩,
⟨some 39, .mv (.t 10), none, false, []⟩,
⟨none, .store 7 (.t 6) (.t 38), none, false, []⟩,
⟨some 7, .nils 1 (.c (.nilSlice)), none, false, []⟩,
⟨some 8, .mv (.t 39), none, false, []⟩]) .ret) .skip))) (.seq (.region false [
⟨some 41, .load 7 true (.t 9), none, false, []⟩,
⟨some 42, .mv (.t 2), none, false, []⟩,
⟨some 43, .call 54 [(.t 41), (.t 42)], none, false, []⟩,
⟨some 40, .mv (.t 43), none, false, []⟩,
⟨some 44, .ext (.t 40) 0, none, false, []⟩,
⟨some 45, .ext (.t 40) 1, none, false, []⟩,
⟨some 12, .mv (.t 44), none, false, []⟩,
⟨some 13, .mv (.t 45), none, false, []⟩]) (.seq (.region true [
⟨some 46, .load 7 true (.t 9), none, true, []⟩,
⟨some 47, .mv (.t 12), none, false, []⟩,
⟨some 48, .mv (.t 13), none, false, []⟩,
⟨some 49, .call 25 [(.t 48), (.c (.int .i64 22))], none, true, []⟩,
⟨none, .store 7 (.t 6) (.t 46), none, false, []⟩,
⟨some 7, .mv (.t 47), none, false, []⟩,
⟨some 8, .mv (.t 49), none, false, []⟩]) .ret))))))⟩
def a33 : AFunc := ⟨12, [.tmp 4], (.seq (.region false [
⟨some 2, .box 65 (.t 0), none, false, []⟩,
⟨some 4, .mv (.c (.bool false)), none, false, []⟩]) (.seq (.region false [
⟨some 5, .mv (.t 1), none, false, []⟩,
⟨some 6, .faddr 0 (.t 2), none, false, []⟩,
⟨some 7, .faddr 2 (.t 6), none, false, []⟩,
⟨some 8, .load 1 false (.t 7), none, false, []⟩,
⟨some 9, .len false (.t 8), none, false, []⟩,
⟨some 10, .bin .sub (.t 9) (.c (.int .i64 1)), none, false, []⟩,
⟨some 11, .call 27 [(.t 5), (.c (.int .i64 0)), (.t 10)], none, false, []⟩,
⟨some 4, .mv (.t 11), none, false, []⟩]) .ret))⟩
def a34l0b : ACode := (.seq (.seq (.region false [
⟨some 10, .mv (.t 2), none, false, []⟩,
⟨some 11, .mv (.t 9), none, false, []⟩,
⟨some 12, .bin .add (.t 10) (.t 11), none, false, []⟩,
⟨some 13, .faddr 3 (.t 4), none, false, []⟩,
⟨some 14, .faddr 3 (.t 13), none, false, []⟩,
⟨some 15, .load 1 false (.t 14), none, false, []⟩,
⟨some 16, .len false (.t 15), none, false, []⟩,
⟨some 17, .bin .lss (.t 12) (.t 16), none, false, []⟩]) (.cond (.t 17) .skip (.exit 0))) (.block 1 (.seq (.seq (.region false [
⟨some 18, .load 7 true (.t 4), none, false, []⟩,
⟨some 19, .mv (.t 1), none, false, []⟩,
⟨some 20, .mv (.t 2), none, false, []⟩,
⟨some 21, .mv (.t 9), none, false, []⟩,
⟨some 22, .bin .add (.t 20) (.t 21), none, false, []⟩,
⟨some 23, .mv (.t 3), none, false, []⟩,
⟨some 24, .call 55 [(.t 18), (.t 19), (.t 22), (.t 23)], none, false, []⟩,
⟨some 1, .mv (.t 24), none, false, []⟩]) (.seq (.region false [
⟨some 25, .load 7 true (.t 4), none, false, []⟩,
⟨some 26, .mv (.t 1), none, false, []⟩,
⟨some 27, .call 56 [(.t 25), (.t 26)], none, false, []⟩,
⟨some 28, .un .not (.t 27), none, false, []⟩]) (.cond (.t 28) (.exit 0) .skip))) (.region false [
⟨some 29, .mv (.t 9), none, false, []⟩,
⟨some 30, .bin .add (.t 29) (.c (.int .i64 1)), none, false, []⟩,
⟨some 9, .mv (.t 30), none, false, []⟩]))))
def a34l0 : ACode := .loop [1, 2, 3, 4, 9] [8, 9] a34l0b
def a34 : AFunc := ⟨32, [.tmp 8], (.seq (.region false [
⟨some 4, .box 65 (.t 0), none, false, []⟩,
⟨some 8, .mv (.c (.int .i64 0)), none, false, []⟩]) (.seq (.region false [
⟨some 9, .mv (.c (.int .i64 0)), none, false, []⟩]) (.seq (.block 0 a34l0) (.seq (.region false [
⟨some 31, .mv (.t 9), none, false, []⟩,
⟨some 8, .mv (.t 31), none, false, []⟩]) .ret))))⟩
def a35 : AFunc := ⟨13, [.tmp 2, .tmp 3], (.seq (.region false [
⟨some 2, .nils 3 (.c (.nilSlice)), none, false, []⟩,
⟨some 3, .mv (.c (.int .i64 0)), none, false, []⟩]) (.seq (.region false [
⟨some 7, .mv (.t 0), none, false, []⟩,
⟨some 8, .call 57 [(.t 7)], none, false, []⟩,
⟨some 6, .mv (.t 8), none, false, []⟩,
⟨some 9, .ext (.t 6) 0, none, false, []⟩,
⟨some 10, .ext (.t 6) 1, none, false, []⟩,
⟨some 4, .mv (.t 9), none, false, []⟩,
⟨some 5, .mv (.t 10), none, false, []⟩]) (.seq (.region false [
⟨some 11, .mv (.t 0), none, false, []⟩,
⟨some 12, .mv (.t 5), none, false, []⟩,
⟨some 2, .mv (.t 11), none, false, []⟩,
⟨some 3, .mv (.t 12), none, false, []⟩]) .ret)))⟩
def a36l0b : ACode := (.seq (.region false [
⟨some 8, .bin .lss (.t 7) (.t 6), none, false, []⟩]) (.seq (.cond (.t 8) .skip (.exit 0)) (.seq (.block 1 (.seq (.region false [
⟨some 9, .mv (.t 7), none, false, []⟩,
⟨some 4, .mv (.t 9), none, false, []⟩]) (.region false [
⟨some 10, .mv (.t 3), none, false, []⟩,
⟨some 11, .mv (.t 4), none, false, []⟩,
⟨some 12, .bslice 3 1 1 [.int .i64 0] [(0, (.t 11))], none, false, []⟩,
⟨some 13, .app 3 1 8 [.int .i64 0] (.t 10) (.t 12), none, false, []⟩,
⟨some 3, .mv (.t 13), none, false, []⟩]))) (.region false [
⟨some 14, .bin .add (.t 7) (.c (.int .i64 1)), none, false, []⟩,
⟨some 7, .mv (.t 14), none, false, []⟩]))))
def a36l0 : ACode := .loop [3, 6, 7] [2, 3] a36l0b
def a36 : AFunc := ⟨16, [.tmp 2], (.seq (.region false [
⟨some 2, .nils 1 (.c (.nilSlice)), none, false, []⟩]) (.seq (.region false [
⟨some 3, .nils 1 (.c (.nilSlice)), none, false, []⟩]) (.seq (.seq (.region false [
⟨some 5, .mv (.t 0), none, false, []⟩,
⟨some 6, .len false (.t 5), none, false, []⟩,
⟨some 7, .mv (.c (.int .i64 0)), none, false, []⟩]) (.block 0 a36l0)) (.seq (.region false [
⟨some 15, .mv (.t 3), none, false, []⟩,
⟨some 2, .mv (.t 15), none, false, []⟩]) .ret))))⟩
def a37l0b : ACode := (.seq (.region false [
⟨some 13, .bin .lss (.t 12) (.t 11), none, false, []⟩]) (.seq (.cond (.t 13) .skip (.exit 0)) (.seq (.block 1 (.seq (.region false [
⟨some 14, .iaddr 1 (.t 10) (.t 12), none, false, []⟩,
⟨some 15, .load 1 false (.t 14), none, false, []⟩,
⟨some 9, .mv (.t 15), none, false, []⟩]) (.seq (.region false [
⟨some 16, .mv (.t 2), none, false, []⟩,
⟨some 17, .mv (.t 0), none, false, []⟩,
⟨some 18, .mv (.t 9), none, false, []⟩,
⟨some 19, .iaddr 3 (.t 17) (.t 18), none, false, []⟩,
⟨some 20, .faddr 2 (.t 19), none, false, []⟩,
⟨some 21, .load 1 false (.t 20), none, false, []⟩,
⟨some 22, .bin .add (.t 16) (.t 21), none, false, []⟩,
⟨some 2, .mv (.t 22), none, false, []⟩]) (.region false [
⟨some 23, .mv (.t 7), none, false, []⟩,
⟨some 24, .mv (.t 2), none, false, []⟩,
⟨some 25, .mv (.t 0), none, false, []⟩,
⟨some 26, .mv (.t 9), none, false, []⟩,
⟨some 27, .iaddr 3 (.t 25) (.t 26), none, false, []⟩,
⟨some 28, .faddr 1 (.t 27), none, false, []⟩,
⟨some 29, .load 1 false (.t 28), none, false, []⟩,
⟨some 30, .bin .sub (.t 24) (.t 29), none, false, []⟩,
⟨some 31, .minmax true (.t 23) [(.t 30)], none, false, []⟩,
⟨some 7, .mv (.t 31), none, false, []⟩])))) (.region false [
⟨some 32, .bin .add (.t 12) (.c (.int .i64 1)), none, false, []⟩,
⟨some 12, .mv (.t 32), none, false, []⟩]))))
def a37l0 : ACode := .loop [0, 2, 7, 10, 11, 12] [6, 7] a37l0b
def a37 : AFunc := ⟨34, [.tmp 6], (.seq (.region false [
⟨some 6, .mv (.c (.int .i64 0)), none, false, []⟩]) (.seq (.region false [
⟨some 7, .mv (.c (.int .i64 (-200000))), none, false, []⟩]) (.seq (.seq (.region false [
⟨some 10, .mv (.t 1), none, false, []⟩,
⟨some 11, .len false (.t 10), none, false, []⟩,
⟨some 12, .mv (.c (.int .i64 0)), none, false, []⟩]) (.block 0 a37l0)) (.seq (.region false [
⟨some 33, .mv (.t 7), none, false, []⟩,
⟨some 6, .mv (.t 33), none, false, []⟩]) .ret))))⟩
def a38 : AFunc := ⟨12, [.tmp 4], (.seq (.region false [
⟨some 2, .box 79 (.t 0), none, false, []⟩,
⟨some 4, .nils 1 (.c (.nilSlice)), none, false, []⟩]) (.seq (.region false [
⟨some 6, .mv (.t 1), none, false, []⟩,
⟨some 7, .call 40 [(.t 6)], none, false, []⟩,
⟨some 5, .mv (.t 7), none, false, []⟩]) (.seq (.region false [
⟨some 8, .mv (.t 5), none, false, []⟩,
⟨some 9, .mkf 59 [] [(.t 2)], none, false, []⟩,
⟨some 10, .call 58 [(.t 8), (.t 9)], none, false, []⟩]) (.seq (.region false [
⟨some 11, .mv (.t 5), none, false, []⟩,
⟨some 4, .mv (.t 11), none, false, []⟩]) .ret))))⟩
def a39 : AFunc := ⟨33, [.tmp 6], (.seq (.region false [
⟨some 6, .nils 1 (.c (.nilSlice)), none, false, []⟩]) (.seq (.region false [
⟨some 8, .mv (.t 0), none, false, []⟩,
⟨some 9, .mv (.t 1), none, false, []⟩,
⟨some 10, .mv (.t 2), none, false, []⟩,
⟨some 11, .mv (.t 0), none, false, []⟩,
⟨some 12, .len false (.t 11), none, false, []⟩,
⟨some 13, .slice 1 (.t 8) (some (.t 9)) (some (.t 10)) (some (.t 12)), none, false, []⟩]) (.seq (.seq (.region false [
⟨some 14, .mv (.t 1), none, false, []⟩,
⟨some 15, .mv (.t 2), none, false, []⟩,
⟨some 16, .bin .eql (.t 14) (.t 15), none, false, []⟩]) (.cond (.t 16) (.seq (.region false [
⟨some 17, .mv (.t 0), none, false, []⟩,
⟨some 6, .mv (.t 17), none, false, []⟩]) .ret) .skip)) (.seq (.region false [
⟨some 18, .mv (.t 0), none, false, []⟩,
⟨some 19, .len false (.t 18), none, false, []⟩,
⟨some 7, .mv (.t 19), none, false, []⟩]) (.seq (.region true [
⟨some 20, .mv (.t 0), none, false, []⟩,
⟨some 21, .mv (.t 1), none, false, []⟩,
⟨some 22, .slice 1 (.t 20) none (some (.t 21)) none, none, false, []⟩,
⟨some 23, .mv (.t 0), none, false, []⟩,
⟨some 24, .mv (.t 2), none, false, []⟩,
⟨some 25, .slice 1 (.t 23) (some (.t 24)) none none, none, false, []⟩,
⟨some 26, .app 3 1 8 [.int .i64 0] (.t 22) (.t 25), none, false, []⟩,
⟨some 0, .mv (.t 26), none, false, []⟩]) (.seq (.region false [
⟨some 27, .mv (.t 0), none, false, []⟩,
⟨some 28, .mv (.t 0), none, false, []⟩,
⟨some 29, .len false (.t 28), none, false, []⟩,
⟨some 30, .mv (.t 7), none, false, []⟩,
⟨some 31, .slice 1 (.t 27) (some (.t 29)) (some (.t 30)) none, none, false, []⟩,
⟨none, .clear 3 1 [.int .i64 0] (.t 31), none, false, []⟩]) (.seq (.region false [
⟨some 32, .mv (.t 0), none, false, []⟩,
⟨some 6, .mv (.t 32), none, false, []⟩]) .ret)))))))⟩
def a40 : AFunc := ⟨8, [.tmp 2], (.seq (.region false [
⟨some 2, .nils 1 (.c (.nilSlice)), none, false, []⟩]) (.seq (.seq (.region false [
⟨some 3, .mv (.t 0), none, false, []⟩,
⟨some 4, .eq false [9] (.t 3) (.c (.nilSlice)), none, false, []⟩]) (.cond (.t 4) (.seq (.region false [
⟨some 2, .nils 1 (.c (.nilSlice)), none, false, []⟩]) .ret) .skip)) (.seq (.region false [
⟨some 5, .bslice 3 1 0 [.int .i64 0] [], none, false, []⟩,
⟨some 6, .mv (.t 0), none, false, []⟩,
⟨some 7, .app 3 1 8 [.int .i64 0] (.t 5) (.t 6), none, false, []⟩,
⟨some 2, .mv (.t 7), none, false, []⟩]) .ret)))⟩
def a41r0A : ACode := (.seq (.region false [
⟨some 12, .mv (.t 89), none, false, []⟩]) (.region false [
⟨some 13, .mv (.t 90), none, false, []⟩]))
def a41r0a : ACode := a41r0A
def a41r0B : ACode := (.block 7 (.region true [
⟨some 91, .load 1 false (.t 11), none, true, []⟩,
⟨some 92, .load 1 false (.t 11), none, true, []⟩,
⟨some 93, .nilck (.t 92), none, false, []⟩,
⟨some 94, .load 1 false (.t 93), none, true, []⟩,
⟨some 95, .load 7 true (.t 2), none, false, []⟩,
⟨some 96, .load 1 false (.t 8), none, false, []⟩,
⟨some 97, .load 1 false (.t 10), none, false, []⟩,
⟨some 98, .mv (.t 12), none, false, []⟩,
⟨some 99, .call 52 [(.t 95), (.t 96), (.t 97), (.t 98)], none, true, []⟩,
⟨some 100, .load 1 false (.t 7), none, true, [8]⟩,
⟨some 101, .load 1 false (.t 8), none, true, [8]⟩,
⟨some 102, .bin .add (.t 101) (.c (.int .i64 1)), none, false, []⟩,
⟨some 103, .iaddr 1 (.t 100) (.t 102), none, false, []⟩,
⟨some 104, .load 1 false (.t 103), none, true, [8]⟩,
⟨some 105, .load 7 true (.t 2), none, true, [8]⟩,
⟨some 106, .mv (.t 13), none, false, []⟩,
⟨some 107, .mv (.t 12), none, false, []⟩,
⟨some 108, .call 46 [(.t 105), (.t 106), (.t 107)], none, true, []⟩,
⟨some 109, .iaddr 1 (.t 104) (.t 108), none, false, []⟩,
⟨some 110, .load 1 false (.t 109), none, false, []⟩,
⟨some 111, .bin .add (.t 99) (.t 110), none, false, []⟩,
⟨some 112, .minmax true (.t 94) [(.t 111)], none, false, []⟩,
⟨some 113, .nilck (.t 91), none, false, []⟩,
⟨none, .store 1 (.t 113) (.t 112), none, false, []⟩]))
def a41r0b : ACode := a41r0B
def a41l1b : ACode := (.seq (.region false [
⟨some 58, .bin .lss (.t 57) (.t 56), none, false, []⟩]) (.seq (.cond (.t 58) .skip (.exit 4)) (.seq (.block 5 (.seq (.region false [
⟨some 59, .mv (.t 57), none, false, []⟩,
⟨some 10, .alloc 3 [.int .i64 0], none, false, []⟩,
⟨none, .store 1 (.t 10) (.t 59), none, false, []⟩]) (.seq (.region true [
⟨some 60, .load 1 false (.t 7), none, true, []⟩,
⟨some 61, .load 1 false (.t 8), none, true, []⟩,
⟨some 62, .iaddr 1 (.t 60) (.t 61), none, false, []⟩,
⟨some 63, .load 1 false (.t 62), none, true, []⟩,
⟨some 64, .load 7 true (.t 2), none, true, []⟩,
⟨some 65, .mv (.t 9), none, false, []⟩,
⟨some 66, .load 1 false (.t 10), none, true, []⟩,
⟨some 67, .call 46 [(.t 64), (.t 65), (.t 66)], none, true, []⟩,
⟨some 68, .iaddr 1 (.t 63) (.t 67), none, false, []⟩,
⟨some 11, .alloc 103 [.nilPtr], none, true, [7]⟩,
⟨none, .store 1 (.t 11) (.t 68), none, false, []⟩]) (.seq (.seq (.region false [
⟨some 69, .load 1 false (.t 8), none, false, []⟩,
⟨some 70, .mv (.t 5), none, false, []⟩,
⟨some 71, .bin .eql (.t 69) (.t 70), none, false, []⟩]) (.cond (.t 71) (.seq (.region false [
⟨some 72, .load 1 false (.t 11), none, false, []⟩,
⟨some 73, .faddr 3 (.t 2), none, false, []⟩,
⟨some 74, .faddr 2 (.t 73), none, false, []⟩,
⟨some 75, .load 1 false (.t 74), none, false, []⟩,
⟨some 76, .mv (.t 9), none, false, []⟩,
⟨some 77, .bin .mul (.t 75) (.t 76), none, false, []⟩,
⟨some 78, .nilck (.t 72), none, false, []⟩,
⟨none, .store 1 (.t 78) (.t 77), none, false, []⟩]) (.exit 5)) .skip)) (.seq (.seq (.region false [
⟨some 79, .load 7 true (.t 2), none, false, []⟩,
⟨some 80, .mv (.t 9), none, false, []⟩,
⟨some 81, .load 1 false (.t 8), none, false, []⟩,
⟨some 82, .load 2 true (.t 3), none, false, []⟩,
⟨some 83, .call 61 [(.t 79), (.t 80), (.t 81), (.t 82)], none, false, []⟩,
⟨some 84, .un .not (.t 83), none, false, []⟩]) (.cond (.t 84) (.exit 5) .skip)) (.seq (.region false [
⟨some 85, .load 7 true (.t 2), none, false, []⟩,
⟨some 86, .mv (.t 9), none, false, []⟩,
⟨some 87, .load 1 false (.t 8), none, false, []⟩,
⟨some 88, .call 51 [(.t 85), (.t 86), (.t 87)], none, false, []⟩]) (.block 6 (.rangeFunc [2, 3, 4, 5, 6, 7, 8, 9, 10, 11, 56, 57] (.t 88) [89, 90] a41r0a a41r0b)))))))) (.region false [
⟨some 114, .bin .add (.t 57) (.c (.int .i64 1)), none, false, []⟩,
⟨some 57, .mv (.t 114), none, false, []⟩]))))
def a41l1 : ACode := .loop [2, 3, 4, 5, 6, 7, 8, 9, 56, 57] [2, 3, 4, 5, 6, 7, 8, 9] a41l1b
def a41l2b : ACode := (.seq (.seq (.region false [
⟨some 46, .mv (.t 9), none, false, []⟩,
⟨some 47, .faddr 0 (.t 2), none, false, []⟩,
⟨some 48, .faddr 1 (.t 47), none, false, []⟩,
⟨some 49, .load 1 false (.t 48), none, false, []⟩,
⟨some 50, .bin .leq (.t 46) (.t 49), none, false, []⟩]) (.cond (.t 50) .skip (.exit 2))) (.seq (.block 3 (.seq (.region false [
⟨some 53, .faddr 0 (.t 2), none, false, []⟩,
⟨some 54, .faddr 2 (.t 53), none, false, []⟩,
⟨some 55, .load 1 false (.t 54), none, false, []⟩,
⟨some 56, .len false (.t 55), none, false, []⟩,
⟨some 57, .mv (.c (.int .i64 0)), none, false, []⟩]) (.block 4 a41l1))) (.region false [
⟨some 51, .mv (.t 9), none, false, []⟩,
⟨some 52, .bin .add (.t 51) (.c (.int .i64 1)), none, false, []⟩,
⟨some 9, .mv (.t 52), none, false, []⟩])))
def a41l2 : ACode := .loop [2, 3, 4, 5, 6, 7, 8, 9] [2, 3, 4, 5, 6, 7, 8] a41l2b
def a41l3b : ACode := (.seq (.seq (.region false [
⟨some 33, .load 1 false (.t 8), none, false, []⟩,
⟨some 34, .bin .geq (.t 33) (.c (.int .i64 0)), none, false, []⟩]) (.cond (.t 34) .skip (.exit 0))) (.seq (.block 1 (.seq (.region true [
⟨some 37, .load 1 false (.t 7), none, true, []⟩,
⟨some 38, .load 1 false (.t 8), none, true, []⟩,
⟨some 39, .bslice 3 1 1 [.int .i64 0] [(0, (.c (.int .i64 (-100000000000))))], none, true, []⟩,
⟨some 40, .mv (.t 6), none, false, []⟩,
⟨some 41, .call 60 [(.t 39), (.t 40)], none, true, []⟩,
⟨some 42, .iaddr 1 (.t 37) (.t 38), none, false, []⟩,
⟨none, .storem (.t 42) (.t 41), none, false, []⟩]) (.seq (.region false [
⟨some 43, .faddr 0 (.t 2), none, false, []⟩,
⟨some 44, .faddr 0 (.t 43), none, false, []⟩,
⟨some 45, .load 1 false (.t 44), none, false, []⟩,
⟨some 9, .mv (.t 45), none, false, []⟩]) (.block 2 a41l2)))) (.seq (.seq (.region false [
⟨some 115, .load 1 false (.t 8), none, false, []⟩]) (.region false [
⟨some 8, .alloc 3 [.int .i64 0], none, false, []⟩,
⟨none, .store 1 (.t 8) (.t 115), none, false, []⟩])) (.region false [
⟨some 35, .load 1 false (.t 8), none, false, []⟩,
⟨some 36, .bin .sub (.t 35) (.c (.int .i64 1)), none, false, []⟩,
⟨none, .store 1 (.t 8) (.t 36), none, false, []⟩]))))
def a41l3 : ACode := .loop [2, 3, 4, 5, 6, 7, 8] [4, 7] a41l3b
def a41 : AFunc := ⟨117, [.tmp 4], (.seq (.region false [
⟨some 2, .box 65 (.t 0), none, false, []⟩,
⟨some 3, .box 71 (.t 1), none, false, []⟩,
⟨some 4, .nilm (.c (.nilSlice)), none, false, []⟩]) (.seq (.region true [
⟨some 14, .faddr 3 (.t 2), none, false, []⟩,
⟨some 15, .faddr 3 (.t 14), none, false, []⟩,
⟨some 16, .load 1 false (.t 15), none, true, []⟩,
⟨some 17, .len false (.t 16), none, false, []⟩,
⟨some 18, .load 7 true (.t 2), none, false, []⟩,
⟨some 19, .faddr 0 (.t 2), none, false, []⟩,
⟨some 20, .faddr 1 (.t 19), none, false, []⟩,
⟨some 21, .load 1 false (.t 20), none, false, []⟩,
⟨some 22, .faddr 0 (.t 2), none, false, []⟩,
⟨some 23, .faddr 2 (.t 22), none, false, []⟩,
⟨some 24, .load 1 false (.t 23), none, false, []⟩,
⟨some 25, .len false (.t 24), none, false, []⟩,
⟨some 26, .bin .sub (.t 25) (.c (.int .i64 1)), none, false, []⟩,
⟨some 27, .call 46 [(.t 18), (.t 21), (.t 26)], none, true, []⟩,
⟨some 28, .bin .add (.t 27) (.c (.int .i64 1)), none, false, []⟩,
⟨some 5, .mv (.t 17), none, false, []⟩,
⟨some 6, .mv (.t 28), none, false, []⟩]) (.seq (.region false [
⟨some 29, .mv (.t 5), none, false, []⟩,
⟨some 30, .bin .add (.t 29) (.c (.int .i64 1)), none, false, []⟩,
⟨some 31, .mkmat 24 24 (.t 30) (.t 30), none, false, []⟩,
⟨some 7, .nalloc [1] 87 [.nilSlice], none, false, []⟩,
⟨none, .store 1 (.t 7) (.t 31), none, false, []⟩]) (.seq (.seq (.region false [
⟨some 32, .mv (.t 5), none, false, []⟩,
⟨some 8, .alloc 3 [.int .i64 0], none, false, []⟩,
⟨none, .store 1 (.t 8) (.t 32), none, false, []⟩]) (.block 0 a41l3)) (.seq (.region false [
⟨some 116, .load 1 false (.t 7), none, false, []⟩,
⟨some 4, .mv (.t 116), none, false, []⟩]) .ret)))))⟩
def a42l0b : ACode := (.seq (.seq (.region false [
⟨some 16, .mv (.t 6), none, false, []⟩,
⟨some 17, .mv (.t 0), none, false, []⟩,
⟨some 18, .len false (.t 17), none, false, []⟩,
⟨some 19, .bin .lss (.t 16) (.t 18), none, false, []⟩]) (.cond (.t 19) .skip (.exit 0))) (.seq (.block 1 (.seq (.region false [
⟨some 22, .mv (.t 0), none, false, []⟩,
⟨some 23, .mv (.t 6), none, false, []⟩,
⟨some 24, .iaddr 1 (.t 22) (.t 23), none, false, []⟩,
⟨some 25, .load 1 false (.t 24), none, false, []⟩,
⟨some 7, .mv (.t 25), none, false, []⟩]) (.seq (.region false [
⟨some 26, .mv (.t 1), none, false, []⟩,
⟨some 27, .mv (.t 7), none, false, []⟩,
⟨some 28, .callv (.t 26) [(.t 27)], none, false, []⟩,
⟨some 29, .un .not (.t 28), none, false, []⟩]) (.cond (.t 29) (.seq (.region false [
⟨some 30, .mv (.t 0), none, false, []⟩,
⟨some 31, .mv (.t 5), none, false, []⟩,
⟨some 32, .mv (.t 7), none, false, []⟩,
⟨some 33, .iaddr 1 (.t 30) (.t 31), none, false, []⟩,
⟨none, .store 1 (.t 33) (.t 32), none, false, []⟩]) (.region false [
⟨some 34, .mv (.t 5), none, false, []⟩,
⟨some 35, .bin .add (.t 34) (.c (.int .i64 1)), none, false, []⟩,
⟨some 5, .mv (.t 35), none, false, []⟩])) .skip)))) (.region false [
⟨some 20, .mv (.t 6), none, false, []⟩,
⟨some 21, .bin .add (.t 20) (.c (.int .i64 1)), none, false, []⟩,
⟨some 6, .mv (.t 21), none, false, []⟩])))
def a42l0 : ACode := .loop [0, 1, 5, 6] [0, 4, 5] a42l0b
def a42 : AFunc := ⟨42, [.tmp 4], (.seq (.region false [
⟨some 4, .nils 1 (.c (.nilSlice)), none, false, []⟩]) (.seq (.region false [
⟨some 8, .mv (.t 0), none, false, []⟩,
⟨some 9, .mv (.t 1), none, false, []⟩,
⟨some 10, .call 62 [(.t 8), (.t 9)], none, false, []⟩,
⟨some 5, .mv (.t 10), none, false, []⟩]) (.seq (.seq (.region false [
⟨some 11, .mv (.t 5), none, false, []⟩,
⟨some 12, .bin .eql (.t 11) (.c (.int .i64 (-1))), none, false, []⟩]) (.cond (.t 12) (.seq (.region false [
⟨some 13, .mv (.t 0), none, false, []⟩,
⟨some 4, .mv (.t 13), none, false, []⟩]) .ret) .skip)) (.seq (.seq (.region false [
⟨some 14, .mv (.t 5), none, false, []⟩,
⟨some 15, .bin .add (.t 14) (.c (.int .i64 1)), none, false, []⟩,
⟨some 6, .mv (.t 15), none, false, []⟩]) (.block 0 a42l0)) (.seq (.region false [
⟨some 36, .mv (.t 0), none, false, []⟩,
⟨some 37, .mv (.t 5), none, false, []⟩,
⟨some 38, .slice 1 (.t 36) (some (.t 37)) none none, none, false, []⟩,
⟨none, .clear 3 1 [.int .i64 0] (.t 38), none, false, []⟩]) (.seq (.region false [
⟨some 39, .mv (.t 0), none, false, []⟩,
⟨some 40, .mv (.t 5), none, false, []⟩,
⟨some 41, .slice 1 (.t 39) none (some (.t 40)) none, none, false, []⟩,
⟨some 4, .mv (.t 41), none, false, []⟩]) .ret))))))⟩
def a43r0A : ACode := (.region false [
⟨some 11, .mv (.t 31), none, false, []⟩])
def a43r0a : ACode := a43r0A
def a43r0B : ACode := (.block 5 (.region false [
⟨some 32, .load 1 false (.t 7), none, false, []⟩,
⟨some 33, .mv (.t 11), none, false, []⟩,
⟨some 34, .bslice 3 1 1 [.int .i64 0] [(0, (.t 33))], none, false, []⟩,
⟨some 35, .app 3 1 8 [.int .i64 0] (.t 32) (.t 34), none, false, []⟩,
⟨none, .store 1 (.t 7) (.t 35), none, false, []⟩]))
def a43r0b : ACode := a43r0B
def a43l1b : ACode := (.seq (.region false [
⟨some 23, .bin .lss (.t 22) (.t 21), none, false, []⟩]) (.seq (.cond (.t 23) .skip (.exit 2)) (.seq (.block 3 (.seq (.region false [
⟨some 24, .iaddr 1 (.t 20) (.t 22), none, false, []⟩,
⟨some 25, .load 1 false (.t 24), none, false, []⟩,
⟨some 9, .mv (.t 25), none, false, []⟩]) (.seq (.region false [
⟨some 26, .load 7 true (.t 2), none, false, []⟩,
⟨some 27, .mv (.t 9), none, false, []⟩,
⟨some 28, .mv (.t 6), none, false, []⟩,
⟨some 29, .call 51 [(.t 26), (.t 27), (.t 28)], none, false, []⟩]) (.block 4 (.rangeFunc [2, 4, 5, 6, 7, 16, 17, 20, 21, 22] (.t 29) [30, 31] a43r0a a43r0b))))) (.region false [
⟨some 36, .bin .add (.t 22) (.c (.int .i64 1)), none, false, []⟩,
⟨some 22, .mv (.t 36), none, false, []⟩]))))
def a43l1 : ACode := .loop [2, 4, 5, 6, 7, 16, 17, 20, 21, 22] [2, 4, 5, 7, 16, 17] a43l1b
def a43l2b : ACode := (.seq (.region false [
⟨some 18, .bin .lss (.t 17) (.t 16), none, false, []⟩]) (.seq (.cond (.t 18) .skip (.exit 0)) (.seq (.block 1 (.seq (.region false [
⟨some 19, .mv (.t 17), none, false, []⟩,
⟨some 6, .mv (.t 19), none, false, []⟩]) (.seq (.region false [
⟨some 7, .nalloc [1] 24 [.nilSlice], none, false, []⟩]) (.seq (.seq (.region false [
⟨some 20, .mv (.t 5), none, false, []⟩,
⟨some 21, .len false (.t 20), none, false, []⟩,
⟨some 22, .mv (.c (.int .i64 0)), none, false, []⟩]) (.block 2 a43l1)) (.seq (.region false [
⟨some 37, .load 1 false (.t 7), none, false, []⟩,
⟨some 38, .call 63 [(.t 37)], none, false, []⟩]) (.region false [
⟨some 39, .load 1 false (.t 7), none, false, []⟩,
⟨some 40, .call 64 [(.t 39)], none, false, []⟩,
⟨some 5, .mv (.t 40), none, false, []⟩])))))) (.region false [
⟨some 41, .bin .add (.t 17) (.c (.int .i64 1)), none, false, []⟩,
⟨some 17, .mv (.t 41), none, false, []⟩]))))
def a43l2 : ACode := .loop [2, 4, 5, 16, 17] [4, 5] a43l2b
def a43 : AFunc := ⟨43, [.tmp 4], (.seq (.region false [
⟨some 2, .box 65 (.t 0), none, false, []⟩,
⟨some 4, .nils 1 (.c (.nilSlice)), none, false, []⟩]) (.seq (.region false [
⟨some 12, .faddr 3 (.t 2), none, false, []⟩,
⟨some 13, .faddr 0 (.t 12), none, false, []⟩,
⟨some 14, .load 1 false (.t 13), none, false, []⟩,
⟨some 15, .bslice 3 1 1 [.int .i64 0] [(0, (.t 14))], none, false, []⟩,
⟨some 5, .mv (.t 15), none, false, []⟩]) (.seq (.seq (.region false [
⟨some 16, .mv (.t 1), none, false, []⟩,
⟨some 17, .mv (.c (.int .i64 0)), none, false, []⟩]) (.block 0 a43l2)) (.seq (.region false [
⟨some 42, .mv (.t 5), none, false, []⟩,
⟨some 4, .mv (.t 42), none, false, []⟩]) .ret))))⟩
def a44 : AFunc := ⟨17, [.tmp 5], (.seq (.region false [
⟨some 5, .mv (.c (.bool false)), none, false, []⟩]) (.seq (.region true [
⟨some 6, .load 1 false (.t 1), none, true, []⟩,
⟨some 7, .load 1 false (.t 2), none, true, []⟩,
⟨some 8, .iaddr 1 (.t 6) (.t 7), none, false, []⟩,
⟨some 9, .load 1 false (.t 8), none, true, []⟩,
⟨some 10, .load 7 true (.t 3), none, false, []⟩,
⟨some 11, .mv (.t 0), none, false, []⟩,
⟨some 12, .call 46 [(.t 10), (.t 11), (.c (.int .i64 0))], none, true, []⟩,
⟨some 13, .iaddr 1 (.t 9) (.t 12), none, false, []⟩,
⟨some 14, .load 1 false (.t 13), none, false, []⟩,
⟨some 15, .call 45 [(.t 14)], none, false, []⟩,
⟨some 16, .un .not (.t 15), none, false, []⟩,
⟨some 5, .mv (.t 16), none, false, []⟩]) .ret))⟩
def a45 : AFunc := ⟨5, [.tmp 2], (.seq (.region false [
⟨some 2, .mv (.c (.bool false)), none, false, []⟩]) (.seq (.region false [
⟨some 3, .mv (.t 0), none, false, []⟩,
⟨some 4, .bin .gtr (.t 3) (.c (.int .i64 (-50000000000))), none, false, []⟩,
⟨some 2, .mv (.t 4), none, false, []⟩]) .ret))⟩
def a46 : AFunc := ⟨19, [.tmp 6], (.seq (.region false [
⟨some 3, .box 65 (.t 0), none, false, []⟩,
⟨some 6, .mv (.c (.int .i64 0)), none, false, []⟩]) (.seq (.region false [
⟨some 7, .mv (.t 1), none, false, []⟩,
⟨some 8, .faddr 0 (.t 3), none, false, []⟩,
⟨some 9, .faddr 0 (.t 8), none, false, []⟩,
⟨some 10, .load 1 false (.t 9), none, false, []⟩,
⟨some 11, .bin .sub (.t 7) (.t 10), none, false, []⟩,
⟨some 12, .faddr 0 (.t 3), none, false, []⟩,
⟨some 13, .faddr 2 (.t 12), none, false, []⟩,
⟨some 14, .load 1 false (.t 13), none, false, []⟩,
⟨some 15, .len false (.t 14), none, false, []⟩,
⟨some 16, .bin .mul (.t 11) (.t 15), none, false, []⟩,
⟨some 17, .mv (.t 2), none, false, []⟩,
⟨some 18, .bin .add (.t 16) (.t 17), none, false, []⟩,
⟨some 6, .mv (.t 18), none, false, []⟩]) .ret))⟩
def a47 : AFunc := ⟨10, [.tmp 4], (.seq (.region false [
⟨some 4, .mv (.c (.bool false)), none, false, []⟩]) (.seq (.region false [
⟨some 5, .mv (.t 0), none, false, []⟩,
⟨some 6, .mv (.t 1), none, false, []⟩,
⟨some 7, .un .neg (.t 6), none, false, []⟩,
⟨some 8, .mv (.t 1), none, false, []⟩,
⟨some 9, .call 27 [(.t 5), (.t 7), (.t 8)], none, false, []⟩,
⟨some 4, .mv (.t 9), none, false, []⟩]) .ret))⟩
def a48 : AFunc := ⟨9, [.tmp 4], (.seq (.region false [
⟨some 4, .mv (.c (.bool false)), none, false, []⟩]) (.seq (.region false [
⟨some 5, .mv (.t 0), none, false, []⟩,
⟨some 6, .mv (.t 1), none, false, []⟩,
⟨some 7, .call 62 [(.t 5), (.t 6)], none, false, []⟩,
⟨some 8, .bin .geq (.t 7) (.c (.int .i64 0)), none, false, []⟩,
⟨some 4, .mv (.t 8), none, false, []⟩]) .ret))⟩
def a49 : AFunc := ⟨6, [.tmp 2], (.seq (.region false [
⟨some 2, .mv (.c (.bool false)), none, false, []⟩]) (.seq (.region false [
⟨some 3, .mv (.t 0), none, false, []⟩,
⟨some 4, .call 26 [(.t 3)], none, false, []⟩,
⟨some 5, .un .not (.t 4), none, false, []⟩,
⟨some 2, .mv (.t 5), none, false, []⟩]) .ret))⟩
def a50l0b : ACode := (.seq (.region false [
⟨some 56, .bin .lss (.t 55) (.t 54), none, false, []⟩]) (.seq (.cond (.t 56) .skip (.exit 0)) (.seq (.block 1 (.seq (.region false [
⟨some 57, .mv (.t 55), none, false, []⟩,
⟨some 58, .iaddr 3 (.t 53) (.t 55), none, false, []⟩,
⟨some 59, .load 3 true (.t 58), none, false, []⟩,
⟨some 9, .alloc 75 [.int .i64 0, .int .i64 0, .int .i64 0], none, false, []⟩,
⟨some 8, .mv (.t 57), none, false, []⟩,
⟨none, .store 3 (.t 9) (.t 59), none, false, []⟩]) (.seq (.region true [
⟨some 60, .faddr 0 (.t 9), none, false, []⟩,
⟨some 61, .load 1 false (.t 60), none, false, []⟩,
⟨some 62, .call 66 [(.t 61)], none, true, []⟩,
⟨some 63, .mv (.t 62), none, false, []⟩,
⟨some 64, .faddr 1 (.t 9), some (63, true), false, []⟩,
⟨some 65, .load 1 false (.t 64), some (63, true), false, []⟩,
⟨some 66, .call 66 [(.t 65)], some (63, true), true, []⟩,
⟨some 67, .pick (.t 63) (.t 66) (.c (.bool false)), none, false, []⟩,
⟨some 68, .mv (.t 67), none, false, []⟩,
⟨some 69, .faddr 2 (.t 9), some (68, true), false, []⟩,
⟨some 70, .load 1 false (.t 69), some (68, true), false, []⟩,
⟨some 71, .call 66 [(.t 70)], some (68, true), true, []⟩,
⟨some 72, .pick (.t 68) (.t 71) (.c (.bool false)), none, false, []⟩,
⟨some 73, .call 25 [(.t 72), (.c (.int .i64 2))], none, true, []⟩,
⟨some 74, .faddr 1 (.t 9), none, false, []⟩,
⟨some 75, .load 1 false (.t 74), none, true, [2, 6, 11, 13]⟩,
⟨some 76, .faddr 0 (.t 9), none, false, []⟩,
⟨some 77, .load 1 false (.t 76), none, true, [2, 6, 11, 13]⟩,
⟨some 78, .bin .leq (.t 75) (.t 77), none, false, []⟩,
⟨some 79, .call 25 [(.t 78), (.c (.int .i64 9))], none, false, []⟩,
⟨some 80, .bslice 27 1 2 [.int .i64 0] [(0, (.t 73)), (1, (.t 79))], none, false, []⟩,
⟨some 81, .call 24 [(.t 80)], none, false, []⟩,
⟨some 10, .mv (.t 81), none, false, []⟩]) (.seq (.region false [
⟨some 82, .mv (.t 10), none, false, []⟩,
⟨some 83, .bin .neq (.t 82) (.c (.int .i64 0)), none, false, []⟩]) (.cond (.t 83) (.seq (.region false [
⟨some 84, .mv (.t 8), none, false, []⟩,
⟨some 85, .mv (.t 10), none, false, []⟩,
⟨some 4, .mv (.t 84), none, false, []⟩,
⟨some 5, .mv (.t 85), none, false, []⟩]) .ret) .skip))))) (.region false [
⟨some 86, .bin .add (.t 55) (.c (.int .i64 1)), none, false, []⟩,
⟨some 55, .mv (.t 86), none, false, []⟩]))))
def a50l0 : ACode := .loop [53, 54, 55] [4, 5] a50l0b
def a50 : AFunc := ⟨87, [.tmp 4, .tmp 5], (.seq (.region false [
⟨some 2, .box 47 (.t 0), none, false, []⟩,
⟨some 3, .box 51 (.t 1), none, false, []⟩,
⟨some 4, .mv (.c (.int .i64 0)), none, false, []⟩,
⟨some 5, .mv (.c (.int .i64 0)), none, false, []⟩]) (.seq (.region false [
⟨some 12, .load 3 true (.t 2), none, false, []⟩,
⟨some 13, .call 65 [(.t 12)], none, false, []⟩,
⟨some 11, .mv (.t 13), none, false, []⟩,
⟨some 14, .ext (.t 11) 0, none, false, []⟩,
⟨some 15, .ext (.t 11) 1, none, false, []⟩,
⟨some 6, .mv (.t 14), none, false, []⟩,
⟨some 7, .mv (.t 15), none, false, []⟩]) (.seq (.region true [
⟨some 16, .mv (.t 7), none, false, []⟩,
⟨some 17, .faddr 0 (.t 3), none, false, []⟩,
⟨some 18, .load 1 false (.t 17), none, false, []⟩,
⟨some 19, .faddr 0 (.t 2), none, false, []⟩,
⟨some 20, .load 1 false (.t 19), none, false, []⟩,
⟨some 21, .faddr 1 (.t 2), none, false, []⟩,
⟨some 22, .load 1 false (.t 21), none, false, []⟩,
⟨some 23, .call 27 [(.t 18), (.t 20), (.t 22)], none, true, []⟩,
⟨some 24, .call 25 [(.t 23), (.c (.int .i64 2))], none, true, []⟩,
⟨some 25, .faddr 1 (.t 3), none, false, []⟩,
⟨some 26, .load 1 false (.t 25), none, true, [7, 8]⟩,
⟨some 27, .faddr 2 (.t 2), none, false, []⟩,
⟨some 28, .load 1 false (.t 27), none, true, [7, 8]⟩,
⟨some 29, .len false (.t 28), none, false, []⟩,
⟨some 30, .bin .sub (.t 29) (.c (.int .i64 1)), none, false, []⟩,
⟨some 31, .call 27 [(.t 26), (.c (.int .i64 0)), (.t 30)], none, true, []⟩,
⟨some 32, .call 25 [(.t 31), (.c (.int .i64 6))], none, true, []⟩,
⟨some 33, .faddr 2 (.t 3), none, false, []⟩,
⟨some 34, .load 1 false (.t 33), none, true, [7, 8, 15, 16]⟩,
⟨some 35, .call 66 [(.t 34)], none, true, []⟩,
⟨some 36, .call 25 [(.t 35), (.c (.int .i64 2))], none, true, []⟩,
⟨some 37, .faddr 3 (.t 3), none, false, []⟩,
⟨some 38, .load 1 false (.t 37), none, true, [7, 8, 15, 16, 19, 20]⟩,
⟨some 39, .len false (.t 38), none, false, []⟩,
⟨some 40, .bin .gtr (.t 39) (.c (.int .i64 0)), none, false, []⟩,
⟨some 41, .call 25 [(.t 40), (.c (.int .i64 10))], none, true, []⟩,
⟨some 42, .faddr 3 (.t 3), none, false, []⟩,
⟨some 43, .load 1 false (.t 42), none, true, [7, 8, 15, 16, 19, 20, 25]⟩,
⟨some 44, .len false (.t 43), none, false, []⟩,
⟨some 45, .bin .leq (.t 44) (.c (.int .i64 10)), none, false, []⟩,
⟨some 46, .call 25 [(.t 45), (.c (.int .i64 8))], none, false, []⟩,
⟨some 47, .bslice 27 1 6 [.int .i64 0] [(0, (.t 16)), (1, (.t 24)), (2, (.t 32)), (3, (.t 36)), (4, (.t 41)), (5, (.t 46))], none, false, []⟩,
⟨some 48, .call 24 [(.t 47)], none, false, []⟩,
⟨some 7, .mv (.t 48), none, false, []⟩]) (.seq (.seq (.region false [
⟨some 49, .mv (.t 7), none, false, []⟩,
⟨some 50, .bin .neq (.t 49) (.c (.int .i64 0)), none, false, []⟩]) (.cond (.t 50) (.seq (.region false [
⟨some 51, .mv (.t 7), none, false, []⟩,
⟨some 4, .mv (.c (.int .i64 0)), none, false, []⟩,
⟨some 5, .mv (.t 51), none, false, []⟩]) .ret) .skip)) (.seq (.seq (.region false [
⟨some 52, .faddr 3 (.t 3), none, false, []⟩,
⟨some 53, .load 1 false (.t 52), none, false, []⟩,
⟨some 54, .len false (.t 53), none, false, []⟩,
⟨some 55, .mv (.c (.int .i64 0)), none, false, []⟩]) (.block 0 a50l0)) (.seq (.region false [
⟨some 4, .mv (.c (.int .i64 0)), none, false, []⟩,
⟨some 5, .mv (.c (.int .i64 0)), none, false, []⟩]) .ret))))))⟩
def a51 : AFunc := ⟨8, [.tmp 6], (.seq (.region false [
⟨some 3, .box 65 (.t 0), none, false, []⟩,
⟨some 4, .box 3 (.t 1), none, false, []⟩,
⟨some 5, .box 3 (.t 2), none, false, []⟩,
⟨some 6, .mv (.c (.nilFunc)), none, false, []⟩]) (.seq (.region false [
⟨some 7, .mkf 67 [] [(.t 3), (.t 4), (.t 5)], none, false, []⟩,
⟨some 6, .mv (.t 7), none, false, []⟩]) .ret))⟩
def a52 : AFunc := ⟨44, [.tmp 8], (.seq (.region false [
⟨some 4, .box 65 (.t 0), none, false, []⟩,
⟨some 8, .mv (.c (.int .i64 0)), none, false, []⟩]) (.seq (.region true [
⟨some 13, .faddr 0 (.t 4), none, false, []⟩,
⟨some 14, .faddr 2 (.t 13), none, false, []⟩,
⟨some 15, .load 1 false (.t 14), none, true, []⟩,
⟨some 16, .mv (.t 3), none, false, []⟩,
⟨some 17, .iaddr 4 (.t 15) (.t 16), none, false, []⟩,
⟨some 18, .load 4 true (.t 17), none, true, []⟩,
⟨some 19, .faddr 3 (.t 4), none, false, []⟩,
⟨some 20, .faddr 3 (.t 19), none, false, []⟩,
⟨some 21, .load 1 false (.t 20), none, true, []⟩,
⟨some 22, .mv (.t 1), none, false, []⟩,
⟨some 23, .iaddr 3 (.t 21) (.t 22), none, false, []⟩,
⟨some 24, .load 3 true (.t 23), none, true, []⟩,
⟨some 9, .alloc 73 [.str ByteArray.empty, .int .i64 0, .int .i64 0, .int .i64 0], none, true, []⟩,
⟨some 10, .alloc 75 [.int .i64 0, .int .i64 0, .int .i64 0], none, true, [12]⟩,
⟨none, .store 4 (.t 9) (.t 18), none, true, [8, 11]⟩,
⟨none, .store 3 (.t 10) (.t 24), none, false, []⟩]) (.seq (.region false [
⟨some 25, .faddr 0 (.t 10), none, false, []⟩,
⟨some 26, .load 1 false (.t 25), none, false, []⟩,
⟨some 11, .mv (.t 26), none, false, []⟩]) (.seq (.seq (.region false [
⟨some 27, .faddr 2 (.t 9), none, false, []⟩,
⟨some 28, .load 1 false (.t 27), none, false, []⟩,
⟨some 29, .bin .gtr (.t 28) (.c (.int .i64 0)), none, false, []⟩]) (.cond (.t 29) (.region false [
⟨some 30, .faddr 1 (.t 10), none, false, []⟩,
⟨some 31, .load 1 false (.t 30), none, false, []⟩,
⟨some 11, .mv (.t 31), none, false, []⟩]) .skip)) (.seq (.region false [
⟨some 32, .faddr 2 (.t 9), none, false, []⟩,
⟨some 33, .load 1 false (.t 32), none, false, []⟩,
⟨some 34, .mv (.t 11), none, false, []⟩,
⟨some 35, .bin .mul (.t 33) (.t 34), none, false, []⟩,
⟨some 12, .mv (.t 35), none, false, []⟩]) (.seq (.seq (.region false [
⟨some 36, .mv (.t 2), none, false, []⟩,
⟨some 37, .mv (.t 3), none, false, []⟩,
⟨some 38, .bin .neq (.t 36) (.t 37), none, false, []⟩]) (.cond (.t 38) (.region false [
⟨some 39, .mv (.t 12), none, false, []⟩,
⟨some 40, .faddr 3 (.t 9), none, false, []⟩,
⟨some 41, .load 1 false (.t 40), none, false, []⟩,
⟨some 42, .bin .sub (.t 39) (.t 41), none, false, []⟩,
⟨some 12, .mv (.t 42), none, false, []⟩]) .skip)) (.seq (.region false [
⟨some 43, .mv (.t 12), none, false, []⟩,
⟨some 8, .mv (.t 43), none, false, []⟩]) .ret)))))))⟩
def a53 : AFunc := ⟨8, [.tmp 3], (.seq (.region false [
⟨some 3, .mv (.c (.bool false)), none, false, []⟩]) (.seq (.region false [
⟨some 4, .load 7 true (.t 1), none, false, []⟩,
⟨some 5, .mv (.t 0), none, false, []⟩,
⟨some 6, .call 33 [(.t 4), (.t 5)], none, false, []⟩,
⟨some 7, .un .not (.t 6), none, false, []⟩,
⟨some 3, .mv (.t 7), none, false, []⟩]) .ret))⟩
def a54l0b : ACode := (.seq (.region false [
⟨some 17, .bin .lss (.t 16) (.t 15), none, false, []⟩]) (.seq (.cond (.t 17) .skip (.exit 0)) (.seq (.block 1 (.seq (.region false [
⟨some 18, .mv (.t 16), none, false, []⟩,
⟨some 19, .iaddr 1 (.t 14) (.t 16), none, false, []⟩,
⟨some 20, .load 1 false (.t 19), none, false, []⟩,
⟨some 7, .mv (.t 18), none, false, []⟩,
⟨some 8, .mv (.t 20), none, false, []⟩]) (.seq (.region true [
⟨some 21, .load 7 true (.t 2), none, false, []⟩,
⟨some 22, .mv (.t 6), none, false, []⟩,
⟨some 23, .mv (.t 7), none, false, []⟩,
⟨some 24, .iaddr 1 (.t 22) (.t 23), none, false, []⟩,
⟨some 25, .load 1 false (.t 24), none, false, []⟩,
⟨some 26, .mv (.t 7), none, false, []⟩,
⟨some 27, .mv (.t 8), none, false, []⟩,
⟨some 28, .call 55 [(.t 21), (.t 25), (.t 26), (.t 27)], none, false, []⟩,
⟨some 9, .mv (.t 28), none, false, []⟩]) (.seq (.seq (.region false [
⟨some 29, .load 7 true (.t 2), none, false, []⟩,
⟨some 30, .mv (.t 9), none, false, []⟩,
⟨some 31, .call 56 [(.t 29), (.t 30)], none, false, []⟩,
⟨some 32, .un .not (.t 31), none, false, []⟩]) (.cond (.t 32) (.seq (.region false [
⟨some 4, .nils 1 (.c (.nilSlice)), none, false, []⟩,
⟨some 5, .mv (.c (.bool false)), none, false, []⟩]) .ret) .skip)) (.region false [
⟨some 33, .mv (.t 6), none, false, []⟩,
⟨some 34, .mv (.t 9), none, false, []⟩,
⟨some 35, .bslice 3 1 1 [.int .i64 0] [(0, (.t 34))], none, false, []⟩,
⟨some 36, .app 3 1 8 [.int .i64 0] (.t 33) (.t 35), none, false, []⟩,
⟨some 6, .mv (.t 36), none, false, []⟩]))))) (.region false [
⟨some 37, .bin .add (.t 16) (.c (.int .i64 1)), none, false, []⟩,
⟨some 16, .mv (.t 37), none, false, []⟩]))))
def a54l0 : ACode := .loop [2, 6, 14, 15, 16] [4, 5, 6] a54l0b
def a54 : AFunc := ⟨39, [.tmp 4, .tmp 5], (.seq (.region false [
⟨some 2, .box 65 (.t 0), none, false, []⟩,
⟨some 4, .nils 1 (.c (.nilSlice)), none, false, []⟩,
⟨some 5, .mv (.c (.bool false)), none, false, []⟩]) (.seq (.region false [
⟨some 10, .faddr 3 (.t 2), none, false, []⟩,
⟨some 11, .faddr 0 (.t 10), none, false, []⟩,
⟨some 12, .load 1 false (.t 11), none, false, []⟩,
⟨some 13, .bslice 3 1 1 [.int .i64 0] [(0, (.t 12))], none, false, []⟩,
⟨some 6, .mv (.t 13), none, false, []⟩]) (.seq (.seq (.region false [
⟨some 14, .mv (.t 1), none, false, []⟩,
⟨some 15, .len false (.t 14), none, false, []⟩,
⟨some 16, .mv (.c (.int .i64 0)), none, false, []⟩]) (.block 0 a54l0)) (.seq (.region false [
⟨some 38, .mv (.t 6), none, false, []⟩,
⟨some 4, .mv (.t 38), none, false, []⟩,
⟨some 5, .mv (.c (.bool true)), none, false, []⟩]) .ret))))⟩
def a55 : AFunc := ⟨26, [.tmp 8], (.seq (.region false [
⟨some 4, .box 65 (.t 0), none, false, []⟩,
⟨some 8, .mv (.c (.int .i64 0)), none, false, []⟩]) (.seq (.region true [
⟨some 9, .mv (.t 1), none, false, []⟩,
⟨some 10, .faddr 3 (.t 4), none, false, []⟩,
⟨some 11, .faddr 3 (.t 10), none, false, []⟩,
⟨some 12, .load 1 false (.t 11), none, false, []⟩,
⟨some 13, .mv (.t 2), none, false, []⟩,
⟨some 14, .iaddr 3 (.t 12) (.t 13), none, false, []⟩,
⟨some 15, .faddr 2 (.t 14), none, false, []⟩,
⟨some 16, .load 1 false (.t 15), none, false, []⟩,
⟨some 17, .bin .add (.t 9) (.t 16), none, false, []⟩,
⟨some 18, .faddr 0 (.t 4), none, false, []⟩,
⟨some 19, .faddr 2 (.t 18), none, false, []⟩,
⟨some 20, .load 1 false (.t 19), none, false, []⟩,
⟨some 21, .mv (.t 3), none, false, []⟩,
⟨some 22, .iaddr 4 (.t 20) (.t 21), none, false, []⟩,
⟨some 23, .faddr 1 (.t 22), none, false, []⟩,
⟨some 24, .load 1 false (.t 23), none, false, []⟩,
⟨some 25, .bin .add (.t 17) (.t 24), none, false, []⟩,
⟨some 8, .mv (.t 25), none, false, []⟩]) .ret))⟩
def a56 : AFunc := ⟨13, [.tmp 4], (.seq (.region false [
⟨some 2, .box 65 (.t 0), none, false, []⟩,
⟨some 4, .mv (.c (.bool false)), none, false, []⟩]) (.seq (.region false [
⟨some 5, .mv (.t 1), none, false, []⟩,
⟨some 6, .faddr 0 (.t 2), none, false, []⟩,
⟨some 7, .faddr 0 (.t 6), none, false, []⟩,
⟨some 8, .load 1 false (.t 7), none, false, []⟩,
⟨some 9, .faddr 0 (.t 2), none, false, []⟩,
⟨some 10, .faddr 1 (.t 9), none, false, []⟩,
⟨some 11, .load 1 false (.t 10), none, false, []⟩,
⟨some 12, .call 27 [(.t 5), (.t 8), (.t 11)], none, false, []⟩,
⟨some 4, .mv (.t 12), none, false, []⟩]) .ret))⟩
def a57l0b : ACode := (.seq (.region false [
⟨some 26, .bin .lss (.t 25) (.t 24), none, false, []⟩]) (.seq (.cond (.t 26) .skip (.exit 0)) (.seq (.block 1 (.seq (.region false [
⟨some 27, .mv (.t 25), none, false, []⟩,
⟨some 28, .iaddr 3 (.t 23) (.t 25), none, false, []⟩,
⟨some 29, .load 3 true (.t 28), none, false, []⟩,
⟨some 6, .alloc 86 [.str ByteArray.empty, .int .i64 0, .int .i64 0], none, false, []⟩,
⟨some 5, .mv (.t 27), none, false, []⟩,
⟨none, .store 3 (.t 6) (.t 29), none, false, []⟩]) (.seq (.region false [
⟨some 30, .mv (.t 0), none, false, []⟩,
⟨some 31, .mv (.t 5), none, false, []⟩,
⟨some 32, .slice 3 (.t 30) none (some (.t 31)) none, none, false, []⟩,
⟨some 33, .mkf 69 [] [(.t 6)], none, false, []⟩,
⟨some 34, .call 68 [(.t 32), (.t 33)], none, false, []⟩,
⟨some 7, .mv (.t 34), none, false, []⟩]) (.seq (.region false [
⟨some 35, .faddr 1 (.t 6), none, false, []⟩,
⟨some 36, .load 1 false (.t 35), none, false, []⟩,
⟨some 37, .call 27 [(.t 36), (.c (.int .i64 0)), (.c (.int .i64 100000))], none, false, []⟩,
⟨some 38, .mv (.t 37), none, false, []⟩,
⟨some 39, .faddr 2 (.t 6), some (38, true), false, []⟩,
⟨some 40, .load 1 false (.t 39), some (38, true), false, []⟩,
⟨some 41, .call 27 [(.t 40), (.c (.int .i64 1)), (.c (.int .i64 100000))], some (38, true), false, []⟩,
⟨some 42, .pick (.t 38) (.t 41) (.c (.bool false)), none, false, []⟩,
⟨some 8, .mv (.t 42), none, false, []⟩]) (.seq (.region false [
⟨some 43, .faddr 0 (.t 6), none, false, []⟩,
⟨some 44, .load 1 false (.t 43), none, false, []⟩,
⟨some 45, .call 70 [(.t 44)], none, false, []⟩,
⟨some 46, .call 25 [(.t 45), (.c (.int .i64 4))], none, false, []⟩,
⟨some 47, .mv (.t 7), none, false, []⟩,
⟨some 48, .un .not (.t 47), none, false, []⟩,
⟨some 49, .call 25 [(.t 48), (.c (.int .i64 5))], none, false, []⟩,
⟨some 50, .mv (.t 8), none, false, []⟩,
⟨some 51, .call 25 [(.t 50), (.c (.int .i64 2))], none, false, []⟩,
⟨some 52, .bslice 27 1 3 [.int .i64 0] [(0, (.t 46)), (1, (.t 49)), (2, (.t 51))], none, false, []⟩,
⟨some 53, .call 24 [(.t 52)], none, false, []⟩,
⟨some 9, .mv (.t 53), none, false, []⟩]) (.seq (.region false [
⟨some 54, .mv (.t 9), none, false, []⟩,
⟨some 55, .bin .neq (.t 54) (.c (.int .i64 0)), none, false, []⟩]) (.cond (.t 55) (.seq (.region false [
⟨some 56, .mv (.t 5), none, false, []⟩,
⟨some 57, .mv (.t 9), none, false, []⟩,
⟨some 2, .mv (.t 56), none, false, []⟩,
⟨some 3, .mv (.t 57), none, false, []⟩]) .ret) .skip))))))) (.region false [
⟨some 58, .bin .add (.t 25) (.c (.int .i64 1)), none, false, []⟩,
⟨some 25, .mv (.t 58), none, false, []⟩]))))
def a57l0 : ACode := .loop [0, 23, 24, 25] [2, 3] a57l0b
def a57 : AFunc := ⟨59, [.tmp 2, .tmp 3], (.seq (.region false [
⟨some 2, .mv (.c (.int .i64 0)), none, false, []⟩,
⟨some 3, .mv (.c (.int .i64 0)), none, false, []⟩]) (.seq (.seq (.region false [
⟨some 10, .mv (.t 0), none, false, []⟩,
⟨some 11, .len false (.t 10), none, false, []⟩,
⟨some 12, .bin .gtr (.t 11) (.c (.int .i64 0)), none, false, []⟩,
⟨some 13, .call 25 [(.t 12), (.c (.int .i64 10))], none, false, []⟩,
⟨some 14, .mv (.t 0), none, false, []⟩,
⟨some 15, .len false (.t 14), none, false, []⟩,
⟨some 16, .bin .leq (.t 15) (.c (.int .i64 8)), none, false, []⟩,
⟨some 17, .call 25 [(.t 16), (.c (.int .i64 8))], none, false, []⟩,
⟨some 18, .bslice 27 1 2 [.int .i64 0] [(0, (.t 13)), (1, (.t 17))], none, false, []⟩,
⟨some 19, .call 24 [(.t 18)], none, false, []⟩,
⟨some 4, .mv (.t 19), none, false, []⟩]) (.seq (.region false [
⟨some 20, .mv (.t 4), none, false, []⟩,
⟨some 21, .bin .neq (.t 20) (.c (.int .i64 0)), none, false, []⟩]) (.cond (.t 21) (.seq (.region false [
⟨some 22, .mv (.t 4), none, false, []⟩,
⟨some 2, .mv (.c (.int .i64 0)), none, false, []⟩,
⟨some 3, .mv (.t 22), none, false, []⟩]) .ret) .skip))) (.seq (.seq (.region false [
⟨some 23, .mv (.t 0), none, false, []⟩,
⟨some 24, .len false (.t 23), none, false, []⟩,
⟨some 25, .mv (.c (.int .i64 0)), none, false, []⟩]) (.block 0 a57l0)) (.seq (.region false [
⟨some 2, .mv (.c (.int .i64 0)), none, false, []⟩,
⟨some 3, .mv (.c (.int .i64 0)), none, false, []⟩]) .ret))))⟩
def a58 : AFunc := ⟨9, [], (.region false [
⟨some 4, .mv (.t 0), none, false, []⟩,
⟨some 5, .mv (.t 0), none, false, []⟩,
⟨some 6, .len false (.t 5), none, false, []⟩,
⟨some 7, .mv (.t 1), none, false, []⟩,
⟨some 8, .call 71 [(.t 4), (.t 6), (.t 7)], none, false, []⟩])⟩
def a59 : AFunc := ⟨17, [.tmp 5], (.seq (.region false [
⟨some 5, .mv (.c (.int .i64 0)), none, false, []⟩]) (.seq (.region true [
⟨some 6, .load 1 false (.t 2), none, false, []⟩,
⟨some 7, .mv (.t 0), none, false, []⟩,
⟨some 8, .iaddr 3 (.t 6) (.t 7), none, false, []⟩,
⟨some 9, .faddr 1 (.t 8), none, false, []⟩,
⟨some 10, .load 1 false (.t 9), none, false, []⟩,
⟨some 11, .load 1 false (.t 2), none, false, []⟩,
⟨some 12, .mv (.t 1), none, false, []⟩,
⟨some 13, .iaddr 3 (.t 11) (.t 12), none, false, []⟩,
⟨some 14, .faddr 1 (.t 13), none, false, []⟩,
⟨some 15, .load 1 false (.t 14), none, false, []⟩,
⟨some 16, .bin .sub (.t 10) (.t 15), none, false, []⟩,
⟨some 5, .mv (.t 16), none, false, []⟩]) .ret))⟩
def a60l0b : ACode := (.seq (.seq (.region false [
⟨some 34, .mv (.t 8), none, false, []⟩,
⟨some 35, .mv (.t 7), none, false, []⟩,
⟨some 36, .len false (.t 35), none, false, []⟩,
⟨some 37, .bin .lss (.t 34) (.t 36), none, false, []⟩]) (.cond (.t 37) .skip (.exit 0))) (.block 1 (.region true [
⟨some 38, .mv (.t 8), none, false, []⟩,
⟨some 39, .mv (.t 7), none, false, []⟩,
⟨some 40, .mv (.t 8), none, false, []⟩,
⟨some 41, .slice 1 (.t 39) (some (.t 40)) none none, none, false, []⟩,
⟨some 42, .mv (.t 7), none, false, []⟩,
⟨some 43, .mv (.t 8), none, false, []⟩,
⟨some 44, .slice 1 (.t 42) none (some (.t 43)) none, none, false, []⟩,
⟨some 45, .copy 3 (.t 41) (.t 44), none, false, []⟩,
⟨some 46, .bin .add (.t 38) (.t 45), none, false, []⟩,
⟨some 8, .mv (.t 46), none, false, []⟩])))
def a60l0 : ACode := .loop [7, 8] [4, 7] a60l0b
def a60 : AFunc := ⟨48, [.tmp 4], (.seq (.region false [
⟨some 4, .nils 1 (.c (.nilSlice)), none, false, []⟩]) (.seq (.seq (.region false [
⟨some 9, .mv (.t 1), none, false, []⟩,
⟨some 10, .bin .lss (.t 9) (.c (.int .i64 0)), none, false, []⟩]) (.cond (.t 10) (.region false [
⟨some 11, .stop, none, false, []⟩,
⟨none, .stop, none, false, []⟩]) .skip)) (.seq (.region false [
⟨some 13, .mv (.t 0), none, false, []⟩,
⟨some 14, .len false (.t 13), none, false, []⟩,
⟨some 15, .conv .u64 (.t 14), none, false, []⟩,
⟨some 16, .mv (.t 1), none, false, []⟩,
⟨some 17, .conv .u64 (.t 16), none, false, []⟩,
⟨some 18, .call 72 [(.t 15), (.t 17)], none, false, []⟩,
⟨some 12, .mv (.t 18), none, false, []⟩,
⟨some 19, .ext (.t 12) 0, none, false, []⟩,
⟨some 20, .ext (.t 12) 1, none, false, []⟩,
⟨some 5, .mv (.t 19), none, false, []⟩,
⟨some 6, .mv (.t 20), none, false, []⟩]) (.seq (.seq (.region false [
⟨some 21, .mv (.t 5), none, false, []⟩,
⟨some 22, .bin .gtr (.t 21) (.c (.int .u64 0)), none, false, []⟩,
⟨some 23, .mv (.t 22), none, false, []⟩,
⟨some 24, .mv (.t 6), some (23, false), false, []⟩,
⟨some 25, .bin .gtr (.t 24) (.c (.int .u64 9223372036854775807)), some (23, false), false, []⟩,
⟨some 26, .pick (.t 23) (.c (.bool true)) (.t 25), none, false, []⟩]) (.cond (.t 26) (.region false [
⟨some 27, .stop, none, false, []⟩,
⟨none, .stop, none, false, []⟩]) .skip)) (.seq (.region false [
⟨some 28, .mv (.t 6), none, false, []⟩,
⟨some 29, .conv .i64 (.t 28), none, false, []⟩,
⟨some 30, .mkslice 3 1 8 [.int .i64 0] (.t 29) (.t 29), none, false, []⟩,
⟨some 7, .mv (.t 30), none, false, []⟩]) (.seq (.region false [
⟨some 31, .mv (.t 7), none, false, []⟩,
⟨some 32, .mv (.t 0), none, false, []⟩,
⟨some 33, .copy 3 (.t 31) (.t 32), none, false, []⟩,
⟨some 8, .mv (.t 33), none, false, []⟩]) (.seq (.block 0 a60l0) (.seq (.region false [
⟨some 47, .mv (.t 7), none, false, []⟩,
⟨some 4, .mv (.t 47), none, false, []⟩]) .ret))))))))⟩
def a61 : AFunc := ⟨30, [.tmp 8], (.seq (.region false [
⟨some 4, .box 65 (.t 0), none, false, []⟩,
⟨some 7, .box 71 (.t 3), none, false, []⟩,
⟨some 8, .mv (.c (.bool false)), none, false, []⟩]) (.seq (.region true [
⟨some 9, .faddr 0 (.t 7), none, false, []⟩,
⟨some 10, .load 1 false (.t 9), none, false, []⟩,
⟨some 11, .bin .lss (.t 10) (.c (.int .i64 0)), none, false, []⟩,
⟨some 12, .mv (.t 11), none, false, []⟩,
⟨some 13, .load 7 true (.t 4), some (12, false), false, []⟩,
⟨some 14, .mv (.t 1), some (12, false), false, []⟩,
⟨some 15, .mv (.t 2), some (12, false), false, []⟩,
⟨some 16, .faddr 0 (.t 7), some (12, false), false, []⟩,
⟨some 17, .load 1 false (.t 16), some (12, false), false, []⟩,
⟨some 18, .call 34 [(.t 13), (.t 14), (.t 15), (.t 17)], some (12, false), true, []⟩,
⟨some 19, .faddr 1 (.t 7), some (12, false), false, []⟩,
⟨some 20, .load 1 false (.t 19), some (12, false), true, [9]⟩,
⟨some 21, .faddr 3 (.t 4), some (12, false), false, []⟩,
⟨some 22, .faddr 3 (.t 21), some (12, false), false, []⟩,
⟨some 23, .load 1 false (.t 22), some (12, false), true, [9]⟩,
⟨some 24, .len false (.t 23), some (12, false), false, []⟩,
⟨some 25, .mv (.t 2), some (12, false), false, []⟩,
⟨some 26, .bin .sub (.t 24) (.t 25), some (12, false), false, []⟩,
⟨some 27, .minmax false (.t 20) [(.t 26)], some (12, false), false, []⟩,
⟨some 28, .bin .geq (.t 18) (.t 27), some (12, false), false, []⟩,
⟨some 29, .pick (.t 12) (.c (.bool true)) (.t 28), none, false, []⟩,
⟨some 8, .mv (.t 29), none, false, []⟩]) .ret))⟩
def a62l0b : ACode := (.seq (.region false [
⟨some 9, .bin .lss (.t 8) (.t 7), none, false, []⟩]) (.seq (.cond (.t 9) .skip (.exit 0)) (.seq (.block 1 (.seq (.region false [
⟨some 10, .mv (.t 8), none, false, []⟩,
⟨some 5, .mv (.t 10), none, false, []⟩]) (.seq (.region false [
⟨some 11, .mv (.t 1), none, false, []⟩,
⟨some 12, .mv (.t 0), none, false, []⟩,
⟨some 13, .mv (.t 5), none, false, []⟩,
⟨some 14, .iaddr 1 (.t 12) (.t 13), none, false, []⟩,
⟨some 15, .load 1 false (.t 14), none, false, []⟩,
⟨some 16, .callv (.t 11) [(.t 15)], none, false, []⟩]) (.cond (.t 16) (.seq (.region false [
⟨some 17, .mv (.t 5), none, false, []⟩,
⟨some 4, .mv (.t 17), none, false, []⟩]) .ret) .skip)))) (.region false [
⟨some 18, .bin .add (.t 8) (.c (.int .i64 1)), none, false, []⟩,
⟨some 8, .mv (.t 18), none, false, []⟩]))))
def a62l0 : ACode := .loop [0, 1, 7, 8] [4] a62l0b
def a62 : AFunc := ⟨19, [.tmp 4], (.seq (.region false [
⟨some 4, .mv (.c (.int .i64 0)), none, false, []⟩]) (.seq (.seq (.region false [
⟨some 6, .mv (.t 0), none, false, []⟩,
⟨some 7, .len false (.t 6), none, false, []⟩,
⟨some 8, .mv (.c (.int .i64 0)), none, false, []⟩]) (.block 0 a62l0)) (.seq (.region false [
⟨some 4, .mv (.c (.int .i64 (-1))), none, false, []⟩]) .ret)))⟩
def a63 : AFunc := ⟨11, [], (.seq (.region false [
⟨some 3, .mv (.t 0), none, false, []⟩,
⟨some 4, .len false (.t 3), none, false, []⟩,
⟨some 2, .mv (.t 4), none, false, []⟩]) (.region false [
⟨some 5, .mv (.t 0), none, false, []⟩,
⟨some 6, .mv (.t 2), none, false, []⟩,
⟨some 7, .mv (.t 2), none, false, []⟩,
⟨some 8, .conv .u64 (.t 7), none, false, []⟩,
⟨some 9, .call 74 [(.t 8)], none, false, []⟩,
⟨some 10, .call 73 [(.t 5), (.c (.int .i64 0)), (.t 6), (.t 9)], none, false, []⟩]))⟩
def a64l0b : ACode := (.seq (.seq (.region false [
⟨some 29, .mv (.t 5), none, false, []⟩,
⟨some 30, .mv (.t 4), none, false, []⟩,
⟨some 31, .len false (.t 30), none, false, []⟩,
⟨some 32, .bin .lss (.t 29) (.t 31), none, false, []⟩]) (.cond (.t 32) .skip (.exit 2))) (.seq (.block 3 (.seq (.region true [
⟨some 35, .mv (.t 4), none, false, []⟩,
⟨some 36, .mv (.t 5), none, false, []⟩,
⟨some 37, .iaddr 1 (.t 35) (.t 36), none, false, []⟩,
⟨some 38, .load 1 false (.t 37), none, false, []⟩,
⟨some 39, .mv (.t 4), none, false, []⟩,
⟨some 40, .mv (.t 5), none, false, []⟩,
⟨some 41, .bin .sub (.t 40) (.c (.int .i64 1)), none, false, []⟩,
⟨some 42, .iaddr 1 (.t 39) (.t 41), none, false, []⟩,
⟨some 43, .load 1 false (.t 42), none, false, []⟩,
⟨some 44, .bin .neq (.t 38) (.t 43), none, false, []⟩]) (.cond (.t 44) (.seq (.region false [
⟨some 45, .mv (.t 0), none, false, []⟩,
⟨some 46, .mv (.t 3), none, false, []⟩,
⟨some 47, .mv (.t 4), none, false, []⟩,
⟨some 48, .mv (.t 5), none, false, []⟩,
⟨some 49, .iaddr 1 (.t 47) (.t 48), none, false, []⟩,
⟨some 50, .load 1 false (.t 49), none, false, []⟩,
⟨some 51, .iaddr 1 (.t 45) (.t 46), none, false, []⟩,
⟨none, .store 1 (.t 51) (.t 50), none, false, []⟩]) (.region false [
⟨some 52, .mv (.t 3), none, false, []⟩,
⟨some 53, .bin .add (.t 52) (.c (.int .i64 1)), none, false, []⟩,
⟨some 3, .mv (.t 53), none, false, []⟩])) .skip))) (.region false [
⟨some 33, .mv (.t 5), none, false, []⟩,
⟨some 34, .bin .add (.t 33) (.c (.int .i64 1)), none, false, []⟩,
⟨some 5, .mv (.t 34), none, false, []⟩])))
def a64l0 : ACode := .loop [0, 3, 4, 5] [0, 2, 3] a64l0b
def a64l1b : ACode := (.seq (.seq (.region false [
⟨some 10, .mv (.t 3), none, false, []⟩,
⟨some 11, .mv (.t 0), none, false, []⟩,
⟨some 12, .len false (.t 11), none, false, []⟩,
⟨some 13, .bin .lss (.t 10) (.t 12), none, false, []⟩]) (.cond (.t 13) .skip (.exit 0))) (.seq (.block 1 (.seq (.region true [
⟨some 16, .mv (.t 0), none, false, []⟩,
⟨some 17, .mv (.t 3), none, false, []⟩,
⟨some 18, .iaddr 1 (.t 16) (.t 17), none, false, []⟩,
⟨some 19, .load 1 false (.t 18), none, false, []⟩,
⟨some 20, .mv (.t 0), none, false, []⟩,
⟨some 21, .mv (.t 3), none, false, []⟩,
⟨some 22, .bin .sub (.t 21) (.c (.int .i64 1)), none, false, []⟩,
⟨some 23, .iaddr 1 (.t 20) (.t 22), none, false, []⟩,
⟨some 24, .load 1 false (.t 23), none, false, []⟩,
⟨some 25, .bin .eql (.t 19) (.t 24), none, false, []⟩]) (.cond (.t 25) (.seq (.region false [
⟨some 26, .mv (.t 0), none, false, []⟩,
⟨some 27, .mv (.t 3), none, false, []⟩,
⟨some 28, .slice 1 (.t 26) (some (.t 27)) none none, none, false, []⟩,
⟨some 4, .mv (.t 28), none, false, []⟩]) (.seq (.seq (.region false [
⟨some 5, .mv (.c (.int .i64 1)), none, false, []⟩]) (.block 2 a64l0)) (.seq (.region false [
⟨some 54, .mv (.t 0), none, false, []⟩,
⟨some 55, .mv (.t 3), none, false, []⟩,
⟨some 56, .slice 1 (.t 54) (some (.t 55)) none none, none, false, []⟩,
⟨none, .clear 3 1 [.int .i64 0] (.t 56), none, false, []⟩]) (.seq (.region false [
⟨some 57, .mv (.t 0), none, false, []⟩,
⟨some 58, .mv (.t 3), none, false, []⟩,
⟨some 59, .slice 1 (.t 57) none (some (.t 58)) none, none, false, []⟩,
⟨some 2, .mv (.t 59), none, false, []⟩]) .ret)))) .skip))) (.region false [
⟨some 14, .mv (.t 3), none, false, []⟩,
⟨some 15, .bin .add (.t 14) (.c (.int .i64 1)), none, false, []⟩,
⟨some 3, .mv (.t 15), none, false, []⟩])))
def a64l1 : ACode := .loop [0, 3] [0, 2] a64l1b
def a64 : AFunc := ⟨61, [.tmp 2], (.seq (.region false [
⟨some 2, .nils 1 (.c (.nilSlice)), none, false, []⟩]) (.seq (.seq (.region false [
⟨some 6, .mv (.t 0), none, false, []⟩,
⟨some 7, .len false (.t 6), none, false, []⟩,
⟨some 8, .bin .lss (.t 7) (.c (.int .i64 2)), none, false, []⟩]) (.cond (.t 8) (.seq (.region false [
⟨some 9, .mv (.t 0), none, false, []⟩,
⟨some 2, .mv (.t 9), none, false, []⟩]) .ret) .skip)) (.seq (.seq (.region false [
⟨some 3, .mv (.c (.int .i64 1)), none, false, []⟩]) (.block 0 a64l1)) (.seq (.region false [
⟨some 60, .mv (.t 0), none, false, []⟩,
⟨some 2, .mv (.t 60), none, false, []⟩]) .ret))))⟩
def a65l0b : ACode := (.seq (.region false [
⟨some 54, .bin .lss (.t 53) (.t 52), none, false, []⟩]) (.seq (.cond (.t 54) .skip (.exit 0)) (.seq (.block 1 (.seq (.region false [
⟨some 55, .mv (.t 53), none, false, []⟩,
⟨some 56, .iaddr 4 (.t 51) (.t 53), none, false, []⟩,
⟨some 57, .load 4 true (.t 56), none, false, []⟩,
⟨some 7, .alloc 73 [.str ByteArray.empty, .int .i64 0, .int .i64 0, .int .i64 0], none, false, []⟩,
⟨some 6, .mv (.t 55), none, false, []⟩,
⟨none, .store 4 (.t 7) (.t 57), none, false, []⟩]) (.seq (.region false [
⟨some 58, .faddr 2 (.t 1), none, false, []⟩,
⟨some 59, .load 1 false (.t 58), none, false, []⟩,
⟨some 60, .mv (.t 6), none, false, []⟩,
⟨some 61, .slice 4 (.t 59) none (some (.t 60)) none, none, false, []⟩,
⟨some 62, .mkf 77 [] [(.t 7)], none, false, []⟩,
⟨some 63, .call 76 [(.t 61), (.t 62)], none, false, []⟩,
⟨some 8, .mv (.t 63), none, false, []⟩]) (.seq (.region false [
⟨some 64, .faddr 1 (.t 7), none, false, []⟩,
⟨some 65, .load 1 false (.t 64), none, false, []⟩,
⟨some 66, .call 47 [(.t 65), (.c (.int .i64 10000))], none, false, []⟩,
⟨some 67, .mv (.t 66), none, false, []⟩,
⟨some 68, .faddr 2 (.t 7), some (67, true), false, []⟩,
⟨some 69, .load 1 false (.t 68), some (67, true), false, []⟩,
⟨some 70, .call 47 [(.t 69), (.c (.int .i64 10000))], some (67, true), false, []⟩,
⟨some 71, .pick (.t 67) (.t 70) (.c (.bool false)), none, false, []⟩,
⟨some 72, .mv (.t 71), none, false, []⟩,
⟨some 73, .faddr 3 (.t 7), some (72, true), false, []⟩,
⟨some 74, .load 1 false (.t 73), some (72, true), false, []⟩,
⟨some 75, .call 27 [(.t 74), (.c (.int .i64 0)), (.c (.int .i64 10000))], some (72, true), false, []⟩,
⟨some 76, .pick (.t 72) (.t 75) (.c (.bool false)), none, false, []⟩,
⟨some 9, .mv (.t 76), none, false, []⟩]) (.seq (.region false [
⟨some 77, .faddr 0 (.t 7), none, false, []⟩,
⟨some 78, .load 1 false (.t 77), none, false, []⟩,
⟨some 79, .call 70 [(.t 78)], none, false, []⟩,
⟨some 80, .call 25 [(.t 79), (.c (.int .i64 4))], none, false, []⟩,
⟨some 81, .mv (.t 8), none, false, []⟩,
⟨some 82, .un .not (.t 81), none, false, []⟩,
⟨some 83, .call 25 [(.t 82), (.c (.int .i64 5))], none, false, []⟩,
⟨some 84, .mv (.t 9), none, false, []⟩,
⟨some 85, .call 25 [(.t 84), (.c (.int .i64 2))], none, false, []⟩,
⟨some 86, .bslice 27 1 3 [.int .i64 0] [(0, (.t 80)), (1, (.t 83)), (2, (.t 85))], none, false, []⟩,
⟨some 87, .call 24 [(.t 86)], none, false, []⟩,
⟨some 10, .mv (.t 87), none, false, []⟩]) (.seq (.region false [
⟨some 88, .mv (.t 10), none, false, []⟩,
⟨some 89, .bin .neq (.t 88) (.c (.int .i64 0)), none, false, []⟩]) (.cond (.t 89) (.seq (.region false [
⟨some 90, .mv (.t 6), none, false, []⟩,
⟨some 91, .mv (.t 10), none, false, []⟩,
⟨some 2, .mv (.t 90), none, false, []⟩,
⟨some 3, .mv (.t 91), none, false, []⟩]) .ret) .skip))))))) (.region false [
⟨some 92, .bin .add (.t 53) (.c (.int .i64 1)), none, false, []⟩,
⟨some 53, .mv (.t 92), none, false, []⟩]))))
def a65l0 : ACode := .loop [1, 51, 52, 53] [2, 3] a65l0b
def a65 : AFunc := ⟨93, [.tmp 2, .tmp 3], (.seq (.region false [
⟨some 1, .box 47 (.t 0), none, false, []⟩,
⟨some 2, .mv (.c (.int .i64 0)), none, false, []⟩,
⟨some 3, .mv (.c (.int .i64 0)), none, false, []⟩]) (.seq (.region false [
⟨some 4, .mv (.c (.func 75 [] [])), none, false, []⟩]) (.seq (.region true [
⟨some 11, .mv (.t 4), none, false, []⟩,
⟨some 12, .faddr 0 (.t 1), none, false, []⟩,
⟨some 13, .load 1 false (.t 12), none, false, []⟩,
⟨some 14, .callv (.t 11) [(.t 13)], none, true, []⟩,
⟨some 15, .mv (.t 14), none, false, []⟩,
⟨some 16, .mv (.t 4), some (15, true), false, []⟩,
⟨some 17, .faddr 1 (.t 1), some (15, true), false, []⟩,
⟨some 18, .load 1 false (.t 17), some (15, true), false, []⟩,
⟨some 19, .callv (.t 16) [(.t 18)], some (15, true), true, []⟩,
⟨some 20, .pick (.t 15) (.t 19) (.c (.bool false)), none, false, []⟩,
⟨some 21, .call 25 [(.t 20), (.c (.int .i64 2))], none, true, []⟩,
⟨some 22, .faddr 0 (.t 1), none, false, []⟩,
⟨some 23, .load 1 false (.t 22), none, true, [3, 8, 10]⟩,
⟨some 24, .faddr 1 (.t 1), none, false, []⟩,
⟨some 25, .load 1 false (.t 24), none, true, [3, 8, 10]⟩,
⟨some 26, .bin .leq (.t 23) (.t 25), none, false, []⟩,
⟨some 27, .call 25 [(.t 26), (.c (.int .i64 9))], none, true, []⟩,
⟨some 28, .faddr 1 (.t 1), none, false, []⟩,
⟨some 29, .load 1 false (.t 28), none, true, [3, 8, 10, 16]⟩,
⟨some 30, .faddr 0 (.t 1), none, false, []⟩,
⟨some 31, .load 1 false (.t 30), none, true, [3, 8, 10, 16]⟩,
⟨some 32, .bin .sub (.t 29) (.t 31), none, false, []⟩,
⟨some 33, .bin .lss (.t 32) (.c (.int .i64 40)), none, false, []⟩,
⟨some 34, .call 25 [(.t 33), (.c (.int .i64 8))], none, true, []⟩,
⟨some 35, .faddr 2 (.t 1), none, false, []⟩,
⟨some 36, .load 1 false (.t 35), none, true, [3, 8, 10, 16, 23]⟩,
⟨some 37, .len false (.t 36), none, false, []⟩,
⟨some 38, .bin .gtr (.t 37) (.c (.int .i64 0)), none, false, []⟩,
⟨some 39, .call 25 [(.t 38), (.c (.int .i64 10))], none, true, []⟩,
⟨some 40, .faddr 2 (.t 1), none, false, []⟩,
⟨some 41, .load 1 false (.t 40), none, true, [3, 8, 10, 16, 23, 28]⟩,
⟨some 42, .len false (.t 41), none, false, []⟩,
⟨some 43, .bin .leq (.t 42) (.c (.int .i64 5)), none, false, []⟩,
⟨some 44, .call 25 [(.t 43), (.c (.int .i64 8))], none, false, []⟩,
⟨some 45, .bslice 27 1 5 [.int .i64 0] [(0, (.t 21)), (1, (.t 27)), (2, (.t 34)), (3, (.t 39)), (4, (.t 44))], none, false, []⟩,
⟨some 46, .call 24 [(.t 45)], none, false, []⟩,
⟨some 5, .mv (.t 46), none, false, []⟩]) (.seq (.seq (.region false [
⟨some 47, .mv (.t 5), none, false, []⟩,
⟨some 48, .bin .neq (.t 47) (.c (.int .i64 0)), none, false, []⟩]) (.cond (.t 48) (.seq (.region false [
⟨some 49, .mv (.t 5), none, false, []⟩,
⟨some 2, .mv (.c (.int .i64 0)), none, false, []⟩,
⟨some 3, .mv (.t 49), none, false, []⟩]) .ret) .skip)) (.seq (.seq (.region false [
⟨some 50, .faddr 2 (.t 1), none, false, []⟩,
⟨some 51, .load 1 false (.t 50), none, false, []⟩,
⟨some 52, .len false (.t 51), none, false, []⟩,
⟨some 53, .mv (.c (.int .i64 0)), none, false, []⟩]) (.block 0 a65l0)) (.seq (.region false [
⟨some 2, .mv (.c (.int .i64 0)), none, false, []⟩,
⟨some 3, .mv (.c (.int .i64 0)), none, false, []⟩]) .ret))))))⟩
def a66 : AFunc := ⟨5, [.tmp 2], (.seq (.region false [
⟨some 2, .mv (.c (.bool false)), none, false, []⟩]) (.seq (.region false [
⟨some 3, .mv (.t 0), none, false, []⟩,
⟨some 4, .call 47 [(.t 3), (.c (.int .i64 10000))], none, false, []⟩,
⟨some 2, .mv (.t 4), none, false, []⟩]) .ret))⟩
def a67l0b : ACode := (.seq (.region false [
⟨some 12, .bin .lss (.t 11) (.t 10), none, false, []⟩]) (.seq (.cond (.t 12) .skip (.exit 0)) (.seq (.block 1 (.seq (.region false [
⟨some 13, .mv (.t 11), none, false, []⟩,
⟨some 5, .mv (.t 13), none, false, []⟩]) (.seq (.region false [
⟨some 14, .load 7 true (.t 1), none, false, []⟩,
⟨some 15, .load 1 false (.t 2), none, false, []⟩,
⟨some 16, .load 1 false (.t 3), none, false, []⟩,
⟨some 17, .mv (.t 5), none, false, []⟩,
⟨some 18, .call 55 [(.t 14), (.t 15), (.t 16), (.t 17)], none, false, []⟩,
⟨some 6, .mv (.t 18), none, false, []⟩]) (.seq (.region false [
⟨some 19, .load 7 true (.t 1), none, false, []⟩,
⟨some 20, .mv (.t 6), none, false, []⟩,
⟨some 21, .call 56 [(.t 19), (.t 20)], none, false, []⟩,
⟨some 22, .mv (.t 21), none, false, []⟩,
⟨some 23, .mv (.t 0), some (22, true), false, []⟩,
⟨some 24, .mv (.t 5), some (22, true), false, []⟩,
⟨some 25, .mv (.t 6), some (22, true), false, []⟩,
⟨some 26, .callv (.t 23) [(.t 24), (.t 25)], some (22, true), false, []⟩,
⟨some 27, .un .not (.t 26), some (22, true), false, []⟩,
⟨some 28, .pick (.t 22) (.t 27) (.c (.bool false)), none, false, []⟩]) (.cond (.t 28) .ret .skip))))) (.region false [
⟨some 29, .bin .add (.t 11) (.c (.int .i64 1)), none, false, []⟩,
⟨some 11, .mv (.t 29), none, false, []⟩]))))
def a67l0 : ACode := .loop [0, 1, 2, 3, 10, 11] [] a67l0b
def a67 : AFunc := ⟨30, [], (.seq (.region false [
⟨some 7, .faddr 0 (.t 1), none, false, []⟩,
⟨some 8, .faddr 2 (.t 7), none, false, []⟩,
⟨some 9, .load 1 false (.t 8), none, false, []⟩,
⟨some 10, .len false (.t 9), none, false, []⟩,
⟨some 11, .mv (.c (.int .i64 0)), none, false, []⟩]) (.block 0 a67l0))⟩
def a68 : AFunc := ⟨9, [.tmp 4], (.seq (.region false [
⟨some 4, .mv (.c (.bool false)), none, false, []⟩]) (.seq (.region false [
⟨some 5, .mv (.t 0), none, false, []⟩,
⟨some 6, .mv (.t 1), none, false, []⟩,
⟨some 7, .call 78 [(.t 5), (.t 6)], none, false, []⟩,
⟨some 8, .bin .geq (.t 7) (.c (.int .i64 0)), none, false, []⟩,
⟨some 4, .mv (.t 8), none, false, []⟩]) .ret))⟩
def a69 : AFunc := ⟨9, [.tmp 3], (.seq (.region false [
⟨some 2, .box 86 (.t 0), none, false, []⟩,
⟨some 3, .mv (.c (.bool false)), none, false, []⟩]) (.seq (.region false [
⟨some 4, .faddr 0 (.t 2), none, false, []⟩,
⟨some 5, .load 1 false (.t 4), none, false, []⟩,
⟨some 6, .faddr 0 (.t 1), none, false, []⟩,
⟨some 7, .load 1 false (.t 6), none, false, []⟩,
⟨some 8, .bin .eql (.t 5) (.t 7), none, false, []⟩,
⟨some 3, .mv (.t 8), none, false, []⟩]) .ret))⟩
def a70l0b : ACode := (.seq (.region false [
⟨some 10, .bin .lss (.t 9) (.t 8), none, false, []⟩]) (.seq (.cond (.t 10) .skip (.exit 0)) (.seq (.block 1 (.seq (.region false [
⟨some 11, .mv (.t 9), none, false, []⟩,
⟨some 12, .iaddr 1 (.t 7) (.t 9), none, false, []⟩,
⟨some 13, .load 1 false (.t 12), none, false, []⟩,
⟨some 3, .mv (.t 11), none, false, []⟩,
⟨some 4, .mv (.t 13), none, false, []⟩]) (.seq (.region false [
⟨some 14, .mv (.t 4), none, false, []⟩,
⟨some 15, .bin .or (.t 14) (.c (.int .u8 32)), none, false, []⟩,
⟨some 16, .conv .i64 (.t 15), none, false, []⟩,
⟨some 17, .call 27 [(.t 16), (.c (.int .i64 97)), (.c (.int .i64 122))], none, false, []⟩,
⟨some 5, .mv (.t 17), none, false, []⟩]) (.seq (.region false [
⟨some 18, .mv (.t 5), none, false, []⟩,
⟨some 19, .un .not (.t 18), none, false, []⟩,
⟨some 20, .mv (.t 19), none, false, []⟩,
⟨some 21, .mv (.t 3), some (20, true), false, []⟩,
⟨some 22, .bin .eql (.t 21) (.c (.int .i64 0)), some (20, true), false, []⟩,
⟨some 23, .mv (.t 22), some (20, true), false, []⟩,
⟨some 24, .mv (.t 4), some (23, false), false, []⟩,
⟨some 25, .bin .neq (.t 24) (.c (.int .u8 45)), some (23, false), false, []⟩,
⟨some 26, .mv (.t 25), some (23, false), false, []⟩,
⟨some 27, .mv (.t 4), some (26, true), false, []⟩,
⟨some 28, .conv .i64 (.t 27), some (26, true), false, []⟩,
⟨some 29, .call 27 [(.t 28), (.c (.int .i64 48)), (.c (.int .i64 57))], some (26, true), false, []⟩,
⟨some 30, .un .not (.t 29), some (26, true), false, []⟩,
⟨some 31, .pick (.t 26) (.t 30) (.c (.bool false)), some (23, false), false, []⟩,
⟨some 32, .pick (.t 23) (.c (.bool true)) (.t 31), some (20, true), false, []⟩,
⟨some 33, .pick (.t 20) (.t 32) (.c (.bool false)), none, false, []⟩]) (.cond (.t 33) (.seq (.region false [
⟨some 2, .mv (.c (.bool false)), none, false, []⟩]) .ret) .skip))))) (.region false [
⟨some 34, .bin .add (.t 9) (.c (.int .i64 1)), none, false, []⟩,
⟨some 9, .mv (.t 34), none, false, []⟩]))))
def a70l0 : ACode := .loop [0, 7, 8, 9] [0, 2] a70l0b
def a70 : AFunc := ⟨38, [.tmp 2], (.seq (.region false [
⟨some 2, .mv (.c (.bool false)), none, false, []⟩]) (.seq (.seq (.region false [
⟨some 6, .mv (.t 0), none, false, []⟩,
⟨some 7, .bytes 5 (.t 6), none, false, []⟩,
⟨some 8, .len false (.t 7), none, false, []⟩,
⟨some 9, .mv (.c (.int .i64 0)), none, false, []⟩]) (.block 0 a70l0)) (.seq (.region false [
⟨some 35, .mv (.t 0), none, false, []⟩,
⟨some 36, .len true (.t 35), none, false, []⟩,
⟨some 37, .call 27 [(.t 36), (.c (.int .i64 1)), (.c (.int .i64 12))], none, false, []⟩,
⟨some 2, .mv (.t 37), none, false, []⟩]) .ret)))⟩
def a71l0b : ACode := (.seq (.seq (.region false [
⟨some 11, .mv (.t 8), none, false, []⟩,
⟨some 12, .mv (.t 1), none, false, []⟩,
⟨some 13, .bin .leq (.t 11) (.t 12), none, false, []⟩]) (.cond (.t 13) .skip (.exit 0))) (.block 1 (.seq (.region false [
⟨some 14, .mv (.t 0), none, false, []⟩,
⟨some 15, .mv (.t 7), none, false, []⟩,
⟨some 16, .mv (.t 8), none, false, []⟩,
⟨some 17, .mv (.t 2), none, false, []⟩,
⟨some 18, .call 79 [(.t 14), (.t 15), (.t 16), (.t 17)], none, false, []⟩]) (.seq (.region false [
⟨some 19, .mv (.t 8), none, false, []⟩,
⟨some 7, .mv (.t 19), none, false, []⟩]) (.region false [
⟨some 20, .mv (.t 8), none, false, []⟩,
⟨some 21, .mv (.t 6), none, false, []⟩,
⟨some 22, .bin .add (.t 20) (.t 21), none, false, []⟩,
⟨some 8, .mv (.t 22), none, false, []⟩])))))
def a71l0 : ACode := .loop [0, 1, 2, 6, 7, 8] [0, 1, 2, 6, 7] a71l0b
def a71l1b : ACode := (.seq (.seq (.region false [
⟨some 33, .mv (.t 8), none, false, []⟩,
⟨some 34, .mv (.t 1), none, false, []⟩,
⟨some 35, .bin .leq (.t 33) (.t 34), none, false, []⟩]) (.cond (.t 35) .skip (.exit 4))) (.block 5 (.seq (.region false [
⟨some 36, .mv (.t 0), none, false, []⟩,
⟨some 37, .mv (.t 7), none, false, []⟩,
⟨some 38, .mv (.t 7), none, false, []⟩,
⟨some 39, .mv (.t 6), none, false, []⟩,
⟨some 40, .bin .add (.t 38) (.t 39), none, false, []⟩,
⟨some 41, .mv (.t 8), none, false, []⟩,
⟨some 42, .mv (.t 2), none, false, []⟩,
⟨some 43, .call 80 [(.t 36), (.t 37), (.t 40), (.t 41), (.t 42)], none, false, []⟩]) (.seq (.region false [
⟨some 44, .mv (.t 8), none, false, []⟩,
⟨some 7, .mv (.t 44), none, false, []⟩]) (.region false [
⟨some 45, .mv (.t 8), none, false, []⟩,
⟨some 46, .mv (.t 6), none, false, []⟩,
⟨some 47, .bin .mul (.c (.int .i64 2)) (.t 46), none, false, []⟩,
⟨some 48, .bin .add (.t 45) (.t 47), none, false, []⟩,
⟨some 8, .mv (.t 48), none, false, []⟩])))))
def a71l1 : ACode := .loop [0, 1, 2, 6, 7, 8] [0, 1, 2, 6, 7] a71l1b
def a71l2b : ACode := (.seq (.seq (.region false [
⟨some 28, .mv (.t 6), none, false, []⟩,
⟨some 29, .mv (.t 1), none, false, []⟩,
⟨some 30, .bin .lss (.t 28) (.t 29), none, false, []⟩]) (.cond (.t 30) .skip (.exit 2))) (.block 3 (.seq (.region false [
⟨some 31, .mv (.t 6), none, false, []⟩,
⟨some 32, .bin .mul (.c (.int .i64 2)) (.t 31), none, false, []⟩,
⟨some 7, .mv (.c (.int .i64 0)), none, false, []⟩,
⟨some 8, .mv (.t 32), none, false, []⟩]) (.seq (.block 4 a71l1) (.seq (.seq (.region false [
⟨some 49, .mv (.t 7), none, false, []⟩,
⟨some 50, .mv (.t 6), none, false, []⟩,
⟨some 51, .bin .add (.t 49) (.t 50), none, false, []⟩,
⟨some 9, .mv (.t 51), none, false, []⟩]) (.seq (.region false [
⟨some 52, .mv (.t 9), none, false, []⟩,
⟨some 53, .mv (.t 1), none, false, []⟩,
⟨some 54, .bin .lss (.t 52) (.t 53), none, false, []⟩]) (.cond (.t 54) (.region false [
⟨some 55, .mv (.t 0), none, false, []⟩,
⟨some 56, .mv (.t 7), none, false, []⟩,
⟨some 57, .mv (.t 9), none, false, []⟩,
⟨some 58, .mv (.t 1), none, false, []⟩,
⟨some 59, .mv (.t 2), none, false, []⟩,
⟨some 60, .call 80 [(.t 55), (.t 56), (.t 57), (.t 58), (.t 59)], none, false, []⟩]) .skip))) (.region false [
⟨some 61, .mv (.t 6), none, false, []⟩,
⟨some 62, .bin .mul (.t 61) (.c (.int .i64 2)), none, false, []⟩,
⟨some 6, .mv (.t 62), none, false, []⟩]))))))
def a71l2 : ACode := .loop [0, 1, 2, 6] [] a71l2b
def a71 : AFunc := ⟨63, [], (.seq (.region false [
⟨some 6, .mv (.c (.int .i64 20)), none, false, []⟩]) (.seq (.region false [
⟨some 10, .mv (.t 6), none, false, []⟩,
⟨some 7, .mv (.c (.int .i64 0)), none, false, []⟩,
⟨some 8, .mv (.t 10), none, false, []⟩]) (.seq (.block 0 a71l0) (.seq (.region false [
⟨some 23, .mv (.t 0), none, false, []⟩,
⟨some 24, .mv (.t 7), none, false, []⟩,
⟨some 25, .mv (.t 1), none, false, []⟩,
⟨some 26, .mv (.t 2), none, false, []⟩,
⟨some 27, .call 79 [(.t 23), (.t 24), (.t 25), (.t 26)], none, false, []⟩]) (.block 2 a71l2)))))⟩
def a72 : AFunc := ⟨30, [.tmp 4, .tmp 5], (.seq (.region false [
⟨some 4, .mv (.c (.int .u64 0)), none, false, []⟩,
⟨some 5, .mv (.c (.int .u64 0)), none, false, []⟩]) (.seq (.cond (.c (.bool false)) (.seq (.region false [
⟨some 11, .mv (.t 0), none, false, []⟩,
⟨some 12, .conv .u32 (.t 11), none, false, []⟩,
⟨some 13, .mv (.t 1), none, false, []⟩,
⟨some 14, .conv .u32 (.t 13), none, false, []⟩,
⟨some 15, .call 81 [(.t 12), (.t 14)], none, false, []⟩,
⟨some 10, .mv (.t 15), none, false, []⟩,
⟨some 16, .ext (.t 10) 0, none, false, []⟩,
⟨some 17, .ext (.t 10) 1, none, false, []⟩,
⟨some 6, .mv (.t 16), none, false, []⟩,
⟨some 7, .mv (.t 17), none, false, []⟩]) (.seq (.region false [
⟨some 18, .mv (.t 6), none, false, []⟩,
⟨some 19, .conv .u64 (.t 18), none, false, []⟩,
⟨some 20, .mv (.t 7), none, false, []⟩,
⟨some 21, .conv .u64 (.t 20), none, false, []⟩,
⟨some 4, .mv (.t 19), none, false, []⟩,
⟨some 5, .mv (.t 21), none, false, []⟩]) .ret)) .skip) (.seq (.region false [
⟨some 23, .mv (.t 0), none, false, []⟩,
⟨some 24, .mv (.t 1), none, false, []⟩,
⟨some 25, .call 82 [(.t 23), (.t 24)], none, false, []⟩,
⟨some 22, .mv (.t 25), none, false, []⟩,
⟨some 26, .ext (.t 22) 0, none, false, []⟩,
⟨some 27, .ext (.t 22) 1, none, false, []⟩,
⟨some 8, .mv (.t 26), none, false, []⟩,
⟨some 9, .mv (.t 27), none, false, []⟩]) (.seq (.region false [
⟨some 28, .mv (.t 8), none, false, []⟩,
⟨some 29, .mv (.t 9), none, false, []⟩,
⟨some 4, .mv (.t 28), none, false, []⟩,
⟨some 5, .mv (.t 29), none, false, []⟩]) .ret))))⟩
def a73l0b : ACode := (.block 1 (.seq (.region false [
⟨some 19, .mv (.t 2), none, false, []⟩,
⟨some 20, .mv (.t 1), none, false, []⟩,
⟨some 21, .bin .sub (.t 19) (.t 20), none, false, []⟩,
⟨some 10, .mv (.t 21), none, false, []⟩]) (.seq (.seq (.region false [
⟨some 22, .mv (.t 10), none, false, []⟩,
⟨some 23, .bin .leq (.t 22) (.c (.int .i64 12)), none, false, []⟩]) (.cond (.t 23) (.seq (.region false [
⟨some 24, .mv (.t 0), none, false, []⟩,
⟨some 25, .mv (.t 1), none, false, []⟩,
⟨some 26, .mv (.t 2), none, false, []⟩,
⟨some 27, .call 83 [(.t 24), (.t 25), (.t 26)], none, false, []⟩]) .ret) .skip)) (.seq (.seq (.region false [
⟨some 28, .mv (.t 3), none, false, []⟩,
⟨some 29, .bin .eql (.t 28) (.c (.int .i64 0)), none, false, []⟩]) (.cond (.t 29) (.seq (.region false [
⟨some 30, .mv (.t 0), none, false, []⟩,
⟨some 31, .mv (.t 1), none, false, []⟩,
⟨some 32, .mv (.t 2), none, false, []⟩,
⟨some 33, .call 84 [(.t 30), (.t 31), (.t 32)], none, false, []⟩]) .ret) .skip)) (.seq (.seq (.region false [
⟨some 34, .mv (.t 8), none, false, []⟩,
⟨some 35, .un .not (.t 34), none, false, []⟩]) (.cond (.t 35) (.seq (.region false [
⟨some 36, .mv (.t 0), none, false, []⟩,
⟨some 37, .mv (.t 1), none, false, []⟩,
⟨some 38, .mv (.t 2), none, false, []⟩,
⟨some 39, .call 85 [(.t 36), (.t 37), (.t 38)], none, false, []⟩]) (.region false [
⟨some 40, .mv (.t 3), none, false, []⟩,
⟨some 41, .bin .sub (.t 40) (.c (.int .i64 1)), none, false, []⟩,
⟨some 3, .mv (.t 41), none, false, []⟩])) .skip)) (.seq (.region false [
⟨some 43, .mv (.t 0), none, false, []⟩,
⟨some 44, .mv (.t 1), none, false, []⟩,
⟨some 45, .mv (.t 2), none, false, []⟩,
⟨some 46, .call 86 [(.t 43), (.t 44), (.t 45)], none, false, []⟩,
⟨some 42, .mv (.t 46), none, false, []⟩,
⟨some 47, .ext (.t 42) 0, none, false, []⟩,
⟨some 48, .ext (.t 42) 1, none, false, []⟩,
⟨some 11, .mv (.t 47), none, false, []⟩,
⟨some 12, .mv (.t 48), none, false, []⟩]) (.seq (.seq (.region false [
⟨some 49, .mv (.t 12), none, false, []⟩,
⟨some 50, .bin .eql (.t 49) (.c (.int .i64 2)), none, false, []⟩]) (.cond (.t 50) (.seq (.region false [
⟨some 51, .mv (.t 0), none, false, []⟩,
⟨some 52, .mv (.t 1), none, false, []⟩,
⟨some 53, .mv (.t 2), none, false, []⟩,
⟨some 54, .call 87 [(.t 51), (.t 52), (.t 53)], none, false, []⟩]) (.seq (.region false [
⟨some 55, .mv (.t 2), none, false, []⟩,
⟨some 56, .bin .sub (.t 55) (.c (.int .i64 1)), none, false, []⟩,
⟨some 57, .mv (.t 11), none, false, []⟩,
⟨some 58, .mv (.t 1), none, false, []⟩,
⟨some 59, .bin .sub (.t 57) (.t 58), none, false, []⟩,
⟨some 60, .bin .sub (.t 56) (.t 59), none, false, []⟩,
⟨some 11, .mv (.t 60), none, false, []⟩]) (.region false [
⟨some 12, .mv (.c (.int .i64 1)), none, false, []⟩]))) .skip)) (.seq (.seq (.region false [
⟨some 61, .mv (.t 8), none, false, []⟩,
⟨some 62, .mv (.t 61), none, false, []⟩,
⟨some 63, .mv (.t 9), some (62, true), false, []⟩,
⟨some 64, .pick (.t 62) (.t 63) (.c (.bool false)), none, false, []⟩,
⟨some 65, .mv (.t 64), none, false, []⟩,
⟨some 66, .mv (.t 12), some (65, true), false, []⟩,
⟨some 67, .bin .eql (.t 66) (.c (.int .i64 1)), some (65, true), false, []⟩,
⟨some 68, .pick (.t 65) (.t 67) (.c (.bool false)), none, false, []⟩]) (.cond (.t 68) (.seq (.region false [
⟨some 69, .mv (.t 0), none, false, []⟩,
⟨some 70, .mv (.t 1), none, false, []⟩,
⟨some 71, .mv (.t 2), none, false, []⟩,
⟨some 72, .call 88 [(.t 69), (.t 70), (.t 71)], none, false, []⟩]) (.cond (.t 72) .ret .skip)) .skip)) (.seq (.seq (.region true [
⟨some 73, .mv (.t 1), none, false, []⟩,
⟨some 74, .bin .gtr (.t 73) (.c (.int .i64 0)), none, false, []⟩,
⟨some 75, .mv (.t 74), none, false, []⟩,
⟨some 76, .mv (.t 0), some (75, true), false, []⟩,
⟨some 77, .mv (.t 1), some (75, true), false, []⟩,
⟨some 78, .bin .sub (.t 77) (.c (.int .i64 1)), some (75, true), false, []⟩,
⟨some 79, .iaddr 1 (.t 76) (.t 78), some (75, true), false, []⟩,
⟨some 80, .load 1 false (.t 79), some (75, true), false, []⟩,
⟨some 81, .mv (.t 0), some (75, true), false, []⟩,
⟨some 82, .mv (.t 11), some (75, true), false, []⟩,
⟨some 83, .iaddr 1 (.t 81) (.t 82), some (75, true), false, []⟩,
⟨some 84, .load 1 false (.t 83), some (75, true), false, []⟩,
⟨some 85, .call 89 [(.t 80), (.t 84)], some (75, true), false, []⟩,
⟨some 86, .un .not (.t 85), some (75, true), false, []⟩,
⟨some 87, .pick (.t 75) (.t 86) (.c (.bool false)), none, false, []⟩]) (.cond (.t 87) (.seq (.region false [
⟨some 88, .mv (.t 0), none, false, []⟩,
⟨some 89, .mv (.t 1), none, false, []⟩,
⟨some 90, .mv (.t 2), none, false, []⟩,
⟨some 91, .mv (.t 11), none, false, []⟩,
⟨some 92, .call 90 [(.t 88), (.t 89), (.t 90), (.t 91)], none, false, []⟩,
⟨some 13, .mv (.t 92), none, false, []⟩]) (.seq (.region false [
⟨some 93, .mv (.t 13), none, false, []⟩,
⟨some 1, .mv (.t 93), none, false, []⟩]) (.exit 1))) .skip)) (.seq (.region false [
⟨some 95, .mv (.t 0), none, false, []⟩,
⟨some 96, .mv (.t 1), none, false, []⟩,
⟨some 97, .mv (.t 2), none, false, []⟩,
⟨some 98, .mv (.t 11), none, false, []⟩,
⟨some 99, .call 91 [(.t 95), (.t 96), (.t 97), (.t 98)], none, false, []⟩,
⟨some 94, .mv (.t 99), none, false, []⟩,
⟨some 100, .ext (.t 94) 0, none, false, []⟩,
⟨some 101, .ext (.t 94) 1, none, false, []⟩,
⟨some 14, .mv (.t 100), none, false, []⟩,
⟨some 15, .mv (.t 101), none, false, []⟩]) (.seq (.region false [
⟨some 102, .mv (.t 15), none, false, []⟩,
⟨some 9, .mv (.t 102), none, false, []⟩]) (.seq (.region false [
⟨some 103, .mv (.t 14), none, false, []⟩,
⟨some 104, .mv (.t 1), none, false, []⟩,
⟨some 105, .bin .sub (.t 103) (.t 104), none, false, []⟩,
⟨some 106, .mv (.t 2), none, false, []⟩,
⟨some 107, .mv (.t 14), none, false, []⟩,
⟨some 108, .bin .sub (.t 106) (.t 107), none, false, []⟩,
⟨some 16, .mv (.t 105), none, false, []⟩,
⟨some 17, .mv (.t 108), none, false, []⟩]) (.seq (.region false [
⟨some 109, .mv (.t 10), none, false, []⟩,
⟨some 110, .bin .quo (.t 109) (.c (.int .i64 8)), none, false, []⟩,
⟨some 18, .mv (.t 110), none, false, []⟩]) (.seq (.region false [
⟨some 111, .mv (.t 16), none, false, []⟩,
⟨some 112, .mv (.t 17), none, false, []⟩,
⟨some 113, .bin .lss (.t 111) (.t 112), none, false, []⟩]) (.cond (.t 113) (.seq (.region false [
⟨some 114, .mv (.t 16), none, false, []⟩,
⟨some 115, .mv (.t 18), none, false, []⟩,
⟨some 116, .bin .geq (.t 114) (.t 115), none, false, []⟩,
⟨some 8, .mv (.t 116), none, false, []⟩]) (.seq (.region false [
⟨some 117, .mv (.t 0), none, false, []⟩,
⟨some 118, .mv (.t 1), none, false, []⟩,
⟨some 119, .mv (.t 14), none, false, []⟩,
⟨some 120, .mv (.t 3), none, false, []⟩,
⟨some 121, .call 73 [(.t 117), (.t 118), (.t 119), (.t 120)], none, false, []⟩]) (.region false [
⟨some 122, .mv (.t 14), none, false, []⟩,
⟨some 123, .bin .add (.t 122) (.c (.int .i64 1)), none, false, []⟩,
⟨some 1, .mv (.t 123), none, false, []⟩]))) (.seq (.region false [
⟨some 124, .mv (.t 17), none, false, []⟩,
⟨some 125, .mv (.t 18), none, false, []⟩,
⟨some 126, .bin .geq (.t 124) (.t 125), none, false, []⟩,
⟨some 8, .mv (.t 126), none, false, []⟩]) (.seq (.region false [
⟨some 127, .mv (.t 0), none, false, []⟩,
⟨some 128, .mv (.t 14), none, false, []⟩,
⟨some 129, .bin .add (.t 128) (.c (.int .i64 1)), none, false, []⟩,
⟨some 130, .mv (.t 2), none, false, []⟩,
⟨some 131, .mv (.t 3), none, false, []⟩,
⟨some 132, .call 73 [(.t 127), (.t 129), (.t 130), (.t 131)], none, false, []⟩]) (.region false [
⟨some 133, .mv (.t 14), none, false, []⟩,
⟨some 2, .mv (.t 133), none, false, []⟩]))))))))))))))))))
def a73l0 : ACode := .loop [0, 1, 2, 3, 8, 9] [] a73l0b
def a73 : AFunc := ⟨134, [], (.seq (.region false [
⟨some 8, .mv (.c (.bool true)), none, false, []⟩]) (.seq (.region false [
⟨some 9, .mv (.c (.bool true)), none, false, []⟩]) (.block 0 a73l0)))⟩
def a74 : AFunc := ⟨8, [.tmp 2], (.seq (.region false [
⟨some 2, .mv (.c (.int .i64 0)), none, false, []⟩]) (.seq (.cond (.c (.bool false)) (.seq (.region false [
⟨some 3, .mv (.t 0), none, false, []⟩,
⟨some 4, .conv .u32 (.t 3), none, false, []⟩,
⟨some 5, .call 92 [(.t 4)], none, false, []⟩,
⟨some 2, .mv (.t 5), none, false, []⟩]) .ret) .skip) (.seq (.region false [
⟨some 6, .mv (.t 0), none, false, []⟩,
⟨some 7, .call 93 [(.t 6)], none, false, []⟩,
⟨some 2, .mv (.t 7), none, false, []⟩]) .ret)))⟩
def a75 : AFunc := ⟨5, [.tmp 2], (.seq (.region false [
⟨some 2, .mv (.c (.bool false)), none, false, []⟩]) (.seq (.region false [
⟨some 3, .mv (.t 0), none, false, []⟩,
⟨some 4, .call 27 [(.t 3), (.c (.int .i64 0)), (.c (.int .i64 1000000))], none, false, []⟩,
⟨some 2, .mv (.t 4), none, false, []⟩]) .ret))⟩
def a76 : AFunc := ⟨9, [.tmp 4], (.seq (.region false [
⟨some 4, .mv (.c (.bool false)), none, false, []⟩]) (.seq (.region false [
⟨some 5, .mv (.t 0), none, false, []⟩,
⟨some 6, .mv (.t 1), none, false, []⟩,
⟨some 7, .call 94 [(.t 5), (.t 6)], none, false, []⟩,
⟨some 8, .bin .geq (.t 7) (.c (.int .i64 0)), none, false, []⟩,
⟨some 4, .mv (.t 8), none, false, []⟩]) .ret))⟩
def a77 : AFunc := ⟨9, [.tmp 3], (.seq (.region false [
⟨some 2, .box 73 (.t 0), none, false, []⟩,
⟨some 3, .mv (.c (.bool false)), none, false, []⟩]) (.seq (.region false [
⟨some 4, .faddr 0 (.t 2), none, false, []⟩,
⟨some 5, .load 1 false (.t 4), none, false, []⟩,
⟨some 6, .faddr 0 (.t 1), none, false, []⟩,
⟨some 7, .load 1 false (.t 6), none, false, []⟩,
⟨some 8, .bin .eql (.t 5) (.t 7), none, false, []⟩,
⟨some 3, .mv (.t 8), none, false, []⟩]) .ret))⟩
def a78l0b : ACode := (.seq (.region false [
⟨some 9, .bin .lss (.t 8) (.t 7), none, false, []⟩]) (.seq (.cond (.t 9) .skip (.exit 0)) (.seq (.block 1 (.seq (.region false [
⟨some 10, .mv (.t 8), none, false, []⟩,
⟨some 5, .mv (.t 10), none, false, []⟩]) (.seq (.region false [
⟨some 11, .mv (.t 1), none, false, []⟩,
⟨some 12, .mv (.t 0), none, false, []⟩,
⟨some 13, .mv (.t 5), none, false, []⟩,
⟨some 14, .iaddr 3 (.t 12) (.t 13), none, false, []⟩,
⟨some 15, .load 3 true (.t 14), none, false, []⟩,
⟨some 16, .callv (.t 11) [(.t 15)], none, false, []⟩]) (.cond (.t 16) (.seq (.region false [
⟨some 17, .mv (.t 5), none, false, []⟩,
⟨some 4, .mv (.t 17), none, false, []⟩]) .ret) .skip)))) (.region false [
⟨some 18, .bin .add (.t 8) (.c (.int .i64 1)), none, false, []⟩,
⟨some 8, .mv (.t 18), none, false, []⟩]))))
def a78l0 : ACode := .loop [0, 1, 7, 8] [4] a78l0b
def a78 : AFunc := ⟨19, [.tmp 4], (.seq (.region false [
⟨some 4, .mv (.c (.int .i64 0)), none, false, []⟩]) (.seq (.seq (.region false [
⟨some 6, .mv (.t 0), none, false, []⟩,
⟨some 7, .len false (.t 6), none, false, []⟩,
⟨some 8, .mv (.c (.int .i64 0)), none, false, []⟩]) (.block 0 a78l0)) (.seq (.region false [
⟨some 4, .mv (.c (.int .i64 (-1))), none, false, []⟩]) .ret)))⟩
def a79l0b : ACode := (.seq (.seq (.region true [
⟨some 18, .mv (.t 9), none, false, []⟩,
⟨some 19, .mv (.t 1), none, false, []⟩,
⟨some 20, .bin .gtr (.t 18) (.t 19), none, false, []⟩,
⟨some 21, .mv (.t 20), none, false, []⟩,
⟨some 22, .mv (.t 3), some (21, true), false, []⟩,
⟨some 23, .mv (.t 0), some (21, true), false, []⟩,
⟨some 24, .mv (.t 9), some (21, true), false, []⟩,
⟨some 25, .iaddr 1 (.t 23) (.t 24), some (21, true), false, []⟩,
⟨some 26, .load 1 false (.t 25), some (21, true), false, []⟩,
⟨some 27, .mv (.t 0), some (21, true), false, []⟩,
⟨some 28, .mv (.t 9), some (21, true), false, []⟩,
⟨some 29, .bin .sub (.t 28) (.c (.int .i64 1)), some (21, true), false, []⟩,
⟨some 30, .iaddr 1 (.t 27) (.t 29), some (21, true), false, []⟩,
⟨some 31, .load 1 false (.t 30), some (21, true), false, []⟩,
⟨some 32, .callv (.t 22) [(.t 26), (.t 31)], some (21, true), false, []⟩,
⟨some 33, .bin .lss (.t 32) (.c (.int .i64 0)), some (21, true), false, []⟩,
⟨some 34, .pick (.t 21) (.t 33) (.c (.bool false)), none, false, []⟩]) (.cond (.t 34) .skip (.exit 2))) (.seq (.block 3 (.region true [
⟨some 37, .mv (.t 0), none, false, []⟩,
⟨some 38, .mv (.t 9), none, false, []⟩,
⟨some 39, .mv (.t 0), none, false, []⟩,
⟨some 40, .mv (.t 9), none, false, []⟩,
⟨some 41, .bin .sub (.t 40) (.c (.int .i64 1)), none, false, []⟩,
⟨some 42, .mv (.t 0), none, false, []⟩,
⟨some 43, .mv (.t 9), none, false, []⟩,
⟨some 44, .bin .sub (.t 43) (.c (.int .i64 1)), none, false, []⟩,
⟨some 45, .iaddr 1 (.t 42) (.t 44), none, false, []⟩,
⟨some 46, .load 1 false (.t 45), none, false, []⟩,
⟨some 47, .mv (.t 0), none, false, []⟩,
⟨some 48, .mv (.t 9), none, false, []⟩,
⟨some 49, .iaddr 1 (.t 47) (.t 48), none, false, []⟩,
⟨some 50, .load 1 false (.t 49), none, false, []⟩,
⟨some 51, .iaddr 1 (.t 37) (.t 38), none, false, []⟩,
⟨none, .store 1 (.t 51) (.t 46), none, false, []⟩,
⟨some 52, .iaddr 1 (.t 39) (.t 41), none, false, []⟩,
⟨none, .store 1 (.t 52) (.t 50), none, false, []⟩])) (.region false [
⟨some 35, .mv (.t 9), none, false, []⟩,
⟨some 36, .bin .sub (.t 35) (.c (.int .i64 1)), none, false, []⟩,
⟨some 9, .mv (.t 36), none, false, []⟩])))
def a79l0 : ACode := .loop [0, 1, 2, 3, 8, 9] [0, 1, 2, 3, 8] a79l0b
def a79l1b : ACode := (.seq (.seq (.region false [
⟨some 12, .mv (.t 8), none, false, []⟩,
⟨some 13, .mv (.t 2), none, false, []⟩,
⟨some 14, .bin .lss (.t 12) (.t 13), none, false, []⟩]) (.cond (.t 14) .skip (.exit 0))) (.seq (.block 1 (.seq (.region false [
⟨some 17, .mv (.t 8), none, false, []⟩,
⟨some 9, .mv (.t 17), none, false, []⟩]) (.block 2 a79l0))) (.region false [
⟨some 15, .mv (.t 8), none, false, []⟩,
⟨some 16, .bin .add (.t 15) (.c (.int .i64 1)), none, false, []⟩,
⟨some 8, .mv (.t 16), none, false, []⟩])))
def a79l1 : ACode := .loop [0, 1, 2, 3, 8] [] a79l1b
def a79 : AFunc := ⟨53, [], (.seq (.region false [
⟨some 10, .mv (.t 1), none, false, []⟩,
⟨some 11, .bin .add (.t 10) (.c (.int .i64 1)), none, false, []⟩,
⟨some 8, .mv (.t 11), none, false, []⟩]) (.block 0 a79l1))⟩
def a80l0b : ACode := (.seq (.seq (.region false [
⟨some 31, .mv (.t 10), none, false, []⟩,
⟨some 32, .mv (.t 11), none, false, []⟩,
⟨some 33, .bin .lss (.t 31) (.t 32), none, false, []⟩]) (.cond (.t 33) .skip (.exit 0))) (.block 1 (.seq (.region false [
⟨some 34, .mv (.t 10), none, false, []⟩,
⟨some 35, .mv (.t 11), none, false, []⟩,
⟨some 36, .bin .add (.t 34) (.t 35), none, false, []⟩,
⟨some 37, .conv .u64 (.t 36), none, false, []⟩,
⟨some 38, .bin .shr (.t 37) (.c (.int .u64 1)), none, false, []⟩,
⟨some 39, .conv .i64 (.t 38), none, false, []⟩,
⟨some 12, .mv (.t 39), none, false, []⟩]) (.seq (.region true [
⟨some 40, .mv (.t 4), none, false, []⟩,
⟨some 41, .mv (.t 0), none, false, []⟩,
⟨some 42, .mv (.t 12), none, false, []⟩,
⟨some 43, .iaddr 1 (.t 41) (.t 42), none, false, []⟩,
⟨some 44, .load 1 false (.t 43), none, false, []⟩,
⟨some 45, .mv (.t 0), none, false, []⟩,
⟨some 46, .mv (.t 1), none, false, []⟩,
⟨some 47, .iaddr 1 (.t 45) (.t 46), none, false, []⟩,
⟨some 48, .load 1 false (.t 47), none, false, []⟩,
⟨some 49, .callv (.t 40) [(.t 44), (.t 48)], none, false, []⟩,
⟨some 50, .bin .lss (.t 49) (.c (.int .i64 0)), none, false, []⟩]) (.cond (.t 50) (.region false [
⟨some 51, .mv (.t 12), none, false, []⟩,
⟨some 52, .bin .add (.t 51) (.c (.int .i64 1)), none, false, []⟩,
⟨some 10, .mv (.t 52), none, false, []⟩]) (.region false [
⟨some 53, .mv (.t 12), none, false, []⟩,
⟨some 11, .mv (.t 53), none, false, []⟩]))))))
def a80l0 : ACode := .loop [0, 1, 4, 10, 11] [0, 1, 10] a80l0b
def a80l1b : ACode := (.seq (.seq (.region false [
⟨some 55, .mv (.t 13), none, false, []⟩,
⟨some 56, .mv (.t 10), none, false, []⟩,
⟨some 57, .bin .sub (.t 56) (.c (.int .i64 1)), none, false, []⟩,
⟨some 58, .bin .lss (.t 55) (.t 57), none, false, []⟩]) (.cond (.t 58) .skip (.exit 2))) (.seq (.block 3 (.region true [
⟨some 61, .mv (.t 0), none, false, []⟩,
⟨some 62, .mv (.t 13), none, false, []⟩,
⟨some 63, .mv (.t 0), none, false, []⟩,
⟨some 64, .mv (.t 13), none, false, []⟩,
⟨some 65, .bin .add (.t 64) (.c (.int .i64 1)), none, false, []⟩,
⟨some 66, .mv (.t 0), none, false, []⟩,
⟨some 67, .mv (.t 13), none, false, []⟩,
⟨some 68, .bin .add (.t 67) (.c (.int .i64 1)), none, false, []⟩,
⟨some 69, .iaddr 1 (.t 66) (.t 68), none, false, []⟩,
⟨some 70, .load 1 false (.t 69), none, false, []⟩,
⟨some 71, .mv (.t 0), none, false, []⟩,
⟨some 72, .mv (.t 13), none, false, []⟩,
⟨some 73, .iaddr 1 (.t 71) (.t 72), none, false, []⟩,
⟨some 74, .load 1 false (.t 73), none, false, []⟩,
⟨some 75, .iaddr 1 (.t 61) (.t 62), none, false, []⟩,
⟨none, .store 1 (.t 75) (.t 70), none, false, []⟩,
⟨some 76, .iaddr 1 (.t 63) (.t 65), none, false, []⟩,
⟨none, .store 1 (.t 76) (.t 74), none, false, []⟩])) (.region false [
⟨some 59, .mv (.t 13), none, false, []⟩,
⟨some 60, .bin .add (.t 59) (.c (.int .i64 1)), none, false, []⟩,
⟨some 13, .mv (.t 60), none, false, []⟩])))
def a80l1 : ACode := .loop [0, 10, 13] [] a80l1b
def a80l2b : ACode := (.seq (.seq (.region false [
⟨some 83, .mv (.t 14), none, false, []⟩,
⟨some 84, .mv (.t 15), none, false, []⟩,
⟨some 85, .bin .lss (.t 83) (.t 84), none, false, []⟩]) (.cond (.t 85) .skip (.exit 4))) (.block 5 (.seq (.region false [
⟨some 86, .mv (.t 14), none, false, []⟩,
⟨some 87, .mv (.t 15), none, false, []⟩,
⟨some 88, .bin .add (.t 86) (.t 87), none, false, []⟩,
⟨some 89, .conv .u64 (.t 88), none, false, []⟩,
⟨some 90, .bin .shr (.t 89) (.c (.int .u64 1)), none, false, []⟩,
⟨some 91, .conv .i64 (.t 90), none, false, []⟩,
⟨some 16, .mv (.t 91), none, false, []⟩]) (.seq (.region true [
⟨some 92, .mv (.t 4), none, false, []⟩,
⟨some 93, .mv (.t 0), none, false, []⟩,
⟨some 94, .mv (.t 2), none, false, []⟩,
⟨some 95, .iaddr 1 (.t 93) (.t 94), none, false, []⟩,
⟨some 96, .load 1 false (.t 95), none, false, []⟩,
⟨some 97, .mv (.t 0), none, false, []⟩,
⟨some 98, .mv (.t 16), none, false, []⟩,
⟨some 99, .iaddr 1 (.t 97) (.t 98), none, false, []⟩,
⟨some 100, .load 1 false (.t 99), none, false, []⟩,
⟨some 101, .callv (.t 92) [(.t 96), (.t 100)], none, false, []⟩,
⟨some 102, .bin .lss (.t 101) (.c (.int .i64 0)), none, false, []⟩,
⟨some 103, .un .not (.t 102), none, false, []⟩]) (.cond (.t 103) (.region false [
⟨some 104, .mv (.t 16), none, false, []⟩,
⟨some 105, .bin .add (.t 104) (.c (.int .i64 1)), none, false, []⟩,
⟨some 14, .mv (.t 105), none, false, []⟩]) (.region false [
⟨some 106, .mv (.t 16), none, false, []⟩,
⟨some 15, .mv (.t 106), none, false, []⟩]))))))
def a80l2 : ACode := .loop [0, 2, 4, 14, 15] [0, 2, 14] a80l2b
def a80l3b : ACode := (.seq (.seq (.region false [
⟨some 108, .mv (.t 17), none, false, []⟩,
⟨some 109, .mv (.t 14), none, false, []⟩,
⟨some 110, .bin .gtr (.t 108) (.t 109), none, false, []⟩]) (.cond (.t 110) .skip (.exit 6))) (.seq (.block 7 (.region true [
⟨some 113, .mv (.t 0), none, false, []⟩,
⟨some 114, .mv (.t 17), none, false, []⟩,
⟨some 115, .mv (.t 0), none, false, []⟩,
⟨some 116, .mv (.t 17), none, false, []⟩,
⟨some 117, .bin .sub (.t 116) (.c (.int .i64 1)), none, false, []⟩,
⟨some 118, .mv (.t 0), none, false, []⟩,
⟨some 119, .mv (.t 17), none, false, []⟩,
⟨some 120, .bin .sub (.t 119) (.c (.int .i64 1)), none, false, []⟩,
⟨some 121, .iaddr 1 (.t 118) (.t 120), none, false, []⟩,
⟨some 122, .load 1 false (.t 121), none, false, []⟩,
⟨some 123, .mv (.t 0), none, false, []⟩,
⟨some 124, .mv (.t 17), none, false, []⟩,
⟨some 125, .iaddr 1 (.t 123) (.t 124), none, false, []⟩,
⟨some 126, .load 1 false (.t 125), none, false, []⟩,
⟨some 127, .iaddr 1 (.t 113) (.t 114), none, false, []⟩,
⟨none, .store 1 (.t 127) (.t 122), none, false, []⟩,
⟨some 128, .iaddr 1 (.t 115) (.t 117), none, false, []⟩,
⟨none, .store 1 (.t 128) (.t 126), none, false, []⟩])) (.region false [
⟨some 111, .mv (.t 17), none, false, []⟩,
⟨some 112, .bin .sub (.t 111) (.c (.int .i64 1)), none, false, []⟩,
⟨some 17, .mv (.t 112), none, false, []⟩])))
def a80l3 : ACode := .loop [0, 14, 17] [] a80l3b
def a80l4b : ACode := (.seq (.seq (.region false [
⟨some 149, .mv (.t 20), none, false, []⟩,
⟨some 150, .mv (.t 21), none, false, []⟩,
⟨some 151, .bin .lss (.t 149) (.t 150), none, false, []⟩]) (.cond (.t 151) .skip (.exit 8))) (.block 9 (.seq (.region false [
⟨some 152, .mv (.t 20), none, false, []⟩,
⟨some 153, .mv (.t 21), none, false, []⟩,
⟨some 154, .bin .add (.t 152) (.t 153), none, false, []⟩,
⟨some 155, .conv .u64 (.t 154), none, false, []⟩,
⟨some 156, .bin .shr (.t 155) (.c (.int .u64 1)), none, false, []⟩,
⟨some 157, .conv .i64 (.t 156), none, false, []⟩,
⟨some 23, .mv (.t 157), none, false, []⟩]) (.seq (.region true [
⟨some 158, .mv (.t 4), none, false, []⟩,
⟨some 159, .mv (.t 0), none, false, []⟩,
⟨some 160, .mv (.t 22), none, false, []⟩,
⟨some 161, .mv (.t 23), none, false, []⟩,
⟨some 162, .bin .sub (.t 160) (.t 161), none, false, []⟩,
⟨some 163, .iaddr 1 (.t 159) (.t 162), none, false, []⟩,
⟨some 164, .load 1 false (.t 163), none, false, []⟩,
⟨some 165, .mv (.t 0), none, false, []⟩,
⟨some 166, .mv (.t 23), none, false, []⟩,
⟨some 167, .iaddr 1 (.t 165) (.t 166), none, false, []⟩,
⟨some 168, .load 1 false (.t 167), none, false, []⟩,
⟨some 169, .callv (.t 158) [(.t 164), (.t 168)], none, false, []⟩,
⟨some 170, .bin .lss (.t 169) (.c (.int .i64 0)), none, false, []⟩,
⟨some 171, .un .not (.t 170), none, false, []⟩]) (.cond (.t 171) (.region false [
⟨some 172, .mv (.t 23), none, false, []⟩,
⟨some 173, .bin .add (.t 172) (.c (.int .i64 1)), none, false, []⟩,
⟨some 20, .mv (.t 173), none, false, []⟩]) (.region false [
⟨some 174, .mv (.t 23), none, false, []⟩,
⟨some 21, .mv (.t 174), none, false, []⟩]))))))
def a80l4 : ACode := .loop [0, 1, 2, 3, 4, 18, 19, 20, 21, 22] [0, 1, 2, 3, 4, 18, 19, 20] a80l4b
def a80 : AFunc := ⟨220, [], (.seq (.seq (.region false [
⟨some 25, .mv (.t 2), none, false, []⟩,
⟨some 26, .mv (.t 1), none, false, []⟩,
⟨some 27, .bin .sub (.t 25) (.t 26), none, false, []⟩,
⟨some 28, .bin .eql (.t 27) (.c (.int .i64 1)), none, false, []⟩]) (.cond (.t 28) (.seq (.region false [
⟨some 29, .mv (.t 2), none, false, []⟩,
⟨some 10, .mv (.t 29), none, false, []⟩]) (.seq (.region false [
⟨some 30, .mv (.t 3), none, false, []⟩,
⟨some 11, .mv (.t 30), none, false, []⟩]) (.seq (.block 0 a80l0) (.seq (.seq (.region false [
⟨some 54, .mv (.t 1), none, false, []⟩,
⟨some 13, .mv (.t 54), none, false, []⟩]) (.block 2 a80l1)) .ret)))) .skip)) (.seq (.seq (.region false [
⟨some 77, .mv (.t 3), none, false, []⟩,
⟨some 78, .mv (.t 2), none, false, []⟩,
⟨some 79, .bin .sub (.t 77) (.t 78), none, false, []⟩,
⟨some 80, .bin .eql (.t 79) (.c (.int .i64 1)), none, false, []⟩]) (.cond (.t 80) (.seq (.region false [
⟨some 81, .mv (.t 1), none, false, []⟩,
⟨some 14, .mv (.t 81), none, false, []⟩]) (.seq (.region false [
⟨some 82, .mv (.t 2), none, false, []⟩,
⟨some 15, .mv (.t 82), none, false, []⟩]) (.seq (.block 4 a80l2) (.seq (.seq (.region false [
⟨some 107, .mv (.t 2), none, false, []⟩,
⟨some 17, .mv (.t 107), none, false, []⟩]) (.block 6 a80l3)) .ret)))) .skip)) (.seq (.region false [
⟨some 129, .mv (.t 1), none, false, []⟩,
⟨some 130, .mv (.t 3), none, false, []⟩,
⟨some 131, .bin .add (.t 129) (.t 130), none, false, []⟩,
⟨some 132, .conv .u64 (.t 131), none, false, []⟩,
⟨some 133, .bin .shr (.t 132) (.c (.int .u64 1)), none, false, []⟩,
⟨some 134, .conv .i64 (.t 133), none, false, []⟩,
⟨some 18, .mv (.t 134), none, false, []⟩]) (.seq (.region false [
⟨some 135, .mv (.t 18), none, false, []⟩,
⟨some 136, .mv (.t 2), none, false, []⟩,
⟨some 137, .bin .add (.t 135) (.t 136), none, false, []⟩,
⟨some 19, .mv (.t 137), none, false, []⟩]) (.seq (.region false [
⟨some 20, .mv (.c (.int .i64 0)), none, false, []⟩,
⟨some 21, .mv (.c (.int .i64 0)), none, false, []⟩]) (.seq (.seq (.region false [
⟨some 138, .mv (.t 2), none, false, []⟩,
⟨some 139, .mv (.t 18), none, false, []⟩,
⟨some 140, .bin .gtr (.t 138) (.t 139), none, false, []⟩]) (.cond (.t 140) (.seq (.region false [
⟨some 141, .mv (.t 19), none, false, []⟩,
⟨some 142, .mv (.t 3), none, false, []⟩,
⟨some 143, .bin .sub (.t 141) (.t 142), none, false, []⟩,
⟨some 20, .mv (.t 143), none, false, []⟩]) (.region false [
⟨some 144, .mv (.t 18), none, false, []⟩,
⟨some 21, .mv (.t 144), none, false, []⟩])) (.seq (.region false [
⟨some 145, .mv (.t 1), none, false, []⟩,
⟨some 20, .mv (.t 145), none, false, []⟩]) (.region false [
⟨some 146, .mv (.t 2), none, false, []⟩,
⟨some 21, .mv (.t 146), none, false, []⟩])))) (.seq (.region false [
⟨some 147, .mv (.t 19), none, false, []⟩,
⟨some 148, .bin .sub (.t 147) (.c (.int .i64 1)), none, false, []⟩,
⟨some 22, .mv (.t 148), none, false, []⟩]) (.seq (.block 8 a80l4) (.seq (.region false [
⟨some 175, .mv (.t 19), none, false, []⟩,
⟨some 176, .mv (.t 20), none, false, []⟩,
⟨some 177, .bin .sub (.t 175) (.t 176), none, false, []⟩,
⟨some 24, .mv (.t 177), none, false, []⟩]) (.seq (.seq (.region false [
⟨some 178, .mv (.t 20), none, false, []⟩,
⟨some 179, .mv (.t 2), none, false, []⟩,
⟨some 180, .bin .lss (.t 178) (.t 179), none, false, []⟩,
⟨some 181, .mv (.t 180), none, false, []⟩,
⟨some 182, .mv (.t 2), some (181, true), false, []⟩,
⟨some 183, .mv (.t 24), some (181, true), false, []⟩,
⟨some 184, .bin .lss (.t 182) (.t 183), some (181, true), false, []⟩,
⟨some 185, .pick (.t 181) (.t 184) (.c (.bool false)), none, false, []⟩]) (.cond (.t 185) (.region false [
⟨some 186, .mv (.t 0), none, false, []⟩,
⟨some 187, .mv (.t 20), none, false, []⟩,
⟨some 188, .mv (.t 2), none, false, []⟩,
⟨some 189, .mv (.t 24), none, false, []⟩,
⟨some 190, .mv (.t 4), none, false, []⟩,
⟨some 191, .call 95 [(.t 186), (.t 187), (.t 188), (.t 189), (.t 190)], none, false, []⟩]) .skip)) (.seq (.seq (.region false [
⟨some 192, .mv (.t 1), none, false, []⟩,
⟨some 193, .mv (.t 20), none, false, []⟩,
⟨some 194, .bin .lss (.t 192) (.t 193), none, false, []⟩,
⟨some 195, .mv (.t 194), none, false, []⟩,
⟨some 196, .mv (.t 20), some (195, true), false, []⟩,
⟨some 197, .mv (.t 18), some (195, true), false, []⟩,
⟨some 198, .bin .lss (.t 196) (.t 197), some (195, true), false, []⟩,
⟨some 199, .pick (.t 195) (.t 198) (.c (.bool false)), none, false, []⟩]) (.cond (.t 199) (.region false [
⟨some 200, .mv (.t 0), none, false, []⟩,
⟨some 201, .mv (.t 1), none, false, []⟩,
⟨some 202, .mv (.t 20), none, false, []⟩,
⟨some 203, .mv (.t 18), none, false, []⟩,
⟨some 204, .mv (.t 4), none, false, []⟩,
⟨some 205, .call 80 [(.t 200), (.t 201), (.t 202), (.t 203), (.t 204)], none, false, []⟩]) .skip)) (.seq (.region false [
⟨some 206, .mv (.t 18), none, false, []⟩,
⟨some 207, .mv (.t 24), none, false, []⟩,
⟨some 208, .bin .lss (.t 206) (.t 207), none, false, []⟩,
⟨some 209, .mv (.t 208), none, false, []⟩,
⟨some 210, .mv (.t 24), some (209, true), false, []⟩,
⟨some 211, .mv (.t 3), some (209, true), false, []⟩,
⟨some 212, .bin .lss (.t 210) (.t 211), some (209, true), false, []⟩,
⟨some 213, .pick (.t 209) (.t 212) (.c (.bool false)), none, false, []⟩]) (.cond (.t 213) (.region false [
⟨some 214, .mv (.t 0), none, false, []⟩,
⟨some 215, .mv (.t 18), none, false, []⟩,
⟨some 216, .mv (.t 24), none, false, []⟩,
⟨some 217, .mv (.t 3), none, false, []⟩,
⟨some 218, .mv (.t 4), none, false, []⟩,
⟨some 219, .call 80 [(.t 214), (.t 215), (.t 216), (.t 217), (.t 218)], none, false, []⟩]) .skip)))))))))))))⟩
def a81 : AFunc := ⟨17, [.tmp 4, .tmp 5], (.seq (.region false [
⟨some 4, .mv (.c (.int .u32 0)), none, false, []⟩,
⟨some 5, .mv (.c (.int .u32 0)), none, false, []⟩]) (.seq (.region false [
⟨some 7, .mv (.t 0), none, false, []⟩,
⟨some 8, .conv .u64 (.t 7), none, false, []⟩,
⟨some 9, .mv (.t 1), none, false, []⟩,
⟨some 10, .conv .u64 (.t 9), none, false, []⟩,
⟨some 11, .bin .mul (.t 8) (.t 10), none, false, []⟩,
⟨some 6, .mv (.t 11), none, false, []⟩]) (.seq (.region false [
⟨some 12, .mv (.t 6), none, false, []⟩,
⟨some 13, .bin .shr (.t 12) (.c (.int .u64 32)), none, false, []⟩,
⟨some 14, .conv .u32 (.t 13), none, false, []⟩,
⟨some 15, .mv (.t 6), none, false, []⟩,
⟨some 16, .conv .u32 (.t 15), none, false, []⟩,
⟨some 4, .mv (.t 14), none, false, []⟩,
⟨some 5, .mv (.t 16), none, false, []⟩]) .ret)))⟩
def a82 : AFunc := ⟨51, [.tmp 4, .tmp 5], (.seq (.region false [
⟨some 4, .mv (.c (.int .u64 0)), none, false, []⟩,
⟨some 5, .mv (.c (.int .u64 0)), none, false, []⟩]) (.seq (.region false [
⟨some 14, .mv (.t 0), none, false, []⟩,
⟨some 15, .bin .and (.t 14) (.c (.int .u64 4294967295)), none, false, []⟩,
⟨some 6, .mv (.t 15), none, false, []⟩]) (.seq (.region false [
⟨some 16, .mv (.t 0), none, false, []⟩,
⟨some 17, .bin .shr (.t 16) (.c (.int .u64 32)), none, false, []⟩,
⟨some 7, .mv (.t 17), none, false, []⟩]) (.seq (.region false [
⟨some 18, .mv (.t 1), none, false, []⟩,
⟨some 19, .bin .and (.t 18) (.c (.int .u64 4294967295)), none, false, []⟩,
⟨some 8, .mv (.t 19), none, false, []⟩]) (.seq (.region false [
⟨some 20, .mv (.t 1), none, false, []⟩,
⟨some 21, .bin .shr (.t 20) (.c (.int .u64 32)), none, false, []⟩,
⟨some 9, .mv (.t 21), none, false, []⟩]) (.seq (.region false [
⟨some 22, .mv (.t 6), none, false, []⟩,
⟨some 23, .mv (.t 8), none, false, []⟩,
⟨some 24, .bin .mul (.t 22) (.t 23), none, false, []⟩,
⟨some 10, .mv (.t 24), none, false, []⟩]) (.seq (.region false [
⟨some 25, .mv (.t 7), none, false, []⟩,
⟨some 26, .mv (.t 8), none, false, []⟩,
⟨some 27, .bin .mul (.t 25) (.t 26), none, false, []⟩,
⟨some 28, .mv (.t 10), none, false, []⟩,
⟨some 29, .bin .shr (.t 28) (.c (.int .u64 32)), none, false, []⟩,
⟨some 30, .bin .add (.t 27) (.t 29), none, false, []⟩,
⟨some 11, .mv (.t 30), none, false, []⟩]) (.seq (.region false [
⟨some 31, .mv (.t 11), none, false, []⟩,
⟨some 32, .bin .and (.t 31) (.c (.int .u64 4294967295)), none, false, []⟩,
⟨some 12, .mv (.t 32), none, false, []⟩]) (.seq (.region false [
⟨some 33, .mv (.t 11), none, false, []⟩,
⟨some 34, .bin .shr (.t 33) (.c (.int .u64 32)), none, false, []⟩,
⟨some 13, .mv (.t 34), none, false, []⟩]) (.seq (.region false [
⟨some 35, .mv (.t 12), none, false, []⟩,
⟨some 36, .mv (.t 6), none, false, []⟩,
⟨some 37, .mv (.t 9), none, false, []⟩,
⟨some 38, .bin .mul (.t 36) (.t 37), none, false, []⟩,
⟨some 39, .bin .add (.t 35) (.t 38), none, false, []⟩,
⟨some 12, .mv (.t 39), none, false, []⟩]) (.seq (.region false [
⟨some 40, .mv (.t 7), none, false, []⟩,
⟨some 41, .mv (.t 9), none, false, []⟩,
⟨some 42, .bin .mul (.t 40) (.t 41), none, false, []⟩,
⟨some 43, .mv (.t 13), none, false, []⟩,
⟨some 44, .bin .add (.t 42) (.t 43), none, false, []⟩,
⟨some 45, .mv (.t 12), none, false, []⟩,
⟨some 46, .bin .shr (.t 45) (.c (.int .u64 32)), none, false, []⟩,
⟨some 47, .bin .add (.t 44) (.t 46), none, false, []⟩,
⟨some 4, .mv (.t 47), none, false, []⟩]) (.seq (.region false [
⟨some 48, .mv (.t 0), none, false, []⟩,
⟨some 49, .mv (.t 1), none, false, []⟩,
⟨some 50, .bin .mul (.t 48) (.t 49), none, false, []⟩,
⟨some 5, .mv (.t 50), none, false, []⟩]) .ret))))))))))))⟩
def a83l0b : ACode := (.seq (.seq (.region true [
⟨some 16, .mv (.t 7), none, false, []⟩,
⟨some 17, .mv (.t 1), none, false, []⟩,
⟨some 18, .bin .gtr (.t 16) (.t 17), none, false, []⟩,
⟨some 19, .mv (.t 18), none, false, []⟩,
⟨some 20, .mv (.t 0), some (19, true), false, []⟩,
⟨some 21, .mv (.t 7), some (19, true), false, []⟩,
⟨some 22, .iaddr 1 (.t 20) (.t 21), some (19, true), false, []⟩,
⟨some 23, .load 1 false (.t 22), some (19, true), false, []⟩,
⟨some 24, .mv (.t 0), some (19, true), false, []⟩,
⟨some 25, .mv (.t 7), some (19, true), false, []⟩,
⟨some 26, .bin .sub (.t 25) (.c (.int .i64 1)), some (19, true), false, []⟩,
⟨some 27, .iaddr 1 (.t 24) (.t 26), some (19, true), false, []⟩,
⟨some 28, .load 1 false (.t 27), some (19, true), false, []⟩,
⟨some 29, .call 89 [(.t 23), (.t 28)], some (19, true), false, []⟩,
⟨some 30, .pick (.t 19) (.t 29) (.c (.bool false)), none, false, []⟩]) (.cond (.t 30) .skip (.exit 2))) (.seq (.block 3 (.region true [
⟨some 33, .mv (.t 0), none, false, []⟩,
⟨some 34, .mv (.t 7), none, false, []⟩,
⟨some 35, .mv (.t 0), none, false, []⟩,
⟨some 36, .mv (.t 7), none, false, []⟩,
⟨some 37, .bin .sub (.t 36) (.c (.int .i64 1)), none, false, []⟩,
⟨some 38, .mv (.t 0), none, false, []⟩,
⟨some 39, .mv (.t 7), none, false, []⟩,
⟨some 40, .bin .sub (.t 39) (.c (.int .i64 1)), none, false, []⟩,
⟨some 41, .iaddr 1 (.t 38) (.t 40), none, false, []⟩,
⟨some 42, .load 1 false (.t 41), none, false, []⟩,
⟨some 43, .mv (.t 0), none, false, []⟩,
⟨some 44, .mv (.t 7), none, false, []⟩,
⟨some 45, .iaddr 1 (.t 43) (.t 44), none, false, []⟩,
⟨some 46, .load 1 false (.t 45), none, false, []⟩,
⟨some 47, .iaddr 1 (.t 33) (.t 34), none, false, []⟩,
⟨none, .store 1 (.t 47) (.t 42), none, false, []⟩,
⟨some 48, .iaddr 1 (.t 35) (.t 37), none, false, []⟩,
⟨none, .store 1 (.t 48) (.t 46), none, false, []⟩])) (.region false [
⟨some 31, .mv (.t 7), none, false, []⟩,
⟨some 32, .bin .sub (.t 31) (.c (.int .i64 1)), none, false, []⟩,
⟨some 7, .mv (.t 32), none, false, []⟩])))
def a83l0 : ACode := .loop [0, 1, 2, 6, 7] [0, 1, 2, 6] a83l0b
def a83l1b : ACode := (.seq (.seq (.region false [
⟨some 10, .mv (.t 6), none, false, []⟩,
⟨some 11, .mv (.t 2), none, false, []⟩,
⟨some 12, .bin .lss (.t 10) (.t 11), none, false, []⟩]) (.cond (.t 12) .skip (.exit 0))) (.seq (.block 1 (.seq (.region false [
⟨some 15, .mv (.t 6), none, false, []⟩,
⟨some 7, .mv (.t 15), none, false, []⟩]) (.block 2 a83l0))) (.region false [
⟨some 13, .mv (.t 6), none, false, []⟩,
⟨some 14, .bin .add (.t 13) (.c (.int .i64 1)), none, false, []⟩,
⟨some 6, .mv (.t 14), none, false, []⟩])))
def a83l1 : ACode := .loop [0, 1, 2, 6] [] a83l1b
def a83 : AFunc := ⟨49, [], (.seq (.region false [
⟨some 8, .mv (.t 1), none, false, []⟩,
⟨some 9, .bin .add (.t 8) (.c (.int .i64 1)), none, false, []⟩,
⟨some 6, .mv (.t 9), none, false, []⟩]) (.block 0 a83l1))⟩
def a84l0b : ACode := (.seq (.seq (.region false [
⟨some 18, .mv (.t 9), none, false, []⟩,
⟨some 19, .bin .geq (.t 18) (.c (.int .i64 0)), none, false, []⟩]) (.cond (.t 19) .skip (.exit 0))) (.seq (.block 1 (.region false [
⟨some 22, .mv (.t 0), none, false, []⟩,
⟨some 23, .mv (.t 9), none, false, []⟩,
⟨some 24, .mv (.t 8), none, false, []⟩,
⟨some 25, .mv (.t 6), none, false, []⟩,
⟨some 26, .call 96 [(.t 22), (.t 23), (.t 24), (.t 25)], none, false, []⟩])) (.region false [
⟨some 20, .mv (.t 9), none, false, []⟩,
⟨some 21, .bin .sub (.t 20) (.c (.int .i64 1)), none, false, []⟩,
⟨some 9, .mv (.t 21), none, false, []⟩])))
def a84l0 : ACode := .loop [0, 6, 7, 8, 9] [0, 6, 7, 8] a84l0b
def a84l1b : ACode := (.seq (.seq (.region false [
⟨some 29, .mv (.t 10), none, false, []⟩,
⟨some 30, .bin .geq (.t 29) (.c (.int .i64 0)), none, false, []⟩]) (.cond (.t 30) .skip (.exit 2))) (.seq (.block 3 (.seq (.region true [
⟨some 33, .mv (.t 0), none, false, []⟩,
⟨some 34, .mv (.t 6), none, false, []⟩,
⟨some 35, .mv (.t 0), none, false, []⟩,
⟨some 36, .mv (.t 6), none, false, []⟩,
⟨some 37, .mv (.t 10), none, false, []⟩,
⟨some 38, .bin .add (.t 36) (.t 37), none, false, []⟩,
⟨some 39, .mv (.t 0), none, false, []⟩,
⟨some 40, .mv (.t 6), none, false, []⟩,
⟨some 41, .mv (.t 10), none, false, []⟩,
⟨some 42, .bin .add (.t 40) (.t 41), none, false, []⟩,
⟨some 43, .iaddr 1 (.t 39) (.t 42), none, false, []⟩,
⟨some 44, .load 1 false (.t 43), none, false, []⟩,
⟨some 45, .mv (.t 0), none, false, []⟩,
⟨some 46, .mv (.t 6), none, false, []⟩,
⟨some 47, .iaddr 1 (.t 45) (.t 46), none, false, []⟩,
⟨some 48, .load 1 false (.t 47), none, false, []⟩,
⟨some 49, .iaddr 1 (.t 33) (.t 34), none, false, []⟩,
⟨none, .store 1 (.t 49) (.t 44), none, false, []⟩,
⟨some 50, .iaddr 1 (.t 35) (.t 38), none, false, []⟩,
⟨none, .store 1 (.t 50) (.t 48), none, false, []⟩]) (.region false [
⟨some 51, .mv (.t 0), none, false, []⟩,
⟨some 52, .mv (.t 7), none, false, []⟩,
⟨some 53, .mv (.t 10), none, false, []⟩,
⟨some 54, .mv (.t 6), none, false, []⟩,
⟨some 55, .call 96 [(.t 51), (.t 52), (.t 53), (.t 54)], none, false, []⟩]))) (.region false [
⟨some 31, .mv (.t 10), none, false, []⟩,
⟨some 32, .bin .sub (.t 31) (.c (.int .i64 1)), none, false, []⟩,
⟨some 10, .mv (.t 32), none, false, []⟩])))
def a84l1 : ACode := .loop [0, 6, 7, 10] [] a84l1b
def a84 : AFunc := ⟨56, [], (.seq (.region false [
⟨some 11, .mv (.t 1), none, false, []⟩,
⟨some 6, .mv (.t 11), none, false, []⟩]) (.seq (.region false [
⟨some 7, .mv (.c (.int .i64 0)), none, false, []⟩]) (.seq (.region false [
⟨some 12, .mv (.t 2), none, false, []⟩,
⟨some 13, .mv (.t 1), none, false, []⟩,
⟨some 14, .bin .sub (.t 12) (.t 13), none, false, []⟩,
⟨some 8, .mv (.t 14), none, false, []⟩]) (.seq (.seq (.region false [
⟨some 15, .mv (.t 8), none, false, []⟩,
⟨some 16, .bin .sub (.t 15) (.c (.int .i64 1)), none, false, []⟩,
⟨some 17, .bin .quo (.t 16) (.c (.int .i64 2)), none, false, []⟩,
⟨some 9, .mv (.t 17), none, false, []⟩]) (.block 0 a84l0)) (.seq (.region false [
⟨some 27, .mv (.t 8), none, false, []⟩,
⟨some 28, .bin .sub (.t 27) (.c (.int .i64 1)), none, false, []⟩,
⟨some 10, .mv (.t 28), none, false, []⟩]) (.block 2 a84l1))))))⟩
def a85l0b : ACode := (.seq (.seq (.region false [
⟨some 26, .mv (.t 9), none, false, []⟩,
⟨some 27, .mv (.t 1), none, false, []⟩,
⟨some 28, .mv (.t 6), none, false, []⟩,
⟨some 29, .bin .quo (.t 28) (.c (.int .i64 4)), none, false, []⟩,
⟨some 30, .bin .mul (.t 29) (.c (.int .i64 2)), none, false, []⟩,
⟨some 31, .bin .add (.t 27) (.t 30), none, false, []⟩,
⟨some 32, .bin .add (.t 31) (.c (.int .i64 1)), none, false, []⟩,
⟨some 33, .bin .leq (.t 26) (.t 32), none, false, []⟩]) (.cond (.t 33) .skip (.exit 0))) (.seq (.block 1 (.seq (.region false [
⟨some 36, .call 98 [(.t 7)], none, false, []⟩,
⟨some 37, .mv (.t 8), none, false, []⟩,
⟨some 38, .bin .sub (.t 37) (.c (.int .u64 1)), none, false, []⟩,
⟨some 39, .bin .and (.t 36) (.t 38), none, false, []⟩,
⟨some 40, .conv .i64 (.t 39), none, false, []⟩,
⟨some 10, .mv (.t 40), none, false, []⟩]) (.seq (.seq (.region false [
⟨some 41, .mv (.t 10), none, false, []⟩,
⟨some 42, .mv (.t 6), none, false, []⟩,
⟨some 43, .bin .geq (.t 41) (.t 42), none, false, []⟩]) (.cond (.t 43) (.region false [
⟨some 44, .mv (.t 10), none, false, []⟩,
⟨some 45, .mv (.t 6), none, false, []⟩,
⟨some 46, .bin .sub (.t 44) (.t 45), none, false, []⟩,
⟨some 10, .mv (.t 46), none, false, []⟩]) .skip)) (.region true [
⟨some 47, .mv (.t 0), none, false, []⟩,
⟨some 48, .mv (.t 9), none, false, []⟩,
⟨some 49, .mv (.t 0), none, false, []⟩,
⟨some 50, .mv (.t 1), none, false, []⟩,
⟨some 51, .mv (.t 10), none, false, []⟩,
⟨some 52, .bin .add (.t 50) (.t 51), none, false, []⟩,
⟨some 53, .mv (.t 0), none, false, []⟩,
⟨some 54, .mv (.t 1), none, false, []⟩,
⟨some 55, .mv (.t 10), none, false, []⟩,
⟨some 56, .bin .add (.t 54) (.t 55), none, false, []⟩,
⟨some 57, .iaddr 1 (.t 53) (.t 56), none, false, []⟩,
⟨some 58, .load 1 false (.t 57), none, false, []⟩,
⟨some 59, .mv (.t 0), none, false, []⟩,
⟨some 60, .mv (.t 9), none, false, []⟩,
⟨some 61, .iaddr 1 (.t 59) (.t 60), none, false, []⟩,
⟨some 62, .load 1 false (.t 61), none, false, []⟩,
⟨some 63, .iaddr 1 (.t 47) (.t 48), none, false, []⟩,
⟨none, .store 1 (.t 63) (.t 58), none, false, []⟩,
⟨some 64, .iaddr 1 (.t 49) (.t 52), none, false, []⟩,
⟨none, .store 1 (.t 64) (.t 62), none, false, []⟩])))) (.region false [
⟨some 34, .mv (.t 9), none, false, []⟩,
⟨some 35, .bin .add (.t 34) (.c (.int .i64 1)), none, false, []⟩,
⟨some 9, .mv (.t 35), none, false, []⟩])))
def a85l0 : ACode := .loop [0, 1, 6, 7, 8, 9] [] a85l0b
def a85 : AFunc := ⟨65, [], (.seq (.region false [
⟨some 11, .mv (.t 2), none, false, []⟩,
⟨some 12, .mv (.t 1), none, false, []⟩,
⟨some 13, .bin .sub (.t 11) (.t 12), none, false, []⟩,
⟨some 6, .mv (.t 13), none, false, []⟩]) (.seq (.region false [
⟨some 14, .mv (.t 6), none, false, []⟩,
⟨some 15, .bin .geq (.t 14) (.c (.int .i64 8)), none, false, []⟩]) (.cond (.t 15) (.seq (.region false [
⟨some 16, .mv (.t 6), none, false, []⟩,
⟨some 17, .conv .u64 (.t 16), none, false, []⟩,
⟨some 7, .alloc 140 [.int .u64 0], none, false, []⟩,
⟨none, .store 1 (.t 7) (.t 17), none, false, []⟩]) (.seq (.region false [
⟨some 18, .mv (.t 6), none, false, []⟩,
⟨some 19, .call 97 [(.t 18)], none, false, []⟩,
⟨some 8, .mv (.t 19), none, false, []⟩]) (.seq (.region false [
⟨some 20, .mv (.t 1), none, false, []⟩,
⟨some 21, .mv (.t 6), none, false, []⟩,
⟨some 22, .bin .quo (.t 21) (.c (.int .i64 4)), none, false, []⟩,
⟨some 23, .bin .mul (.t 22) (.c (.int .i64 2)), none, false, []⟩,
⟨some 24, .bin .add (.t 20) (.t 23), none, false, []⟩,
⟨some 25, .bin .sub (.t 24) (.c (.int .i64 1)), none, false, []⟩,
⟨some 9, .mv (.t 25), none, false, []⟩]) (.block 0 a85l0)))) .skip)))⟩
def a86 : AFunc := ⟨57, [.tmp 6, .tmp 7], (.seq (.region false [
⟨some 6, .mv (.c (.int .i64 0)), none, false, []⟩,
⟨some 7, .mv (.c (.int .i64 0)), none, false, []⟩]) (.seq (.region false [
⟨some 13, .mv (.t 2), none, false, []⟩,
⟨some 14, .mv (.t 1), none, false, []⟩,
⟨some 15, .bin .sub (.t 13) (.t 14), none, false, []⟩,
⟨some 8, .mv (.t 15), none, false, []⟩]) (.seq (.region false [
⟨some 9, .alloc 3 [.int .i64 0], none, false, []⟩]) (.seq (.region false [
⟨some 16, .mv (.t 1), none, false, []⟩,
⟨some 17, .mv (.t 8), none, false, []⟩,
⟨some 18, .bin .quo (.t 17) (.c (.int .i64 4)), none, false, []⟩,
⟨some 19, .bin .mul (.t 18) (.c (.int .i64 1)), none, false, []⟩,
⟨some 20, .bin .add (.t 16) (.t 19), none, false, []⟩,
⟨some 10, .mv (.t 20), none, false, []⟩]) (.seq (.region false [
⟨some 21, .mv (.t 1), none, false, []⟩,
⟨some 22, .mv (.t 8), none, false, []⟩,
⟨some 23, .bin .quo (.t 22) (.c (.int .i64 4)), none, false, []⟩,
⟨some 24, .bin .mul (.t 23) (.c (.int .i64 2)), none, false, []⟩,
⟨some 25, .bin .add (.t 21) (.t 24), none, false, []⟩,
⟨some 11, .mv (.t 25), none, false, []⟩]) (.seq (.region false [
⟨some 26, .mv (.t 1), none, false, []⟩,
⟨some 27, .mv (.t 8), none, false, []⟩,
⟨some 28, .bin .quo (.t 27) (.c (.int .i64 4)), none, false, []⟩,
⟨some 29, .bin .mul (.t 28) (.c (.int .i64 3)), none, false, []⟩,
⟨some 30, .bin .add (.t 26) (.t 29), none, false, []⟩,
⟨some 12, .mv (.t 30), none, false, []⟩]) (.seq (.seq (.region false [
⟨some 31, .mv (.t 8), none, false, []⟩,
⟨some 32, .bin .geq (.t 31) (.c (.int .i64 8)), none, false, []⟩]) (.cond (.t 32) (.seq (.seq (.region false [
⟨some 33, .mv (.t 8), none, false, []⟩,
⟨some 34, .bin .geq (.t 33) (.c (.int .i64 50)), none, false, []⟩]) (.cond (.t 34) (.seq (.region false [
⟨some 35, .mv (.t 0), none, false, []⟩,
⟨some 36, .mv (.t 10), none, false, []⟩,
⟨some 37, .call 99 [(.t 35), (.t 36), (.t 9)], none, false, []⟩,
⟨some 10, .mv (.t 37), none, false, []⟩]) (.seq (.region false [
⟨some 38, .mv (.t 0), none, false, []⟩,
⟨some 39, .mv (.t 11), none, false, []⟩,
⟨some 40, .call 99 [(.t 38), (.t 39), (.t 9)], none, false, []⟩,
⟨some 11, .mv (.t 40), none, false, []⟩]) (.region false [
⟨some 41, .mv (.t 0), none, false, []⟩,
⟨some 42, .mv (.t 12), none, false, []⟩,
⟨some 43, .call 99 [(.t 41), (.t 42), (.t 9)], none, false, []⟩,
⟨some 12, .mv (.t 43), none, false, []⟩]))) .skip)) (.region false [
⟨some 44, .mv (.t 0), none, false, []⟩,
⟨some 45, .mv (.t 10), none, false, []⟩,
⟨some 46, .mv (.t 11), none, false, []⟩,
⟨some 47, .mv (.t 12), none, false, []⟩,
⟨some 48, .call 100 [(.t 44), (.t 45), (.t 46), (.t 47), (.t 9)], none, false, []⟩,
⟨some 11, .mv (.t 48), none, false, []⟩])) .skip)) (.seq (.region false [
⟨some 49, .load 1 false (.t 9), none, false, []⟩]) (.block 0 (.seq (.region false [
⟨some 52, .bin .eql (.t 49) (.c (.int .i64 0)), none, false, []⟩,
⟨some 51, .mv (.t 52), none, false, []⟩]) (.cond (.t 51) (.seq (.region false [
⟨some 53, .mv (.t 11), none, false, []⟩,
⟨some 6, .mv (.t 53), none, false, []⟩,
⟨some 7, .mv (.c (.int .i64 1)), none, false, []⟩]) .ret) (.seq (.region false [
⟨some 55, .bin .eql (.t 49) (.c (.int .i64 12)), none, false, []⟩,
⟨some 54, .mv (.t 55), none, false, []⟩]) (.cond (.t 54) (.seq (.region false [
⟨some 56, .mv (.t 11), none, false, []⟩,
⟨some 6, .mv (.t 56), none, false, []⟩,
⟨some 7, .mv (.c (.int .i64 2)), none, false, []⟩]) .ret) (.seq (.region false [
⟨some 50, .mv (.t 11), none, false, []⟩,
⟨some 6, .mv (.t 50), none, false, []⟩,
⟨some 7, .mv (.c (.int .i64 0)), none, false, []⟩]) .ret))))))))))))))⟩
def a87l0b : ACode := (.seq (.seq (.region false [
⟨some 11, .mv (.t 6), none, false, []⟩,
⟨some 12, .mv (.t 7), none, false, []⟩,
⟨some 13, .bin .lss (.t 11) (.t 12), none, false, []⟩]) (.cond (.t 13) .skip (.exit 0))) (.block 1 (.seq (.region true [
⟨some 14, .mv (.t 0), none, false, []⟩,
⟨some 15, .mv (.t 6), none, false, []⟩,
⟨some 16, .mv (.t 0), none, false, []⟩,
⟨some 17, .mv (.t 7), none, false, []⟩,
⟨some 18, .mv (.t 0), none, false, []⟩,
⟨some 19, .mv (.t 7), none, false, []⟩,
⟨some 20, .iaddr 1 (.t 18) (.t 19), none, false, []⟩,
⟨some 21, .load 1 false (.t 20), none, false, []⟩,
⟨some 22, .mv (.t 0), none, false, []⟩,
⟨some 23, .mv (.t 6), none, false, []⟩,
⟨some 24, .iaddr 1 (.t 22) (.t 23), none, false, []⟩,
⟨some 25, .load 1 false (.t 24), none, false, []⟩,
⟨some 26, .iaddr 1 (.t 14) (.t 15), none, false, []⟩,
⟨none, .store 1 (.t 26) (.t 21), none, false, []⟩,
⟨some 27, .iaddr 1 (.t 16) (.t 17), none, false, []⟩,
⟨none, .store 1 (.t 27) (.t 25), none, false, []⟩]) (.seq (.region false [
⟨some 28, .mv (.t 6), none, false, []⟩,
⟨some 29, .bin .add (.t 28) (.c (.int .i64 1)), none, false, []⟩,
⟨some 6, .mv (.t 29), none, false, []⟩]) (.region false [
⟨some 30, .mv (.t 7), none, false, []⟩,
⟨some 31, .bin .sub (.t 30) (.c (.int .i64 1)), none, false, []⟩,
⟨some 7, .mv (.t 31), none, false, []⟩])))))
def a87l0 : ACode := .loop [0, 6, 7] [] a87l0b
def a87 : AFunc := ⟨32, [], (.seq (.region false [
⟨some 8, .mv (.t 1), none, false, []⟩,
⟨some 6, .mv (.t 8), none, false, []⟩]) (.seq (.region false [
⟨some 9, .mv (.t 2), none, false, []⟩,
⟨some 10, .bin .sub (.t 9) (.c (.int .i64 1)), none, false, []⟩,
⟨some 7, .mv (.t 10), none, false, []⟩]) (.block 0 a87l0)))⟩
def a88l0b : ACode := (.seq (.seq (.region true [
⟨some 17, .mv (.t 7), none, false, []⟩,
⟨some 18, .mv (.t 2), none, false, []⟩,
⟨some 19, .bin .lss (.t 17) (.t 18), none, false, []⟩,
⟨some 20, .mv (.t 19), none, false, []⟩,
⟨some 21, .mv (.t 0), some (20, true), false, []⟩,
⟨some 22, .mv (.t 7), some (20, true), false, []⟩,
⟨some 23, .iaddr 1 (.t 21) (.t 22), some (20, true), false, []⟩,
⟨some 24, .load 1 false (.t 23), some (20, true), false, []⟩,
⟨some 25, .mv (.t 0), some (20, true), false, []⟩,
⟨some 26, .mv (.t 7), some (20, true), false, []⟩,
⟨some 27, .bin .sub (.t 26) (.c (.int .i64 1)), some (20, true), false, []⟩,
⟨some 28, .iaddr 1 (.t 25) (.t 27), some (20, true), false, []⟩,
⟨some 29, .load 1 false (.t 28), some (20, true), false, []⟩,
⟨some 30, .call 89 [(.t 24), (.t 29)], some (20, true), false, []⟩,
⟨some 31, .un .not (.t 30), some (20, true), false, []⟩,
⟨some 32, .pick (.t 20) (.t 31) (.c (.bool false)), none, false, []⟩]) (.cond (.t 32) .skip (.exit 2))) (.block 3 (.region false [
⟨some 33, .mv (.t 7), none, false, []⟩,
⟨some 34, .bin .add (.t 33) (.c (.int .i64 1)), none, false, []⟩,
⟨some 7, .mv (.t 34), none, false, []⟩])))
def a88l0 : ACode := .loop [0, 1, 2, 7, 8] [0, 1, 2, 6, 7, 8] a88l0b
def a88l1b : ACode := (.seq (.seq (.region false [
⟨some 64, .mv (.t 9), none, false, []⟩,
⟨some 65, .bin .geq (.t 64) (.c (.int .i64 1)), none, false, []⟩]) (.cond (.t 65) .skip (.exit 4))) (.seq (.block 5 (.seq (.seq (.region true [
⟨some 68, .mv (.t 0), none, false, []⟩,
⟨some 69, .mv (.t 9), none, false, []⟩,
⟨some 70, .iaddr 1 (.t 68) (.t 69), none, false, []⟩,
⟨some 71, .load 1 false (.t 70), none, false, []⟩,
⟨some 72, .mv (.t 0), none, false, []⟩,
⟨some 73, .mv (.t 9), none, false, []⟩,
⟨some 74, .bin .sub (.t 73) (.c (.int .i64 1)), none, false, []⟩,
⟨some 75, .iaddr 1 (.t 72) (.t 74), none, false, []⟩,
⟨some 76, .load 1 false (.t 75), none, false, []⟩,
⟨some 77, .call 89 [(.t 71), (.t 76)], none, false, []⟩,
⟨some 78, .un .not (.t 77), none, false, []⟩]) (.cond (.t 78) (.exit 4) .skip)) (.region true [
⟨some 79, .mv (.t 0), none, false, []⟩,
⟨some 80, .mv (.t 9), none, false, []⟩,
⟨some 81, .mv (.t 0), none, false, []⟩,
⟨some 82, .mv (.t 9), none, false, []⟩,
⟨some 83, .bin .sub (.t 82) (.c (.int .i64 1)), none, false, []⟩,
⟨some 84, .mv (.t 0), none, false, []⟩,
⟨some 85, .mv (.t 9), none, false, []⟩,
⟨some 86, .bin .sub (.t 85) (.c (.int .i64 1)), none, false, []⟩,
⟨some 87, .iaddr 1 (.t 84) (.t 86), none, false, []⟩,
⟨some 88, .load 1 false (.t 87), none, false, []⟩,
⟨some 89, .mv (.t 0), none, false, []⟩,
⟨some 90, .mv (.t 9), none, false, []⟩,
⟨some 91, .iaddr 1 (.t 89) (.t 90), none, false, []⟩,
⟨some 92, .load 1 false (.t 91), none, false, []⟩,
⟨some 93, .iaddr 1 (.t 79) (.t 80), none, false, []⟩,
⟨none, .store 1 (.t 93) (.t 88), none, false, []⟩,
⟨some 94, .iaddr 1 (.t 81) (.t 83), none, false, []⟩,
⟨none, .store 1 (.t 94) (.t 92), none, false, []⟩]))) (.region false [
⟨some 66, .mv (.t 9), none, false, []⟩,
⟨some 67, .bin .sub (.t 66) (.c (.int .i64 1)), none, false, []⟩,
⟨some 9, .mv (.t 67), none, false, []⟩])))
def a88l1 : ACode := .loop [0, 1, 2, 7, 8, 9] [0, 1, 2, 6, 7, 8] a88l1b
def a88l2b : ACode := (.seq (.seq (.region false [
⟨some 101, .mv (.t 10), none, false, []⟩,
⟨some 102, .mv (.t 2), none, false, []⟩,
⟨some 103, .bin .lss (.t 101) (.t 102), none, false, []⟩]) (.cond (.t 103) .skip (.exit 6))) (.seq (.block 7 (.seq (.seq (.region true [
⟨some 106, .mv (.t 0), none, false, []⟩,
⟨some 107, .mv (.t 10), none, false, []⟩,
⟨some 108, .iaddr 1 (.t 106) (.t 107), none, false, []⟩,
⟨some 109, .load 1 false (.t 108), none, false, []⟩,
⟨some 110, .mv (.t 0), none, false, []⟩,
⟨some 111, .mv (.t 10), none, false, []⟩,
⟨some 112, .bin .sub (.t 111) (.c (.int .i64 1)), none, false, []⟩,
⟨some 113, .iaddr 1 (.t 110) (.t 112), none, false, []⟩,
⟨some 114, .load 1 false (.t 113), none, false, []⟩,
⟨some 115, .call 89 [(.t 109), (.t 114)], none, false, []⟩,
⟨some 116, .un .not (.t 115), none, false, []⟩]) (.cond (.t 116) (.exit 6) .skip)) (.region true [
⟨some 117, .mv (.t 0), none, false, []⟩,
⟨some 118, .mv (.t 10), none, false, []⟩,
⟨some 119, .mv (.t 0), none, false, []⟩,
⟨some 120, .mv (.t 10), none, false, []⟩,
⟨some 121, .bin .sub (.t 120) (.c (.int .i64 1)), none, false, []⟩,
⟨some 122, .mv (.t 0), none, false, []⟩,
⟨some 123, .mv (.t 10), none, false, []⟩,
⟨some 124, .bin .sub (.t 123) (.c (.int .i64 1)), none, false, []⟩,
⟨some 125, .iaddr 1 (.t 122) (.t 124), none, false, []⟩,
⟨some 126, .load 1 false (.t 125), none, false, []⟩,
⟨some 127, .mv (.t 0), none, false, []⟩,
⟨some 128, .mv (.t 10), none, false, []⟩,
⟨some 129, .iaddr 1 (.t 127) (.t 128), none, false, []⟩,
⟨some 130, .load 1 false (.t 129), none, false, []⟩,
⟨some 131, .iaddr 1 (.t 117) (.t 118), none, false, []⟩,
⟨none, .store 1 (.t 131) (.t 126), none, false, []⟩,
⟨some 132, .iaddr 1 (.t 119) (.t 121), none, false, []⟩,
⟨none, .store 1 (.t 132) (.t 130), none, false, []⟩]))) (.region false [
⟨some 104, .mv (.t 10), none, false, []⟩,
⟨some 105, .bin .add (.t 104) (.c (.int .i64 1)), none, false, []⟩,
⟨some 10, .mv (.t 105), none, false, []⟩])))
def a88l2 : ACode := .loop [0, 1, 2, 7, 8, 10] [0, 1, 2, 6, 7, 8] a88l2b
def a88l3b : ACode := (.seq (.seq (.region false [
⟨some 13, .mv (.t 8), none, false, []⟩,
⟨some 14, .bin .lss (.t 13) (.c (.int .i64 5)), none, false, []⟩]) (.cond (.t 14) .skip (.exit 0))) (.seq (.block 1 (.seq (.block 2 a88l0) (.seq (.seq (.region false [
⟨some 35, .mv (.t 7), none, false, []⟩,
⟨some 36, .mv (.t 2), none, false, []⟩,
⟨some 37, .bin .eql (.t 35) (.t 36), none, false, []⟩]) (.cond (.t 37) (.seq (.region false [
⟨some 6, .mv (.c (.bool true)), none, false, []⟩]) .ret) .skip)) (.seq (.seq (.region false [
⟨some 38, .mv (.t 2), none, false, []⟩,
⟨some 39, .mv (.t 1), none, false, []⟩,
⟨some 40, .bin .sub (.t 38) (.t 39), none, false, []⟩,
⟨some 41, .bin .lss (.t 40) (.c (.int .i64 50)), none, false, []⟩]) (.cond (.t 41) (.seq (.region false [
⟨some 6, .mv (.c (.bool false)), none, false, []⟩]) .ret) .skip)) (.seq (.region true [
⟨some 42, .mv (.t 0), none, false, []⟩,
⟨some 43, .mv (.t 7), none, false, []⟩,
⟨some 44, .mv (.t 0), none, false, []⟩,
⟨some 45, .mv (.t 7), none, false, []⟩,
⟨some 46, .bin .sub (.t 45) (.c (.int .i64 1)), none, false, []⟩,
⟨some 47, .mv (.t 0), none, false, []⟩,
⟨some 48, .mv (.t 7), none, false, []⟩,
⟨some 49, .bin .sub (.t 48) (.c (.int .i64 1)), none, false, []⟩,
⟨some 50, .iaddr 1 (.t 47) (.t 49), none, false, []⟩,
⟨some 51, .load 1 false (.t 50), none, false, []⟩,
⟨some 52, .mv (.t 0), none, false, []⟩,
⟨some 53, .mv (.t 7), none, false, []⟩,
⟨some 54, .iaddr 1 (.t 52) (.t 53), none, false, []⟩,
⟨some 55, .load 1 false (.t 54), none, false, []⟩,
⟨some 56, .iaddr 1 (.t 42) (.t 43), none, false, []⟩,
⟨none, .store 1 (.t 56) (.t 51), none, false, []⟩,
⟨some 57, .iaddr 1 (.t 44) (.t 46), none, false, []⟩,
⟨none, .store 1 (.t 57) (.t 55), none, false, []⟩]) (.seq (.seq (.region false [
⟨some 58, .mv (.t 7), none, false, []⟩,
⟨some 59, .mv (.t 1), none, false, []⟩,
⟨some 60, .bin .sub (.t 58) (.t 59), none, false, []⟩,
⟨some 61, .bin .geq (.t 60) (.c (.int .i64 2)), none, false, []⟩]) (.cond (.t 61) (.seq (.region false [
⟨some 62, .mv (.t 7), none, false, []⟩,
⟨some 63, .bin .sub (.t 62) (.c (.int .i64 1)), none, false, []⟩,
⟨some 9, .mv (.t 63), none, false, []⟩]) (.block 4 a88l1)) .skip)) (.seq (.region false [
⟨some 95, .mv (.t 2), none, false, []⟩,
⟨some 96, .mv (.t 7), none, false, []⟩,
⟨some 97, .bin .sub (.t 95) (.t 96), none, false, []⟩,
⟨some 98, .bin .geq (.t 97) (.c (.int .i64 2)), none, false, []⟩]) (.cond (.t 98) (.seq (.region false [
⟨some 99, .mv (.t 7), none, false, []⟩,
⟨some 100, .bin .add (.t 99) (.c (.int .i64 1)), none, false, []⟩,
⟨some 10, .mv (.t 100), none, false, []⟩]) (.block 6 a88l2)) .skip)))))))) (.region false [
⟨some 15, .mv (.t 8), none, false, []⟩,
⟨some 16, .bin .add (.t 15) (.c (.int .i64 1)), none, false, []⟩,
⟨some 8, .mv (.t 16), none, false, []⟩])))
def a88l3 : ACode := .loop [0, 1, 2, 7, 8] [6] a88l3b
def a88 : AFunc := ⟨133, [.tmp 6], (.seq (.region false [
⟨some 6, .mv (.c (.bool false)), none, false, []⟩]) (.seq (.region false [
⟨some 11, .mv (.t 1), none, false, []⟩,
⟨some 12, .bin .add (.t 11) (.c (.int .i64 1)), none, false, []⟩,
⟨some 7, .mv (.t 12), none, false, []⟩]) (.seq (.seq (.region false [
⟨some 8, .mv (.c (.int .i64 0)), none, false, []⟩]) (.block 0 a88l3)) (.seq (.region false [
⟨some 6, .mv (.c (.bool false)), none, false, []⟩]) .ret))))⟩
def a89 : AFunc := ⟨17, [.tmp 4], (.seq (.region false [
⟨some 4, .mv (.c (.bool false)), none, false, []⟩]) (.seq (.region false [
⟨some 5, .mv (.t 0), none, false, []⟩,
⟨some 6, .call 101 [(.t 5)], none, false, []⟩,
⟨some 7, .mv (.t 6), none, false, []⟩,
⟨some 8, .mv (.t 1), some (7, true), false, []⟩,
⟨some 9, .call 101 [(.t 8)], some (7, true), false, []⟩,
⟨some 10, .un .not (.t 9), some (7, true), false, []⟩,
⟨some 11, .pick (.t 7) (.t 10) (.c (.bool false)), none, false, []⟩,
⟨some 12, .mv (.t 11), none, false, []⟩,
⟨some 13, .mv (.t 0), some (12, false), false, []⟩,
⟨some 14, .mv (.t 1), some (12, false), false, []⟩,
⟨some 15, .bin .lss (.t 13) (.t 14), some (12, false), false, []⟩,
⟨some 16, .pick (.t 12) (.c (.bool true)) (.t 15), none, false, []⟩,
⟨some 4, .mv (.t 16), none, false, []⟩]) .ret))⟩
def a90l0b : ACode := (.seq (.seq (.region true [
⟨some 29, .mv (.t 9), none, false, []⟩,
⟨some 30, .mv (.t 10), none, false, []⟩,
⟨some 31, .bin .leq (.t 29) (.t 30), none, false, []⟩,
⟨some 32, .mv (.t 31), none, false, []⟩,
⟨some 33, .mv (.t 0), some (32, true), false, []⟩,
⟨some 34, .mv (.t 1), some (32, true), false, []⟩,
⟨some 35, .iaddr 1 (.t 33) (.t 34), some (32, true), false, []⟩,
⟨some 36, .load 1 false (.t 35), some (32, true), false, []⟩,
⟨some 37, .mv (.t 0), some (32, true), false, []⟩,
⟨some 38, .mv (.t 9), some (32, true), false, []⟩,
⟨some 39, .iaddr 1 (.t 37) (.t 38), some (32, true), false, []⟩,
⟨some 40, .load 1 false (.t 39), some (32, true), false, []⟩,
⟨some 41, .call 89 [(.t 36), (.t 40)], some (32, true), false, []⟩,
⟨some 42, .un .not (.t 41), some (32, true), false, []⟩,
⟨some 43, .pick (.t 32) (.t 42) (.c (.bool false)), none, false, []⟩]) (.cond (.t 43) .skip (.exit 2))) (.block 3 (.region false [
⟨some 44, .mv (.t 9), none, false, []⟩,
⟨some 45, .bin .add (.t 44) (.c (.int .i64 1)), none, false, []⟩,
⟨some 9, .mv (.t 45), none, false, []⟩])))
def a90l0 : ACode := .loop [0, 1, 9, 10] [0, 1, 8, 9, 10] a90l0b
def a90l1b : ACode := (.seq (.seq (.region true [
⟨some 46, .mv (.t 9), none, false, []⟩,
⟨some 47, .mv (.t 10), none, false, []⟩,
⟨some 48, .bin .leq (.t 46) (.t 47), none, false, []⟩,
⟨some 49, .mv (.t 48), none, false, []⟩,
⟨some 50, .mv (.t 0), some (49, true), false, []⟩,
⟨some 51, .mv (.t 1), some (49, true), false, []⟩,
⟨some 52, .iaddr 1 (.t 50) (.t 51), some (49, true), false, []⟩,
⟨some 53, .load 1 false (.t 52), some (49, true), false, []⟩,
⟨some 54, .mv (.t 0), some (49, true), false, []⟩,
⟨some 55, .mv (.t 10), some (49, true), false, []⟩,
⟨some 56, .iaddr 1 (.t 54) (.t 55), some (49, true), false, []⟩,
⟨some 57, .load 1 false (.t 56), some (49, true), false, []⟩,
⟨some 58, .call 89 [(.t 53), (.t 57)], some (49, true), false, []⟩,
⟨some 59, .pick (.t 49) (.t 58) (.c (.bool false)), none, false, []⟩]) (.cond (.t 59) .skip (.exit 4))) (.block 5 (.region false [
⟨some 60, .mv (.t 10), none, false, []⟩,
⟨some 61, .bin .sub (.t 60) (.c (.int .i64 1)), none, false, []⟩,
⟨some 10, .mv (.t 61), none, false, []⟩])))
def a90l1 : ACode := .loop [0, 1, 9, 10] [0, 1, 8, 9, 10] a90l1b
def a90l2b : ACode := (.block 1 (.seq (.block 2 a90l0) (.seq (.block 4 a90l1) (.seq (.seq (.region false [
⟨some 62, .mv (.t 9), none, false, []⟩,
⟨some 63, .mv (.t 10), none, false, []⟩,
⟨some 64, .bin .gtr (.t 62) (.t 63), none, false, []⟩]) (.cond (.t 64) (.exit 0) .skip)) (.seq (.region true [
⟨some 65, .mv (.t 0), none, false, []⟩,
⟨some 66, .mv (.t 9), none, false, []⟩,
⟨some 67, .mv (.t 0), none, false, []⟩,
⟨some 68, .mv (.t 10), none, false, []⟩,
⟨some 69, .mv (.t 0), none, false, []⟩,
⟨some 70, .mv (.t 10), none, false, []⟩,
⟨some 71, .iaddr 1 (.t 69) (.t 70), none, false, []⟩,
⟨some 72, .load 1 false (.t 71), none, false, []⟩,
⟨some 73, .mv (.t 0), none, false, []⟩,
⟨some 74, .mv (.t 9), none, false, []⟩,
⟨some 75, .iaddr 1 (.t 73) (.t 74), none, false, []⟩,
⟨some 76, .load 1 false (.t 75), none, false, []⟩,
⟨some 77, .iaddr 1 (.t 65) (.t 66), none, false, []⟩,
⟨none, .store 1 (.t 77) (.t 72), none, false, []⟩,
⟨some 78, .iaddr 1 (.t 67) (.t 68), none, false, []⟩,
⟨none, .store 1 (.t 78) (.t 76), none, false, []⟩]) (.seq (.region false [
⟨some 79, .mv (.t 9), none, false, []⟩,
⟨some 80, .bin .add (.t 79) (.c (.int .i64 1)), none, false, []⟩,
⟨some 9, .mv (.t 80), none, false, []⟩]) (.region false [
⟨some 81, .mv (.t 10), none, false, []⟩,
⟨some 82, .bin .sub (.t 81) (.c (.int .i64 1)), none, false, []⟩,
⟨some 10, .mv (.t 82), none, false, []⟩])))))))
def a90l2 : ACode := .loop [0, 1, 9, 10] [8, 9] a90l2b
def a90 : AFunc := ⟨84, [.tmp 8], (.seq (.region false [
⟨some 8, .mv (.c (.int .i64 0)), none, false, []⟩]) (.seq (.region true [
⟨some 11, .mv (.t 0), none, false, []⟩,
⟨some 12, .mv (.t 1), none, false, []⟩,
⟨some 13, .mv (.t 0), none, false, []⟩,
⟨some 14, .mv (.t 3), none, false, []⟩,
⟨some 15, .mv (.t 0), none, false, []⟩,
⟨some 16, .mv (.t 3), none, false, []⟩,
⟨some 17, .iaddr 1 (.t 15) (.t 16), none, false, []⟩,
⟨some 18, .load 1 false (.t 17), none, false, []⟩,
⟨some 19, .mv (.t 0), none, false, []⟩,
⟨some 20, .mv (.t 1), none, false, []⟩,
⟨some 21, .iaddr 1 (.t 19) (.t 20), none, false, []⟩,
⟨some 22, .load 1 false (.t 21), none, false, []⟩,
⟨some 23, .iaddr 1 (.t 11) (.t 12), none, false, []⟩,
⟨none, .store 1 (.t 23) (.t 18), none, false, []⟩,
⟨some 24, .iaddr 1 (.t 13) (.t 14), none, false, []⟩,
⟨none, .store 1 (.t 24) (.t 22), none, false, []⟩]) (.seq (.region false [
⟨some 25, .mv (.t 1), none, false, []⟩,
⟨some 26, .bin .add (.t 25) (.c (.int .i64 1)), none, false, []⟩,
⟨some 27, .mv (.t 2), none, false, []⟩,
⟨some 28, .bin .sub (.t 27) (.c (.int .i64 1)), none, false, []⟩,
⟨some 9, .mv (.t 26), none, false, []⟩,
⟨some 10, .mv (.t 28), none, false, []⟩]) (.seq (.block 0 a90l2) (.seq (.region false [
⟨some 83, .mv (.t 9), none, false, []⟩,
⟨some 8, .mv (.t 83), none, false, []⟩]) .ret)))))⟩
def a91l0b : ACode := (.seq (.seq (.region true [
⟨some 30, .mv (.t 10), none, false, []⟩,
⟨some 31, .mv (.t 11), none, false, []⟩,
⟨some 32, .bin .leq (.t 30) (.t 31), none, false, []⟩,
⟨some 33, .mv (.t 32), none, false, []⟩,
⟨some 34, .mv (.t 0), some (33, true), false, []⟩,
⟨some 35, .mv (.t 10), some (33, true), false, []⟩,
⟨some 36, .iaddr 1 (.t 34) (.t 35), some (33, true), false, []⟩,
⟨some 37, .load 1 false (.t 36), some (33, true), false, []⟩,
⟨some 38, .mv (.t 0), some (33, true), false, []⟩,
⟨some 39, .mv (.t 1), some (33, true), false, []⟩,
⟨some 40, .iaddr 1 (.t 38) (.t 39), some (33, true), false, []⟩,
⟨some 41, .load 1 false (.t 40), some (33, true), false, []⟩,
⟨some 42, .call 89 [(.t 37), (.t 41)], some (33, true), false, []⟩,
⟨some 43, .pick (.t 33) (.t 42) (.c (.bool false)), none, false, []⟩]) (.cond (.t 43) .skip (.exit 0))) (.block 1 (.region false [
⟨some 44, .mv (.t 10), none, false, []⟩,
⟨some 45, .bin .add (.t 44) (.c (.int .i64 1)), none, false, []⟩,
⟨some 10, .mv (.t 45), none, false, []⟩])))
def a91l0 : ACode := .loop [0, 1, 10, 11] [0, 1, 8, 9, 10, 11] a91l0b
def a91l1b : ACode := (.seq (.seq (.region true [
⟨some 46, .mv (.t 10), none, false, []⟩,
⟨some 47, .mv (.t 11), none, false, []⟩,
⟨some 48, .bin .leq (.t 46) (.t 47), none, false, []⟩,
⟨some 49, .mv (.t 48), none, false, []⟩,
⟨some 50, .mv (.t 0), some (49, true), false, []⟩,
⟨some 51, .mv (.t 11), some (49, true), false, []⟩,
⟨some 52, .iaddr 1 (.t 50) (.t 51), some (49, true), false, []⟩,
⟨some 53, .load 1 false (.t 52), some (49, true), false, []⟩,
⟨some 54, .mv (.t 0), some (49, true), false, []⟩,
⟨some 55, .mv (.t 1), some (49, true), false, []⟩,
⟨some 56, .iaddr 1 (.t 54) (.t 55), some (49, true), false, []⟩,
⟨some 57, .load 1 false (.t 56), some (49, true), false, []⟩,
⟨some 58, .call 89 [(.t 53), (.t 57)], some (49, true), false, []⟩,
⟨some 59, .un .not (.t 58), some (49, true), false, []⟩,
⟨some 60, .pick (.t 49) (.t 59) (.c (.bool false)), none, false, []⟩]) (.cond (.t 60) .skip (.exit 2))) (.block 3 (.region false [
⟨some 61, .mv (.t 11), none, false, []⟩,
⟨some 62, .bin .sub (.t 61) (.c (.int .i64 1)), none, false, []⟩,
⟨some 11, .mv (.t 62), none, false, []⟩])))
def a91l1 : ACode := .loop [0, 1, 10, 11] [0, 1, 8, 9, 10, 11] a91l1b
def a91l2b : ACode := (.seq (.seq (.region true [
⟨some 99, .mv (.t 10), none, false, []⟩,
⟨some 100, .mv (.t 11), none, false, []⟩,
⟨some 101, .bin .leq (.t 99) (.t 100), none, false, []⟩,
⟨some 102, .mv (.t 101), none, false, []⟩,
⟨some 103, .mv (.t 0), some (102, true), false, []⟩,
⟨some 104, .mv (.t 10), some (102, true), false, []⟩,
⟨some 105, .iaddr 1 (.t 103) (.t 104), some (102, true), false, []⟩,
⟨some 106, .load 1 false (.t 105), some (102, true), false, []⟩,
⟨some 107, .mv (.t 0), some (102, true), false, []⟩,
⟨some 108, .mv (.t 1), some (102, true), false, []⟩,
⟨some 109, .iaddr 1 (.t 107) (.t 108), some (102, true), false, []⟩,
⟨some 110, .load 1 false (.t 109), some (102, true), false, []⟩,
⟨some 111, .call 89 [(.t 106), (.t 110)], some (102, true), false, []⟩,
⟨some 112, .pick (.t 102) (.t 111) (.c (.bool false)), none, false, []⟩]) (.cond (.t 112) .skip (.exit 6))) (.block 7 (.region false [
⟨some 113, .mv (.t 10), none, false, []⟩,
⟨some 114, .bin .add (.t 113) (.c (.int .i64 1)), none, false, []⟩,
⟨some 10, .mv (.t 114), none, false, []⟩])))
def a91l2 : ACode := .loop [0, 1, 10, 11] [0, 1, 8, 9, 10, 11] a91l2b
def a91l3b : ACode := (.seq (.seq (.region true [
⟨some 115, .mv (.t 10), none, false, []⟩,
⟨some 116, .mv (.t 11), none, false, []⟩,
⟨some 117, .bin .leq (.t 115) (.t 116), none, false, []⟩,
⟨some 118, .mv (.t 117), none, false, []⟩,
⟨some 119, .mv (.t 0), some (118, true), false, []⟩,
⟨some 120, .mv (.t 11), some (118, true), false, []⟩,
⟨some 121, .iaddr 1 (.t 119) (.t 120), some (118, true), false, []⟩,
⟨some 122, .load 1 false (.t 121), some (118, true), false, []⟩,
⟨some 123, .mv (.t 0), some (118, true), false, []⟩,
⟨some 124, .mv (.t 1), some (118, true), false, []⟩,
⟨some 125, .iaddr 1 (.t 123) (.t 124), some (118, true), false, []⟩,
⟨some 126, .load 1 false (.t 125), some (118, true), false, []⟩,
⟨some 127, .call 89 [(.t 122), (.t 126)], some (118, true), false, []⟩,
⟨some 128, .un .not (.t 127), some (118, true), false, []⟩,
⟨some 129, .pick (.t 118) (.t 128) (.c (.bool false)), none, false, []⟩]) (.cond (.t 129) .skip (.exit 8))) (.block 9 (.region false [
⟨some 130, .mv (.t 11), none, false, []⟩,
⟨some 131, .bin .sub (.t 130) (.c (.int .i64 1)), none, false, []⟩,
⟨some 11, .mv (.t 131), none, false, []⟩])))
def a91l3 : ACode := .loop [0, 1, 10, 11] [0, 1, 8, 9, 10, 11] a91l3b
def a91l4b : ACode := (.block 5 (.seq (.block 6 a91l2) (.seq (.block 8 a91l3) (.seq (.seq (.region false [
⟨some 132, .mv (.t 10), none, false, []⟩,
⟨some 133, .mv (.t 11), none, false, []⟩,
⟨some 134, .bin .gtr (.t 132) (.t 133), none, false, []⟩]) (.cond (.t 134) (.exit 4) .skip)) (.seq (.region true [
⟨some 135, .mv (.t 0), none, false, []⟩,
⟨some 136, .mv (.t 10), none, false, []⟩,
⟨some 137, .mv (.t 0), none, false, []⟩,
⟨some 138, .mv (.t 11), none, false, []⟩,
⟨some 139, .mv (.t 0), none, false, []⟩,
⟨some 140, .mv (.t 11), none, false, []⟩,
⟨some 141, .iaddr 1 (.t 139) (.t 140), none, false, []⟩,
⟨some 142, .load 1 false (.t 141), none, false, []⟩,
⟨some 143, .mv (.t 0), none, false, []⟩,
⟨some 144, .mv (.t 10), none, false, []⟩,
⟨some 145, .iaddr 1 (.t 143) (.t 144), none, false, []⟩,
⟨some 146, .load 1 false (.t 145), none, false, []⟩,
⟨some 147, .iaddr 1 (.t 135) (.t 136), none, false, []⟩,
⟨none, .store 1 (.t 147) (.t 142), none, false, []⟩,
⟨some 148, .iaddr 1 (.t 137) (.t 138), none, false, []⟩,
⟨none, .store 1 (.t 148) (.t 146), none, false, []⟩]) (.seq (.region false [
⟨some 149, .mv (.t 10), none, false, []⟩,
⟨some 150, .bin .add (.t 149) (.c (.int .i64 1)), none, false, []⟩,
⟨some 10, .mv (.t 150), none, false, []⟩]) (.region false [
⟨some 151, .mv (.t 11), none, false, []⟩,
⟨some 152, .bin .sub (.t 151) (.c (.int .i64 1)), none, false, []⟩,
⟨some 11, .mv (.t 152), none, false, []⟩])))))))
def a91l4 : ACode := .loop [0, 1, 10, 11] [0, 1, 8, 9, 11] a91l4b
def a91 : AFunc := ⟨168, [.tmp 8, .tmp 9], (.seq (.region false [
⟨some 8, .mv (.c (.int .i64 0)), none, false, []⟩,
⟨some 9, .mv (.c (.bool false)), none, false, []⟩]) (.seq (.region true [
⟨some 12, .mv (.t 0), none, false, []⟩,
⟨some 13, .mv (.t 1), none, false, []⟩,
⟨some 14, .mv (.t 0), none, false, []⟩,
⟨some 15, .mv (.t 3), none, false, []⟩,
⟨some 16, .mv (.t 0), none, false, []⟩,
⟨some 17, .mv (.t 3), none, false, []⟩,
⟨some 18, .iaddr 1 (.t 16) (.t 17), none, false, []⟩,
⟨some 19, .load 1 false (.t 18), none, false, []⟩,
⟨some 20, .mv (.t 0), none, false, []⟩,
⟨some 21, .mv (.t 1), none, false, []⟩,
⟨some 22, .iaddr 1 (.t 20) (.t 21), none, false, []⟩,
⟨some 23, .load 1 false (.t 22), none, false, []⟩,
⟨some 24, .iaddr 1 (.t 12) (.t 13), none, false, []⟩,
⟨none, .store 1 (.t 24) (.t 19), none, false, []⟩,
⟨some 25, .iaddr 1 (.t 14) (.t 15), none, false, []⟩,
⟨none, .store 1 (.t 25) (.t 23), none, false, []⟩]) (.seq (.region false [
⟨some 26, .mv (.t 1), none, false, []⟩,
⟨some 27, .bin .add (.t 26) (.c (.int .i64 1)), none, false, []⟩,
⟨some 28, .mv (.t 2), none, false, []⟩,
⟨some 29, .bin .sub (.t 28) (.c (.int .i64 1)), none, false, []⟩,
⟨some 10, .mv (.t 27), none, false, []⟩,
⟨some 11, .mv (.t 29), none, false, []⟩]) (.seq (.block 0 a91l0) (.seq (.block 2 a91l1) (.seq (.seq (.region false [
⟨some 63, .mv (.t 10), none, false, []⟩,
⟨some 64, .mv (.t 11), none, false, []⟩,
⟨some 65, .bin .gtr (.t 63) (.t 64), none, false, []⟩]) (.cond (.t 65) (.seq (.region true [
⟨some 66, .mv (.t 0), none, false, []⟩,
⟨some 67, .mv (.t 11), none, false, []⟩,
⟨some 68, .mv (.t 0), none, false, []⟩,
⟨some 69, .mv (.t 1), none, false, []⟩,
⟨some 70, .mv (.t 0), none, false, []⟩,
⟨some 71, .mv (.t 1), none, false, []⟩,
⟨some 72, .iaddr 1 (.t 70) (.t 71), none, false, []⟩,
⟨some 73, .load 1 false (.t 72), none, false, []⟩,
⟨some 74, .mv (.t 0), none, false, []⟩,
⟨some 75, .mv (.t 11), none, false, []⟩,
⟨some 76, .iaddr 1 (.t 74) (.t 75), none, false, []⟩,
⟨some 77, .load 1 false (.t 76), none, false, []⟩,
⟨some 78, .iaddr 1 (.t 66) (.t 67), none, false, []⟩,
⟨none, .store 1 (.t 78) (.t 73), none, false, []⟩,
⟨some 79, .iaddr 1 (.t 68) (.t 69), none, false, []⟩,
⟨none, .store 1 (.t 79) (.t 77), none, false, []⟩]) (.seq (.region false [
⟨some 80, .mv (.t 11), none, false, []⟩,
⟨some 8, .mv (.t 80), none, false, []⟩,
⟨some 9, .mv (.c (.bool true)), none, false, []⟩]) .ret)) .skip)) (.seq (.region true [
⟨some 81, .mv (.t 0), none, false, []⟩,
⟨some 82, .mv (.t 10), none, false, []⟩,
⟨some 83, .mv (.t 0), none, false, []⟩,
⟨some 84, .mv (.t 11), none, false, []⟩,
⟨some 85, .mv (.t 0), none, false, []⟩,
⟨some 86, .mv (.t 11), none, false, []⟩,
⟨some 87, .iaddr 1 (.t 85) (.t 86), none, false, []⟩,
⟨some 88, .load 1 false (.t 87), none, false, []⟩,
⟨some 89, .mv (.t 0), none, false, []⟩,
⟨some 90, .mv (.t 10), none, false, []⟩,
⟨some 91, .iaddr 1 (.t 89) (.t 90), none, false, []⟩,
⟨some 92, .load 1 false (.t 91), none, false, []⟩,
⟨some 93, .iaddr 1 (.t 81) (.t 82), none, false, []⟩,
⟨none, .store 1 (.t 93) (.t 88), none, false, []⟩,
⟨some 94, .iaddr 1 (.t 83) (.t 84), none, false, []⟩,
⟨none, .store 1 (.t 94) (.t 92), none, false, []⟩]) (.seq (.region false [
⟨some 95, .mv (.t 10), none, false, []⟩,
⟨some 96, .bin .add (.t 95) (.c (.int .i64 1)), none, false, []⟩,
⟨some 10, .mv (.t 96), none, false, []⟩]) (.seq (.region false [
⟨some 97, .mv (.t 11), none, false, []⟩,
⟨some 98, .bin .sub (.t 97) (.c (.int .i64 1)), none, false, []⟩,
⟨some 11, .mv (.t 98), none, false, []⟩]) (.seq (.block 4 a91l4) (.seq (.region true [
⟨some 153, .mv (.t 0), none, false, []⟩,
⟨some 154, .mv (.t 11), none, false, []⟩,
⟨some 155, .mv (.t 0), none, false, []⟩,
⟨some 156, .mv (.t 1), none, false, []⟩,
⟨some 157, .mv (.t 0), none, false, []⟩,
⟨some 158, .mv (.t 1), none, false, []⟩,
⟨some 159, .iaddr 1 (.t 157) (.t 158), none, false, []⟩,
⟨some 160, .load 1 false (.t 159), none, false, []⟩,
⟨some 161, .mv (.t 0), none, false, []⟩,
⟨some 162, .mv (.t 11), none, false, []⟩,
⟨some 163, .iaddr 1 (.t 161) (.t 162), none, false, []⟩,
⟨some 164, .load 1 false (.t 163), none, false, []⟩,
⟨some 165, .iaddr 1 (.t 153) (.t 154), none, false, []⟩,
⟨none, .store 1 (.t 165) (.t 160), none, false, []⟩,
⟨some 166, .iaddr 1 (.t 155) (.t 156), none, false, []⟩,
⟨none, .store 1 (.t 166) (.t 164), none, false, []⟩]) (.seq (.region false [
⟨some 167, .mv (.t 11), none, false, []⟩,
⟨some 8, .mv (.t 167), none, false, []⟩,
⟨some 9, .mv (.c (.bool false)), none, false, []⟩]) .ret))))))))))))⟩
def a92 : AFunc := ⟨19, [.tmp 2], (.seq (.region false [
⟨some 2, .mv (.c (.int .i64 0)), none, false, []⟩]) (.seq (.seq (.region false [
⟨some 3, .mv (.t 0), none, false, []⟩,
⟨some 4, .bin .geq (.t 3) (.c (.int .u32 65536)), none, false, []⟩]) (.cond (.t 4) (.seq (.region false [
⟨some 5, .mv (.t 0), none, false, []⟩,
⟨some 6, .bin .shr (.t 5) (.c (.int .u64 16)), none, false, []⟩,
⟨some 0, .mv (.t 6), none, false, []⟩]) (.region false [
⟨some 2, .mv (.c (.int .i64 16)), none, false, []⟩])) .skip)) (.seq (.seq (.region false [
⟨some 7, .mv (.t 0), none, false, []⟩,
⟨some 8, .bin .geq (.t 7) (.c (.int .u32 256)), none, false, []⟩]) (.cond (.t 8) (.seq (.region false [
⟨some 9, .mv (.t 0), none, false, []⟩,
⟨some 10, .bin .shr (.t 9) (.c (.int .u64 8)), none, false, []⟩,
⟨some 0, .mv (.t 10), none, false, []⟩]) (.region false [
⟨some 11, .mv (.t 2), none, false, []⟩,
⟨some 12, .bin .add (.t 11) (.c (.int .i64 8)), none, false, []⟩,
⟨some 2, .mv (.t 12), none, false, []⟩])) .skip)) (.seq (.region false [
⟨some 13, .mv (.t 2), none, false, []⟩,
⟨some 14, .mv (.t 0), none, false, []⟩,
⟨some 15, .conv .u8 (.t 14), none, false, []⟩,
⟨some 16, .sindex (.c (.str ⟨#[0, 1, 2, 2, 3, 3, 3, 3, 4, 4, 4, 4, 4, 4, 4, 4, 5, 5, 5, 5, 5, 5, 5, 5, 5, 5, 5, 5, 5, 5, 5, 5, 6, 6, 6, 6, 6, 6, 6, 6, 6, 6, 6, 6, 6, 6, 6, 6, 6, 6, 6, 6, 6, 6, 6, 6, 6, 6, 6, 6, 6, 6, 6, 6, 7, 7, 7, 7, 7, 7, 7, 7, 7, 7, 7, 7, 7, 7, 7, 7, 7, 7, 7, 7, 7, 7, 7, 7, 7, 7, 7, 7, 7, 7, 7, 7, 7, 7, 7, 7, 7, 7, 7, 7, 7, 7, 7, 7, 7, 7, 7, 7, 7, 7, 7, 7, 7, 7, 7, 7, 7, 7, 7, 7, 7, 7, 7, 7, 8, 8, 8, 8, 8, 8, 8, 8, 8, 8, 8, 8, 8, 8, 8, 8, 8, 8, 8, 8, 8, 8, 8, 8, 8, 8, 8, 8, 8, 8, 8, 8, 8, 8, 8, 8, 8, 8, 8, 8, 8, 8, 8, 8, 8, 8, 8, 8, 8, 8, 8, 8, 8, 8, 8, 8, 8, 8, 8, 8, 8, 8, 8, 8, 8, 8, 8, 8, 8, 8, 8, 8, 8, 8, 8, 8, 8, 8, 8, 8, 8, 8, 8, 8, 8, 8, 8, 8, 8, 8, 8, 8, 8, 8, 8, 8, 8, 8, 8, 8, 8, 8, 8, 8, 8, 8, 8, 8, 8, 8, 8, 8, 8, 8, 8, 8, 8, 8, 8, 8, 8, 8, 8, 8, 8, 8, 8, 8]⟩)) (.t 15), none, false, []⟩,
⟨some 17, .conv .i64 (.t 16), none, false, []⟩,
⟨some 18, .bin .add (.t 13) (.t 17), none, false, []⟩,
⟨some 2, .mv (.t 18), none, false, []⟩]) .ret))))⟩
def a93 : AFunc := ⟨25, [.tmp 2], (.seq (.region false [
⟨some 2, .mv (.c (.int .i64 0)), none, false, []⟩]) (.seq (.seq (.region false [
⟨some 3, .mv (.t 0), none, false, []⟩,
⟨some 4, .bin .geq (.t 3) (.c (.int .u64 4294967296)), none, false, []⟩]) (.cond (.t 4) (.seq (.region false [
⟨some 5, .mv (.t 0), none, false, []⟩,
⟨some 6, .bin .shr (.t 5) (.c (.int .u64 32)), none, false, []⟩,
⟨some 0, .mv (.t 6), none, false, []⟩]) (.region false [
⟨some 2, .mv (.c (.int .i64 32)), none, false, []⟩])) .skip)) (.seq (.seq (.region false [
⟨some 7, .mv (.t 0), none, false, []⟩,
⟨some 8, .bin .geq (.t 7) (.c (.int .u64 65536)), none, false, []⟩]) (.cond (.t 8) (.seq (.region false [
⟨some 9, .mv (.t 0), none, false, []⟩,
⟨some 10, .bin .shr (.t 9) (.c (.int .u64 16)), none, false, []⟩,
⟨some 0, .mv (.t 10), none, false, []⟩]) (.region false [
⟨some 11, .mv (.t 2), none, false, []⟩,
⟨some 12, .bin .add (.t 11) (.c (.int .i64 16)), none, false, []⟩,
⟨some 2, .mv (.t 12), none, false, []⟩])) .skip)) (.seq (.seq (.region false [
⟨some 13, .mv (.t 0), none, false, []⟩,
⟨some 14, .bin .geq (.t 13) (.c (.int .u64 256)), none, false, []⟩]) (.cond (.t 14) (.seq (.region false [
⟨some 15, .mv (.t 0), none, false, []⟩,
⟨some 16, .bin .shr (.t 15) (.c (.int .u64 8)), none, false, []⟩,
⟨some 0, .mv (.t 16), none, false, []⟩]) (.region false [
⟨some 17, .mv (.t 2), none, false, []⟩,
⟨some 18, .bin .add (.t 17) (.c (.int .i64 8)), none, false, []⟩,
⟨some 2, .mv (.t 18), none, false, []⟩])) .skip)) (.seq (.region false [
⟨some 19, .mv (.t 2), none, false, []⟩,
⟨some 20, .mv (.t 0), none, false, []⟩,
⟨some 21, .conv .u8 (.t 20), none, false, []⟩,
⟨some 22, .sindex (.c (.str ⟨#[0, 1, 2, 2, 3, 3, 3, 3, 4, 4, 4, 4, 4, 4, 4, 4, 5, 5, 5, 5, 5, 5, 5, 5, 5, 5, 5, 5, 5, 5, 5, 5, 6, 6, 6, 6, 6, 6, 6, 6, 6, 6, 6, 6, 6, 6, 6, 6, 6, 6, 6, 6, 6, 6, 6, 6, 6, 6, 6, 6, 6, 6, 6, 6, 7, 7, 7, 7, 7, 7, 7, 7, 7, 7, 7, 7, 7, 7, 7, 7, 7, 7, 7, 7, 7, 7, 7, 7, 7, 7, 7, 7, 7, 7, 7, 7, 7, 7, 7, 7, 7, 7, 7, 7, 7, 7, 7, 7, 7, 7, 7, 7, 7, 7, 7, 7, 7, 7, 7, 7, 7, 7, 7, 7, 7, 7, 7, 7, 8, 8, 8, 8, 8, 8, 8, 8, 8, 8, 8, 8, 8, 8, 8, 8, 8, 8, 8, 8, 8, 8, 8, 8, 8, 8, 8, 8, 8, 8, 8, 8, 8, 8, 8, 8, 8, 8, 8, 8, 8, 8, 8, 8, 8, 8, 8, 8, 8, 8, 8, 8, 8, 8, 8, 8, 8, 8, 8, 8, 8, 8, 8, 8, 8, 8, 8, 8, 8, 8, 8, 8, 8, 8, 8, 8, 8, 8, 8, 8, 8, 8, 8, 8, 8, 8, 8, 8, 8, 8, 8, 8, 8, 8, 8, 8, 8, 8, 8, 8, 8, 8, 8, 8, 8, 8, 8, 8, 8, 8, 8, 8, 8, 8, 8, 8, 8, 8, 8, 8, 8, 8, 8, 8, 8, 8, 8, 8]⟩)) (.t 21), none, false, []⟩,
⟨some 23, .conv .i64 (.t 22), none, false, []⟩,
⟨some 24, .bin .add (.t 19) (.t 23), none, false, []⟩,
⟨some 2, .mv (.t 24), none, false, []⟩]) .ret)))))⟩
def a94l0b : ACode := (.seq (.region false [
⟨some 9, .bin .lss (.t 8) (.t 7), none, false, []⟩]) (.seq (.cond (.t 9) .skip (.exit 0)) (.seq (.block 1 (.seq (.region false [
⟨some 10, .mv (.t 8), none, false, []⟩,
⟨some 5, .mv (.t 10), none, false, []⟩]) (.seq (.region false [
⟨some 11, .mv (.t 1), none, false, []⟩,
⟨some 12, .mv (.t 0), none, false, []⟩,
⟨some 13, .mv (.t 5), none, false, []⟩,
⟨some 14, .iaddr 4 (.t 12) (.t 13), none, false, []⟩,
⟨some 15, .load 4 true (.t 14), none, false, []⟩,
⟨some 16, .callv (.t 11) [(.t 15)], none, false, []⟩]) (.cond (.t 16) (.seq (.region false [
⟨some 17, .mv (.t 5), none, false, []⟩,
⟨some 4, .mv (.t 17), none, false, []⟩]) .ret) .skip)))) (.region false [
⟨some 18, .bin .add (.t 8) (.c (.int .i64 1)), none, false, []⟩,
⟨some 8, .mv (.t 18), none, false, []⟩]))))
def a94l0 : ACode := .loop [0, 1, 7, 8] [4] a94l0b
def a94 : AFunc := ⟨19, [.tmp 4], (.seq (.region false [
⟨some 4, .mv (.c (.int .i64 0)), none, false, []⟩]) (.seq (.seq (.region false [
⟨some 6, .mv (.t 0), none, false, []⟩,
⟨some 7, .len false (.t 6), none, false, []⟩,
⟨some 8, .mv (.c (.int .i64 0)), none, false, []⟩]) (.block 0 a94l0)) (.seq (.region false [
⟨some 4, .mv (.c (.int .i64 (-1))), none, false, []⟩]) .ret)))⟩
def a95l0b : ACode := (.seq (.seq (.region false [
⟨some 18, .mv (.t 10), none, false, []⟩,
⟨some 19, .mv (.t 11), none, false, []⟩,
⟨some 20, .bin .neq (.t 18) (.t 19), none, false, []⟩]) (.cond (.t 20) .skip (.exit 0))) (.block 1 (.seq (.region false [
⟨some 21, .mv (.t 10), none, false, []⟩,
⟨some 22, .mv (.t 11), none, false, []⟩,
⟨some 23, .bin .gtr (.t 21) (.t 22), none, false, []⟩]) (.cond (.t 23) (.seq (.region false [
⟨some 24, .mv (.t 0), none, false, []⟩,
⟨some 25, .mv (.t 2), none, false, []⟩,
⟨some 26, .mv (.t 10), none, false, []⟩,
⟨some 27, .bin .sub (.t 25) (.t 26), none, false, []⟩,
⟨some 28, .mv (.t 2), none, false, []⟩,
⟨some 29, .mv (.t 11), none, false, []⟩,
⟨some 30, .mv (.t 4), none, false, []⟩,
⟨some 31, .call 102 [(.t 24), (.t 27), (.t 28), (.t 29), (.t 30)], none, false, []⟩]) (.region false [
⟨some 32, .mv (.t 10), none, false, []⟩,
⟨some 33, .mv (.t 11), none, false, []⟩,
⟨some 34, .bin .sub (.t 32) (.t 33), none, false, []⟩,
⟨some 10, .mv (.t 34), none, false, []⟩])) (.seq (.region false [
⟨some 35, .mv (.t 0), none, false, []⟩,
⟨some 36, .mv (.t 2), none, false, []⟩,
⟨some 37, .mv (.t 10), none, false, []⟩,
⟨some 38, .bin .sub (.t 36) (.t 37), none, false, []⟩,
⟨some 39, .mv (.t 2), none, false, []⟩,
⟨some 40, .mv (.t 11), none, false, []⟩,
⟨some 41, .bin .add (.t 39) (.t 40), none, false, []⟩,
⟨some 42, .mv (.t 10), none, false, []⟩,
⟨some 43, .bin .sub (.t 41) (.t 42), none, false, []⟩,
⟨some 44, .mv (.t 10), none, false, []⟩,
⟨some 45, .mv (.t 4), none, false, []⟩,
⟨some 46, .call 102 [(.t 35), (.t 38), (.t 43), (.t 44), (.t 45)], none, false, []⟩]) (.region false [
⟨some 47, .mv (.t 11), none, false, []⟩,
⟨some 48, .mv (.t 10), none, false, []⟩,
⟨some 49, .bin .sub (.t 47) (.t 48), none, false, []⟩,
⟨some 11, .mv (.t 49), none, false, []⟩]))))))
def a95l0 : ACode := .loop [0, 2, 4, 10, 11] [0, 2, 4, 10] a95l0b
def a95 : AFunc := ⟨58, [], (.seq (.region false [
⟨some 12, .mv (.t 2), none, false, []⟩,
⟨some 13, .mv (.t 1), none, false, []⟩,
⟨some 14, .bin .sub (.t 12) (.t 13), none, false, []⟩,
⟨some 10, .mv (.t 14), none, false, []⟩]) (.seq (.region false [
⟨some 15, .mv (.t 3), none, false, []⟩,
⟨some 16, .mv (.t 2), none, false, []⟩,
⟨some 17, .bin .sub (.t 15) (.t 16), none, false, []⟩,
⟨some 11, .mv (.t 17), none, false, []⟩]) (.seq (.block 0 a95l0) (.region false [
⟨some 50, .mv (.t 0), none, false, []⟩,
⟨some 51, .mv (.t 2), none, false, []⟩,
⟨some 52, .mv (.t 10), none, false, []⟩,
⟨some 53, .bin .sub (.t 51) (.t 52), none, false, []⟩,
⟨some 54, .mv (.t 2), none, false, []⟩,
⟨some 55, .mv (.t 10), none, false, []⟩,
⟨some 56, .mv (.t 4), none, false, []⟩,
⟨some 57, .call 102 [(.t 50), (.t 53), (.t 54), (.t 55), (.t 56)], none, false, []⟩]))))⟩
def a96l0b : ACode := (.block 1 (.seq (.region false [
⟨some 11, .mv (.t 8), none, false, []⟩,
⟨some 12, .bin .mul (.c (.int .i64 2)) (.t 11), none, false, []⟩,
⟨some 13, .bin .add (.t 12) (.c (.int .i64 1)), none, false, []⟩,
⟨some 9, .mv (.t 13), none, false, []⟩]) (.seq (.seq (.region false [
⟨some 14, .mv (.t 9), none, false, []⟩,
⟨some 15, .mv (.t 2), none, false, []⟩,
⟨some 16, .bin .geq (.t 14) (.t 15), none, false, []⟩]) (.cond (.t 16) (.exit 0) .skip)) (.seq (.seq (.region true [
⟨some 17, .mv (.t 9), none, false, []⟩,
⟨some 18, .bin .add (.t 17) (.c (.int .i64 1)), none, false, []⟩,
⟨some 19, .mv (.t 2), none, false, []⟩,
⟨some 20, .bin .lss (.t 18) (.t 19), none, false, []⟩,
⟨some 21, .mv (.t 20), none, false, []⟩,
⟨some 22, .mv (.t 0), some (21, true), false, []⟩,
⟨some 23, .mv (.t 3), some (21, true), false, []⟩,
⟨some 24, .mv (.t 9), some (21, true), false, []⟩,
⟨some 25, .bin .add (.t 23) (.t 24), some (21, true), false, []⟩,
⟨some 26, .iaddr 1 (.t 22) (.t 25), some (21, true), false, []⟩,
⟨some 27, .load 1 false (.t 26), some (21, true), false, []⟩,
⟨some 28, .mv (.t 0), some (21, true), false, []⟩,
⟨some 29, .mv (.t 3), some (21, true), false, []⟩,
⟨some 30, .mv (.t 9), some (21, true), false, []⟩,
⟨some 31, .bin .add (.t 29) (.t 30), some (21, true), false, []⟩,
⟨some 32, .bin .add (.t 31) (.c (.int .i64 1)), some (21, true), false, []⟩,
⟨some 33, .iaddr 1 (.t 28) (.t 32), some (21, true), false, []⟩,
⟨some 34, .load 1 false (.t 33), some (21, true), false, []⟩,
⟨some 35, .call 89 [(.t 27), (.t 34)], some (21, true), false, []⟩,
⟨some 36, .pick (.t 21) (.t 35) (.c (.bool false)), none, false, []⟩]) (.cond (.t 36) (.region false [
⟨some 37, .mv (.t 9), none, false, []⟩,
⟨some 38, .bin .add (.t 37) (.c (.int .i64 1)), none, false, []⟩,
⟨some 9, .mv (.t 38), none, false, []⟩]) .skip)) (.seq (.seq (.region true [
⟨some 39, .mv (.t 0), none, false, []⟩,
⟨some 40, .mv (.t 3), none, false, []⟩,
⟨some 41, .mv (.t 8), none, false, []⟩,
⟨some 42, .bin .add (.t 40) (.t 41), none, false, []⟩,
⟨some 43, .iaddr 1 (.t 39) (.t 42), none, false, []⟩,
⟨some 44, .load 1 false (.t 43), none, false, []⟩,
⟨some 45, .mv (.t 0), none, false, []⟩,
⟨some 46, .mv (.t 3), none, false, []⟩,
⟨some 47, .mv (.t 9), none, false, []⟩,
⟨some 48, .bin .add (.t 46) (.t 47), none, false, []⟩,
⟨some 49, .iaddr 1 (.t 45) (.t 48), none, false, []⟩,
⟨some 50, .load 1 false (.t 49), none, false, []⟩,
⟨some 51, .call 89 [(.t 44), (.t 50)], none, false, []⟩,
⟨some 52, .un .not (.t 51), none, false, []⟩]) (.cond (.t 52) .ret .skip)) (.seq (.region true [
⟨some 53, .mv (.t 0), none, false, []⟩,
⟨some 54, .mv (.t 3), none, false, []⟩,
⟨some 55, .mv (.t 8), none, false, []⟩,
⟨some 56, .bin .add (.t 54) (.t 55), none, false, []⟩,
⟨some 57, .mv (.t 0), none, false, []⟩,
⟨some 58, .mv (.t 3), none, false, []⟩,
⟨some 59, .mv (.t 9), none, false, []⟩,
⟨some 60, .bin .add (.t 58) (.t 59), none, false, []⟩,
⟨some 61, .mv (.t 0), none, false, []⟩,
⟨some 62, .mv (.t 3), none, false, []⟩,
⟨some 63, .mv (.t 9), none, false, []⟩,
⟨some 64, .bin .add (.t 62) (.t 63), none, false, []⟩,
⟨some 65, .iaddr 1 (.t 61) (.t 64), none, false, []⟩,
⟨some 66, .load 1 false (.t 65), none, false, []⟩,
⟨some 67, .mv (.t 0), none, false, []⟩,
⟨some 68, .mv (.t 3), none, false, []⟩,
⟨some 69, .mv (.t 8), none, false, []⟩,
⟨some 70, .bin .add (.t 68) (.t 69), none, false, []⟩,
⟨some 71, .iaddr 1 (.t 67) (.t 70), none, false, []⟩,
⟨some 72, .load 1 false (.t 71), none, false, []⟩,
⟨some 73, .iaddr 1 (.t 53) (.t 56), none, false, []⟩,
⟨none, .store 1 (.t 73) (.t 66), none, false, []⟩,
⟨some 74, .iaddr 1 (.t 57) (.t 60), none, false, []⟩,
⟨none, .store 1 (.t 74) (.t 72), none, false, []⟩]) (.region false [
⟨some 75, .mv (.t 9), none, false, []⟩,
⟨some 8, .mv (.t 75), none, false, []⟩])))))))
def a96l0 : ACode := .loop [0, 2, 3, 8] [] a96l0b
def a96 : AFunc := ⟨76, [], (.seq (.region false [
⟨some 10, .mv (.t 1), none, false, []⟩,
⟨some 8, .mv (.t 10), none, false, []⟩]) (.block 0 a96l0))⟩
def a97 : AFunc := ⟨7, [.tmp 2], (.seq (.region false [
⟨some 2, .mv (.c (.int .u64 0)), none, false, []⟩]) (.seq (.region false [
⟨some 3, .mv (.t 0), none, false, []⟩,
⟨some 4, .conv .u64 (.t 3), none, false, []⟩,
⟨some 5, .call 74 [(.t 4)], none, false, []⟩,
⟨some 6, .bin .shl (.c (.int .u64 1)) (.t 5), none, false, []⟩,
⟨some 2, .mv (.t 6), none, false, []⟩]) .ret))⟩
def a98 : AFunc := ⟨33, [.tmp 2], (.seq (.region false [
⟨some 2, .mv (.c (.int .u64 0)), none, false, []⟩]) (.seq (.region true [
⟨some 3, .mv (.t 0), none, false, []⟩,
⟨some 4, .nilck (.t 3), none, false, []⟩,
⟨some 5, .load 1 false (.t 4), none, false, []⟩,
⟨some 6, .mv (.t 0), none, false, []⟩,
⟨some 7, .nilck (.t 6), none, false, []⟩,
⟨some 8, .load 1 false (.t 7), none, false, []⟩,
⟨some 9, .bin .shl (.t 8) (.c (.int .u64 13)), none, false, []⟩,
⟨some 10, .bin .xor (.t 5) (.t 9), none, false, []⟩,
⟨some 11, .nilck (.t 3), none, false, []⟩,
⟨none, .store 1 (.t 11) (.t 10), none, false, []⟩]) (.seq (.region true [
⟨some 12, .mv (.t 0), none, false, []⟩,
⟨some 13, .nilck (.t 12), none, false, []⟩,
⟨some 14, .load 1 false (.t 13), none, false, []⟩,
⟨some 15, .mv (.t 0), none, false, []⟩,
⟨some 16, .nilck (.t 15), none, false, []⟩,
⟨some 17, .load 1 false (.t 16), none, false, []⟩,
⟨some 18, .bin .shr (.t 17) (.c (.int .u64 7)), none, false, []⟩,
⟨some 19, .bin .xor (.t 14) (.t 18), none, false, []⟩,
⟨some 20, .nilck (.t 12), none, false, []⟩,
⟨none, .store 1 (.t 20) (.t 19), none, false, []⟩]) (.seq (.region true [
⟨some 21, .mv (.t 0), none, false, []⟩,
⟨some 22, .nilck (.t 21), none, false, []⟩,
⟨some 23, .load 1 false (.t 22), none, false, []⟩,
⟨some 24, .mv (.t 0), none, false, []⟩,
⟨some 25, .nilck (.t 24), none, false, []⟩,
⟨some 26, .load 1 false (.t 25), none, false, []⟩,
⟨some 27, .bin .shl (.t 26) (.c (.int .u64 17)), none, false, []⟩,
⟨some 28, .bin .xor (.t 23) (.t 27), none, false, []⟩,
⟨some 29, .nilck (.t 21), none, false, []⟩,
⟨none, .store 1 (.t 29) (.t 28), none, false, []⟩]) (.seq (.region false [
⟨some 30, .mv (.t 0), none, false, []⟩,
⟨some 31, .nilck (.t 30), none, false, []⟩,
⟨some 32, .load 1 false (.t 31), none, false, []⟩,
⟨some 2, .mv (.t 32), none, false, []⟩]) .ret)))))⟩
def a99 : AFunc := ⟨15, [.tmp 6], (.seq (.region false [
⟨some 6, .mv (.c (.int .i64 0)), none, false, []⟩]) (.seq (.region false [
⟨some 7, .mv (.t 0), none, false, []⟩,
⟨some 8, .mv (.t 1), none, false, []⟩,
⟨some 9, .bin .sub (.t 8) (.c (.int .i64 1)), none, false, []⟩,
⟨some 10, .mv (.t 1), none, false, []⟩,
⟨some 11, .mv (.t 1), none, false, []⟩,
⟨some 12, .bin .add (.t 11) (.c (.int .i64 1)), none, false, []⟩,
⟨some 13, .mv (.t 2), none, false, []⟩,
⟨some 14, .call 100 [(.t 7), (.t 9), (.t 10), (.t 12), (.t 13)], none, false, []⟩,
⟨some 6, .mv (.t 14), none, false, []⟩]) .ret))⟩
def a100 : AFunc := ⟨36, [.tmp 10], (.seq (.region false [
⟨some 10, .mv (.c (.int .i64 0)), none, false, []⟩]) (.seq (.region false [
⟨some 12, .mv (.t 0), none, false, []⟩,
⟨some 13, .mv (.t 1), none, false, []⟩,
⟨some 14, .mv (.t 2), none, false, []⟩,
⟨some 15, .mv (.t 4), none, false, []⟩,
⟨some 16, .call 103 [(.t 12), (.t 13), (.t 14), (.t 15)], none, false, []⟩,
⟨some 11, .mv (.t 16), none, false, []⟩,
⟨some 17, .ext (.t 11) 0, none, false, []⟩,
⟨some 18, .ext (.t 11) 1, none, false, []⟩,
⟨some 1, .mv (.t 17), none, false, []⟩,
⟨some 2, .mv (.t 18), none, false, []⟩]) (.seq (.region false [
⟨some 20, .mv (.t 0), none, false, []⟩,
⟨some 21, .mv (.t 2), none, false, []⟩,
⟨some 22, .mv (.t 3), none, false, []⟩,
⟨some 23, .mv (.t 4), none, false, []⟩,
⟨some 24, .call 103 [(.t 20), (.t 21), (.t 22), (.t 23)], none, false, []⟩,
⟨some 19, .mv (.t 24), none, false, []⟩,
⟨some 25, .ext (.t 19) 0, none, false, []⟩,
⟨some 26, .ext (.t 19) 1, none, false, []⟩,
⟨some 2, .mv (.t 25), none, false, []⟩,
⟨some 3, .mv (.t 26), none, false, []⟩]) (.seq (.region false [
⟨some 28, .mv (.t 0), none, false, []⟩,
⟨some 29, .mv (.t 1), none, false, []⟩,
⟨some 30, .mv (.t 2), none, false, []⟩,
⟨some 31, .mv (.t 4), none, false, []⟩,
⟨some 32, .call 103 [(.t 28), (.t 29), (.t 30), (.t 31)], none, false, []⟩,
⟨some 27, .mv (.t 32), none, false, []⟩,
⟨some 33, .ext (.t 27) 0, none, false, []⟩,
⟨some 34, .ext (.t 27) 1, none, false, []⟩,
⟨some 1, .mv (.t 33), none, false, []⟩,
⟨some 2, .mv (.t 34), none, false, []⟩]) (.seq (.region false [
⟨some 35, .mv (.t 2), none, false, []⟩,
⟨some 10, .mv (.t 35), none, false, []⟩]) .ret)))))⟩
def a101 : AFunc := ⟨6, [.tmp 2], (.seq (.region false [
⟨some 2, .mv (.c (.bool false)), none, false, []⟩]) (.seq (.region false [
⟨some 3, .mv (.t 0), none, false, []⟩,
⟨some 4, .mv (.t 0), none, false, []⟩,
⟨some 5, .bin .neq (.t 3) (.t 4), none, false, []⟩,
⟨some 2, .mv (.t 5), none, false, []⟩]) .ret))⟩
def a102l0b : ACode := (.seq (.seq (.region false [
⟨some 11, .mv (.t 10), none, false, []⟩,
⟨some 12, .mv (.t 3), none, false, []⟩,
⟨some 13, .bin .lss (.t 11) (.t 12), none, false, []⟩]) (.cond (.t 13) .skip (.exit 0))) (.seq (.block 1 (.region true [
⟨some 16, .mv (.t 0), none, false, []⟩,
⟨some 17, .mv (.t 1), none, false, []⟩,
⟨some 18, .mv (.t 10), none, false, []⟩,
⟨some 19, .bin .add (.t 17) (.t 18), none, false, []⟩,
⟨some 20, .mv (.t 0), none, false, []⟩,
⟨some 21, .mv (.t 2), none, false, []⟩,
⟨some 22, .mv (.t 10), none, false, []⟩,
⟨some 23, .bin .add (.t 21) (.t 22), none, false, []⟩,
⟨some 24, .mv (.t 0), none, false, []⟩,
⟨some 25, .mv (.t 2), none, false, []⟩,
⟨some 26, .mv (.t 10), none, false, []⟩,
⟨some 27, .bin .add (.t 25) (.t 26), none, false, []⟩,
⟨some 28, .iaddr 1 (.t 24) (.t 27), none, false, []⟩,
⟨some 29, .load 1 false (.t 28), none, false, []⟩,
⟨some 30, .mv (.t 0), none, false, []⟩,
⟨some 31, .mv (.t 1), none, false, []⟩,
⟨some 32, .mv (.t 10), none, false, []⟩,
⟨some 33, .bin .add (.t 31) (.t 32), none, false, []⟩,
⟨some 34, .iaddr 1 (.t 30) (.t 33), none, false, []⟩,
⟨some 35, .load 1 false (.t 34), none, false, []⟩,
⟨some 36, .iaddr 1 (.t 16) (.t 19), none, false, []⟩,
⟨none, .store 1 (.t 36) (.t 29), none, false, []⟩,
⟨some 37, .iaddr 1 (.t 20) (.t 23), none, false, []⟩,
⟨none, .store 1 (.t 37) (.t 35), none, false, []⟩])) (.region false [
⟨some 14, .mv (.t 10), none, false, []⟩,
⟨some 15, .bin .add (.t 14) (.c (.int .i64 1)), none, false, []⟩,
⟨some 10, .mv (.t 15), none, false, []⟩])))
def a102l0 : ACode := .loop [0, 1, 2, 3, 10] [] a102l0b
def a102 : AFunc := ⟨38, [], (.seq (.region false [
⟨some 10, .mv (.c (.int .i64 0)), none, false, []⟩]) (.block 0 a102l0))⟩
def a103 : AFunc := ⟨28, [.tmp 8, .tmp 9], (.seq (.region false [
⟨some 8, .mv (.c (.int .i64 0)), none, false, []⟩,
⟨some 9, .mv (.c (.int .i64 0)), none, false, []⟩]) (.seq (.seq (.region true [
⟨some 10, .mv (.t 0), none, false, []⟩,
⟨some 11, .mv (.t 2), none, false, []⟩,
⟨some 12, .iaddr 1 (.t 10) (.t 11), none, false, []⟩,
⟨some 13, .load 1 false (.t 12), none, false, []⟩,
⟨some 14, .mv (.t 0), none, false, []⟩,
⟨some 15, .mv (.t 1), none, false, []⟩,
⟨some 16, .iaddr 1 (.t 14) (.t 15), none, false, []⟩,
⟨some 17, .load 1 false (.t 16), none, false, []⟩,
⟨some 18, .call 89 [(.t 13), (.t 17)], none, false, []⟩]) (.cond (.t 18) (.seq (.region false [
⟨some 19, .mv (.t 3), none, false, []⟩,
⟨some 20, .nilck (.t 19), none, false, []⟩,
⟨some 21, .load 1 false (.t 20), none, false, []⟩,
⟨some 22, .bin .add (.t 21) (.c (.int .i64 1)), none, false, []⟩,
⟨some 23, .nilck (.t 19), none, false, []⟩,
⟨none, .store 1 (.t 23) (.t 22), none, false, []⟩]) (.seq (.region false [
⟨some 24, .mv (.t 2), none, false, []⟩,
⟨some 25, .mv (.t 1), none, false, []⟩,
⟨some 8, .mv (.t 24), none, false, []⟩,
⟨some 9, .mv (.t 25), none, false, []⟩]) .ret)) .skip)) (.seq (.region false [
⟨some 26, .mv (.t 1), none, false, []⟩,
⟨some 27, .mv (.t 2), none, false, []⟩,
⟨some 8, .mv (.t 26), none, false, []⟩,
⟨some 9, .mv (.t 27), none, false, []⟩]) .ret)))⟩
def tab : Nat → Option AFunc
  | 4 => some a4
  | 5 => some a5
  | 7 => some a7
  | 8 => some a8
  | 9 => some a9
  | 10 => some a10
  | 11 => some a11
  | 12 => some a12
  | 15 => some a15
  | 16 => some a16
  | 17 => some a17
  | 18 => some a18
  | 19 => some a19
  | 20 => some a20
  | 21 => some a21
  | 22 => some a22
  | 23 => some a23
  | 24 => some a24
  | 25 => some a25
  | 26 => some a26
  | 27 => some a27
  | 28 => some a28
  | 29 => some a29
  | 30 => some a30
  | 31 => some a31
  | 32 => some a32
  | 33 => some a33
  | 34 => some a34
  | 35 => some a35
  | 36 => some a36
  | 37 => some a37
  | 38 => some a38
  | 39 => some a39
  | 40 => some a40
  | 41 => some a41
  | 42 => some a42
  | 43 => some a43
  | 44 => some a44
  | 45 => some a45
  | 46 => some a46
  | 47 => some a47
  | 48 => some a48
  | 49 => some a49
  | 50 => some a50
  | 51 => some a51
  | 52 => some a52
  | 53 => some a53
  | 54 => some a54
  | 55 => some a55
  | 56 => some a56
  | 57 => some a57
  | 58 => some a58
  | 59 => some a59
  | 60 => some a60
  | 61 => some a61
  | 62 => some a62
  | 63 => some a63
  | 64 => some a64
  | 65 => some a65
  | 66 => some a66
  | 67 => some a67
  | 68 => some a68
  | 69 => some a69
  | 70 => some a70
  | 71 => some a71
  | 72 => some a72
  | 73 => some a73
  | 74 => some a74
  | 75 => some a75
  | 76 => some a76
  | 77 => some a77
  | 78 => some a78
  | 79 => some a79
  | 80 => some a80
  | 81 => some a81
  | 82 => some a82
  | 83 => some a83
  | 84 => some a84
  | 85 => some a85
  | 86 => some a86
  | 87 => some a87
  | 88 => some a88
  | 89 => some a89
  | 90 => some a90
  | 91 => some a91
  | 92 => some a92
  | 93 => some a93
  | 94 => some a94
  | 95 => some a95
  | 96 => some a96
  | 97 => some a97
  | 98 => some a98
  | 99 => some a99
  | 100 => some a100
  | 101 => some a101
  | 102 => some a102
  | 103 => some a103
  | _ => none
end Go.AI
